/- P16: a part of the proof. Conditions: as each theorem says. -/
import Derived.Test.YtggemlhclppciaaGreatDoorP15
set_option maxHeartbeats 4000000
set_option linter.unusedSimpArgs false
set_option linter.unusedVariables false
set_option maxRecDepth 20000
namespace Go.Ai
open Go.Proofs
theorem pJ (x:It):ba x.row=[]:=by
 obtain ⟨n,ws,b,ks,ln,co⟩:=x;rw [It.row];rfl
mutual
def K4:It→It→Bool
 | .mk n ws b ks _ _,.mk n' ws' b' ks' _ _=>n==n'&&((b==b')&&(ot ws ws'&&kp ks ks'))
def kp:List It→List It→Bool
 |[],[]=>true
 |x::r,y::s=>K4 x y&&kp r s
 |_,_=>false
end
theorem ow: ∀(A B:List It),A.length≠B.length→kp A B=false
 |[],[],h=>absurd rfl h
 |[],w::s,_=>by rw [kp]<;>intros<;>simp_all
 |v::r,[],_=>by rw [kp]<;>intros<;>simp_all
 |v::r,w::s,h=>by rw [kp,ow r s (by simpa using h),Mz]
theorem K5 (x y:It) (hx:Cm x) (hS: ∀n ws b ks l c n' ws' b' ks' l' c',x= .mk n ws b ks l c→y= .mk n' ws' b' ks' l' c'→Sp Tryz.prog gl 17 [.sl (ar ks),.sl (ar ks')] (.bool (kp ks ks'))):Sp Tryz.prog gl 36 [.agg x.row,.agg y.row] (.bool (K4 x y)):=by
 refine Vj rfl (by simp [ba,AV.ids,pJ]) ?_;obtain ⟨n,ws,b,ks,l,c⟩:=x;obtain ⟨n',ws',b',ks',l',c'⟩:=y;have S1:=hS n ws b ks l c n' ws' b' ks' l' c' rfl rfl;rw [Cm] at hx;have E:=Ii ws ws' (by omega);rw [It.row,It.row,K4];generalize ar ks=KR at *
 generalize ar ks'=KR' at *
 generalize ws.map Tk.row=WR at *
 generalize ws'.map Tk.row=WR' at *
 generalize ot ws ws'=q1 at *
 generalize kp ks ks'=q2 at *
 cases hn:n==n'
 ·simp [PX,hn]
 ·cases hb:b==b'
  ·simp [PX,hn,hb]
  ·simp [PX,hn,hb];refine aB _ _ (E _) ?_;cases q1
   ·simp
   ·simp;apply ab S1;simp
theorem zP (A B:List It) (hA:A.length≤1000000) (hC: ∀i (h:i<A.length) (h2:i<B.length),Sp Tryz.prog gl 36 [.agg A[i].row,.agg B[i].row] (.bool (K4 A[i] B[i]))) (d:Nat):
  cB Tryz.prog gl 35 d ⟨[.sl (ar A),.sl (ar B),.fn 36 []],[],[]⟩ ⟨.bool (kp A B),[],[]⟩:=by
 refine Vi rfl ?_;have al:=bA A;have bl:=bA B;have aat:=dW A;have bat:=dW B;have s6A:=wQ A;have s6B:=wQ B;obtain ⟨R,hR⟩: ∃R,R=kp A B:=⟨_,rfl⟩;have hne:A.length≠B.length→R=false:=fun h=>by rw [hR];exact ow A B h
 rw [←hR];generalize ar A=AR at *
 generalize ar B=BR at *
 simp only [aF,bV,bp,AV.mp,b7,Pl.mp];by_cases c:A.length=B.length
 ·have c':((A.length:Int)!=(B.length:Int))=false:=by rw [c];simp
  simp [QX,al,bl,c];refine aP (α:=Nat) (fun i=>⟨[(1,.sl BR),(2,.fn 36 []),(15,.sl AR),(16,i6 B.length),(17,i6 i)],[],[]⟩) (fun i=>i≤A.length∧R=kp (A.drop i) (B.drop i)) (fun i=>A.length - i) ?_ 0 ?_ ?_
  ·rintro K i hK ⟨h1,h2⟩;by_cases g:i<A.length
   ·have t1:IntKind.i64.wrap ((i:Int)+1)=(i+1:Nat):=by rw [aj]<;>omega
    have gB:i<B.length:=by omega
    have gA':i<AR.length:=by omega
    have gB':i<BR.length:=by omega
    have ra:=aat i g gA';have rb:=bat i gB gB';rw [oU g,oU gB] at h2;simp only [kp] at h2;have C:=fun d=>Sp.h (d:=d) (hC i g gB)
    have n1:=pJ A[i];have n2:=pJ B[i];have z1: ∀f,bp f A[i].row=A[i].row:=fun f=>iu n1
    have z2: ∀f,bp f B[i].row=B[i].row:=fun f=>iu n2
    have y1:A[i].row.length=6:=s6A _ (by rw [←ra];exact ml gA');have y2:B[i].row.length=6:=s6B _ (by rw [←rb];exact ml gB');have u1:List.take 6 A[i].row=A[i].row:=List.take_of_length_le (by omega);have u2:List.take 6 B[i].row=B[i].row:=List.take_of_length_le (by omega);have fin:K4 A[i] B[i]=true→ ∀σ',dL σ' ⟨[(1,.sl BR),(2,.fn 36 []),(15,.sl AR),(16,i6 B.length),(17,i6 (i+1:Nat))],[],[]⟩→K σ':=fun hg σ' hσ=>
     hK (i+1) σ' ⟨by omega,by rw [hg,ib] at h2;exact h2⟩ (by omega) hσ
    have hneg:K4 A[i] B[i]=false→R=false:=fun hg=>by rw [hg,iR] at h2;exact h2
    clear hK hR h2 hne aat bat;generalize K4 A[i] B[i]=q at *
    clear hC;generalize A[i].row=va at *
    generalize B[i].row=vb at *
    simp [g,gB,gA',gB',ra,rb,y1,y2,u1,u2];refine aQ _ _ (C _) ⟨?_,?_,?_,?_,?_,?_,?_⟩ ?_;iterate 7 (· simp [n1,n2,z1,z2])
    cases q
    ·have hn:=hneg rfl;subst hn;simp;apply am<;>simp
    ·have fin:=fin rfl;simp [t1];refine fin _ ?_;apply ae<;>simp [t1]
   ·obtain rfl:i=A.length:=by omega
    rw [A6,c,A6] at h2;have h2:R=true:=h2;subst h2;clear hK;simp [c];apply am<;>simp
  ·exact ⟨iA _,hR⟩
  ·apply ae<;>simp [al,bl,c]
 ·have h2:=hne c;subst h2;have c2: ¬(A.length:Int)=(B.length:Int):=by omega
  have c3:((A.length:Int)!=(B.length:Int))=true:=bne_iff_ne.2 c2;have c4:((A.length:Int)==(B.length:Int))=false:=cI.2 c2;simp [QX,al,bl,c,c2,c3,c4];apply am<;>simp
theorem Cn: ∀(N:Nat) (A B:List It),aT A≤N→aT A≤100000→uF A→Sp Tryz.prog gl 17 [.sl (ar A),.sl (ar B)] (.bool (kp A B)):=by
 intro N;induction N with
 |zero=>
  intro A B h hc hw;have hA:A=[]:=by
   have:=eh A
   exact AN (by omega)
  subst hA;have E:=zP [] B (by simp) (fun i h=>absurd h (by simp));refine Ut rfl rfl ?_;generalize kp [] B=q at *
  generalize ar B=BR at *
  generalize ar []=AR at *
  simp [QT];refine aB _ _ (E _) ?_;simp
 |succ N ih=>
  intro A B h hc hw;have la:=eh A;have E:=zP A B (by omega) (fun i h1 h2=>K5 A[i] B[i] (pH hw (ml h1)) (fun n ws b ks l c n' ws' b' ks' l' c' e1 e2=>by
   have q1:=iZ (ml h1);have q2:=pH hw (ml h1);rw [e1,fC] at q1;rw [e1,Cm] at q2;exact ih ks ks' (by omega) (by omega) q2.2))
  refine Ut rfl rfl ?_;generalize kp A B=q at *
  generalize ar B=BR at *
  generalize ar A=AR at *
  simp [QT];refine aB _ _ (E _) ?_;simp
mutual
theorem K6: ∀(x y:It),K4 x y=true↔sQ x=sQ y
 | .mk n ws b ks l c,.mk n' ws' b' ks' l' c'=>by
  rw [K4,sQ,sQ];simp only [aE,bP,It.mk.injEq,zO,sX ks ks',and_true];constructor
  ·rintro ⟨h1,h2,h3,h4⟩;exact ⟨h1,h3,h2,h4⟩
  ·rintro ⟨h1,h3,h2,h4⟩;exact ⟨h1,h2,h3,h4⟩
theorem sX: ∀(A B:List It),kp A B=true↔gM A=gM B
 |[],[]=>by rw [kp];simp [gM]
 |[],w::s=>by
  rw [ow [] (w::s) (by simp)];simp [gM]
 |v::r,[]=>by
  rw [ow (v::r) [] (by simp)];simp [gM]
 |v::r,w::s=>by rw [kp,aE,K6 v w,sX r s,gM,gM,List.cons.injEq]
end
open Go.Shelf
mutual
def Fy:It→Prop
 | .mk _ ws _ ks _ _=>(∀w∈ws,w.n<18446744073709551616)∧xS ks
def xS:List It→Prop
 |[]=>True
 |x::r=>Fy x∧xS r
end
theorem Co: ∀ {L:List It} {x:It},xS L→x∈L→Fy x
 |y::L,x,hw,h=>by
  rw [xS] at hw;rcases jU.1 h with rfl|h
  ·exact hw.1
  ·exact Co hw.2 h
theorem kq (V:List (List UInt8)):(bt V).flatten=V.map AV.str:=by
 unfold bt;induction V with
 |nil=>rfl
 |cons a r ih=>rw [iP,List.flatten_cons,ih];rfl
theorem rx (V:List (List UInt8)):ba (V.map AV.str)=[]:=by
 induction V with
 |nil=>rfl
 |cons a r ih=>rw [iP,ba,ih];rfl
theorem qp (V:List (List UInt8)): ∀r∈bt V,r.length=1:=by
 intro r hr;unfold bt at hr;rw [vY] at hr;obtain ⟨x,_,rfl⟩:=hr;rfl
theorem zQ (a b:List (List UInt8)):bt (a++b)=bt a++bt b:=List.map_append
theorem vG: ∀(A:List (List UInt8)) (x:List UInt8),Lib.join (A++[x++[59]]) [32]=Lib.join (A++[x]) [32]++[59]
 |[],x=>by rw [bR,bR,Lib.join_one,Lib.join_one]
 |n::A,x=>by
  rw [lT,lT];simp
theorem xf: ∀(A:List (List UInt8)) (x:List UInt8),x.length≤(Lib.join (A++[x]) [32]).length
 |[],x=>by rw [bR,Lib.join_one];omega
 |n::A,x=>by rw [lT,cG,em];omega
theorem K7 (a:List UInt8) (r:List (List UInt8)): ∃A x,a::r=A++[x]∧A.length=r.length:=by
 rcases List.eq_nil_or_concat (a::r) with h|⟨A,x,h⟩
 ·cases h
 ·refine ⟨A,x,by rw [h,List.concat_eq_append],?_⟩
  have:=congrArg List.length h
  simp at this;omega
def cE (L:List It) (c:AV) (b:Id):AV:=match L with
 |[]=>c
 |_::_=> .ptr b 0
theorem NG (L:List It) (b:Id):cE L (.ptr b 0) b= .ptr b 0:=by cases L<;>rfl
theorem zR (d:Nat) (n:List UInt8) (ws:List Tk) (ks:List It) (ln co:Int):D6 d (.mk n ws false ks ln co)=eX d++(Lib.join (n::ws.map lS) [32]++[59]++[10]):=by
 rw [D6,if_pos rfl,zJ];simp
theorem Fz (d:Nat) (n:List UInt8) (ws:List Tk) (ks:List It) (ln co:Int) (T:List UInt8):T++D6 d (.mk n ws true ks ln co)=
  ((T++(eX d++(Lib.join ((n::ws.map lS)++[[123]]) [32]++[10])))++eZ (d+1) ks)++(eX d++(Lib.join [[125]] [32]++[10])):=by
 rw [D6,if_neg (by decide),lT,zJ,Lib.join_one];simp
theorem zS (d:Nat) (L:List It) (i:Nat) (h:i<L.length):eZ d (L.take (i+1))=eZ d (L.take i)++D6 d L[i]:=by
 rw [Dg h,rh,eZ,eZ,nA]
theorem NH (d:Nat) (L:List It) (i:Nat):(eZ d (L.take i)).length≤(eZ d L).length:=by
 have:=rh d (L.take i) (L.drop i)
 rw [EF] at this;rw [this,cG];omega
theorem NI (f d:Nat) (out:List It) (z:Tk) (n:Nat) (hz:vE z) (hf:2*([z]:List Tk).length+1≤f): ∃l',pL f d 0 out [z] n= .ok out l' n:=by
 cases f with
 |zero=>simp at hf
 |succ f=>
  rw [pL];rw [if_pos hz.1];exact ⟨_,rfl⟩
theorem zT (L:List It) (h:sT L) (hw:JJ L) (hd:L=[]∨bN L≤4) (hc:aT L≤300) (hl:(eZ 0 L).length≤40000):(ke (eZ 0 L)).2=(0,0,0)∧gM (ke (eZ 0 L)).1=gM L:=by
 obtain ⟨o,z,e,c,hs⟩:=Cl L h hl;obtain ⟨o2,z2,e2,_,hz⟩:=zL c;rw [e] at e2;obtain ⟨rfl,ez⟩:=List.append_inj' e2 rfl;cases ez;unfold ke;rw [if_neg (by rw [c];simp),e];have B:=(L7 (2*(o++[z]).length+3)).1 L o [z] 1 0 [] 0 hs hw (by simp) (by omega) (.inl rfl) (by omega);rw [mM] at B;rcases B with ⟨its',f',h3,h4,h5,_,h7⟩|⟨c,t,l',n',h3,h4⟩
 ·obtain ⟨l'',hp⟩:=NI f' 1 ([]++its') z (aT L) hz h5;rw [hp] at h4;rw [h4];refine ⟨rfl,?_⟩;dsimp only;rw [bR,h3]
 ·exfalso;have d4:bN L≤4:=by
   rcases hd with rfl|hd
   ·rw [bN];omega
   ·exact hd
  rcases h4 with ⟨_,h⟩|⟨_,h⟩<;>omega
def Cp (x:It):Bool:=match x with
 | .mk n ws _ _ _ _=>decide (n.length≤2000)&&(decide (ws.length≤20)&&ws.all (fun t=>decide (t.t.length≤2000)))
mutual
def PI:It→Nat→Nat→Option Nat
 | .mk n ws b ks l c,d,m=>if m=0∨Cp (.mk n ws b ks l c)=false then none else if (d=1∧ks≠[])∨m - 1<ks.length then none else AX ks (d - 1) (m - 1)
def AX:List It→Nat→Nat→Option Nat
 |[],_,m=>some m
 |x::r,d,m=>match PI x d m with
  |none=>none
  |some m'=>AX r d m'
end
def wg (L:List It) (d m:Nat):Option Nat:=if (d=0∧L≠[])∨m<L.length then none else AX L d m
def AY (o:Option Nat):Int:=match o with
 |none=> -1
 |some m=>m
mutual
theorem NJ: ∀(x:It) (d m q:Nat),1≤d→PI x d m=some q→fC x+q=m∧lm x≤d∧Cm x
 | .mk n ws b ks l c,d,m,q,hd,h=>by
  rw [PI] at h;split at h
  ·cases h
  ·rename_i h1;simp only [not_or,Bool.not_eq_false] at h1;split at h
   ·cases h
   ·rename_i h2;simp only [not_or,not_and,ne_eq,Decidable.not_not] at h2;obtain ⟨m0,ok⟩:=h1;unfold Cp at ok;simp only [aE,o5,gE] at ok;obtain ⟨o1,o2,o3⟩:=ok;have hb:(ws.length≤1000∧n.length≤100000∧ ∀t∈ws,t.t.length≤100000):=⟨by omega,by omega,fun t ht=>by have:=o3 t ht;omega⟩;rw [fC,lm,Cm];by_cases e:d=1
    ·have hk:=h2.1 e;subst hk;rw [AX] at h;cases h;refine ⟨by rw [aT];omega,by rw [bN];omega,hb,by rw [uF];trivial⟩
    ·obtain ⟨q1,q2,q3⟩:=xg ks (d - 1) (m - 1) q (by omega) h;exact ⟨by omega,by omega,hb,q3⟩
theorem xg: ∀(L:List It) (d m q:Nat),1≤d→AX L d m=some q→aT L+q=m∧bN L≤d∧uF L
 |[],d,m,q,hd,h=>by
  rw [AX] at h;cases h;exact ⟨by rw [aT];omega,by rw [bN];omega,by rw [uF];trivial⟩
 |x::r,d,m,q,hd,h=>by
  rw [AX] at h;split at h
  ·cases h
  ·rename_i m' hx;obtain ⟨q1,q2,q3⟩:=NJ x d m m' hd hx;obtain ⟨p1,p2,p3⟩:=xg r d m' q hd h;exact ⟨by rw [aT];omega,by rw [bN];omega,by rw [uF];exact ⟨q3,p3⟩⟩
end
theorem PJ {L:List It} {q:Nat} (h:wg L 40 400=some q):aT L≤400∧bN L≤40∧uF L:=by
 unfold wg at h;split at h
 ·cases h
 ·obtain ⟨q1,q2,q3⟩:=xg L 40 400 q (by decide) h;exact ⟨by omega,q2,q3⟩
end Go.Ai
