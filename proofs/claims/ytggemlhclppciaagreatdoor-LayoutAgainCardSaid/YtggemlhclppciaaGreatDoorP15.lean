/- P15: a part of the proof. Conditions: as each theorem says. -/
import Derived.Test.YtggemlhclppciaaGreatDoorP14
set_option maxHeartbeats 4000000
set_option linter.unusedSimpArgs false
set_option linter.unusedVariables false
set_option maxRecDepth 20000
namespace Go.Ai
open Go.Proofs
mutual
def HM:It→It→Bool
 | .mk n ws b ks _ _,.mk n' ws' b' ks' _ _=>n==n'&&((b==b')&&(mB ws ws'&&jq ks ks'))
def jq:List It→List It→Bool
 |[],[]=>true
 |x::r,y::s=>HM x y&&jq r s
 |_,_=>false
end
theorem mE: ∀(A B:List It),A.length≠B.length→jq A B=false
 |[],[],h=>absurd rfl h
 |[],w::s,_=>by rw [jq]<;>intros<;>simp_all
 |v::r,[],_=>by rw [jq]<;>intros<;>simp_all
 |v::r,w::s,h=>by rw [jq,mE r s (by simpa using h),Lp]
theorem HN (x y:It) (hx:Cz x) (hS: ∀n ws b ks l c n' ws' b' ks' l' c',x= .mk n ws b ks l c→y= .mk n' ws' b' ks' l' c'→Sp Tryz.prog gl 17 [.sl (aw ks),.sl (aw ks')] (.bool (jq ks ks'))):Sp Tryz.prog gl 36 [.agg x.row,.agg y.row] (.bool (HM x y)):=by
 refine QD rfl (by simp [bc,AV.ids,nQ]) ?_;obtain ⟨n,ws,b,ks,l,c⟩:=x;obtain ⟨n',ws',b',ks',l',c'⟩:=y;have S1:=hS n ws b ks l c n' ws' b' ks' l' c' rfl rfl;rw [Cz] at hx;have E:=EW ws ws' (by omega);rw [It.row,It.row,HM];generalize aw ks=KR at *
 generalize aw ks'=KR' at *
 generalize ws.map Tk.row=WR at *
 generalize ws'.map Tk.row=WR' at *
 generalize mB ws ws'=q1 at *
 generalize jq ks ks'=q2 at *
 cases hn:n==n'
 ·simp [Md,hn]
 ·cases hb:b==b'
  ·simp [Md,hn,hb]
  ·simp [Md,hn,hb];refine ax _ _ (E _) ?_;cases q1
   ·simp
   ·simp;apply ab S1;simp
theorem wW (A B:List It) (hA:A.length≤1000000) (hC: ∀i (h:i<A.length) (h2:i<B.length),Sp Tryz.prog gl 36 [.agg A[i].row,.agg B[i].row] (.bool (HM A[i] B[i]))) (d:Nat):
  b7 Tryz.prog gl 35 d ⟨[.sl (aw A),.sl (aw B),.fn 36 []],[],[]⟩ ⟨.bool (jq A B),[],[]⟩:=by
 refine QC rfl ?_;have al:=ew A;have bl:=ew B;have aat:=iO A;have bat:=iO B;have s6A:=uk A;have s6B:=uk B;obtain ⟨R,hR⟩: ∃R,R=jq A B:=⟨_,rfl⟩;have hne:A.length≠B.length→R=false:=fun h=>by rw [hR];exact mE A B h
 rw [←hR];generalize aw A=AR at *
 generalize aw B=BR at *
 simp only [az,bE,a7,AV.mp,bK,Pl.mp];by_cases c:A.length=B.length
 ·have c':((A.length:Int)!=(B.length:Int))=false:=by rw [c];simp
  simp [Nf,al,bl,c];refine bT (α:=Nat) (fun i=>⟨[(1,.sl BR),(2,.fn 36 []),(15,.sl AR),(16,i6 B.length),(17,i6 i)],[],[]⟩) (fun i=>i≤A.length∧R=jq (A.drop i) (B.drop i)) (fun i=>A.length - i) ?_ 0 ?_ ?_
  ·rintro K i hK ⟨h1,h2⟩;by_cases g:i<A.length
   ·have t1:IntKind.i64.wrap ((i:Int)+1)=(i+1:Nat):=by rw [an]<;>omega
    have gB:i<B.length:=by omega
    have gA':i<AR.length:=by omega
    have gB':i<BR.length:=by omega
    have ra:=aat i g gA';have rb:=bat i gB gB';rw [sf g,sf gB] at h2;simp only [jq] at h2;have C:=fun d=>Sp.h (d:=d) (hC i g gB)
    have n1:=nQ A[i];have n2:=nQ B[i];have z1: ∀f,a7 f A[i].row=A[i].row:=fun f=>gp n1
    have z2: ∀f,a7 f B[i].row=B[i].row:=fun f=>gp n2
    have y1:A[i].row.length=6:=s6A _ (by rw [←ra];exact rL gA');have y2:B[i].row.length=6:=s6B _ (by rw [←rb];exact rL gB');have u1:List.take 6 A[i].row=A[i].row:=List.take_of_length_le (by omega);have u2:List.take 6 B[i].row=B[i].row:=List.take_of_length_le (by omega);have fin:HM A[i] B[i]=true→ ∀σ',e7 σ' ⟨[(1,.sl BR),(2,.fn 36 []),(15,.sl AR),(16,i6 B.length),(17,i6 (i+1:Nat))],[],[]⟩→K σ':=fun hg σ' hσ=>
     hK (i+1) σ' ⟨by omega,by rw [hg,kL] at h2;exact h2⟩ (by omega) hσ
    have hneg:HM A[i] B[i]=false→R=false:=fun hg=>by rw [hg,lQ] at h2;exact h2
    clear hK hR h2 hne aat bat;generalize HM A[i] B[i]=q at *
    clear hC;generalize A[i].row=va at *
    generalize B[i].row=vb at *
    simp [g,gB,gA',gB',ra,rb,y1,y2,u1,u2];refine aK _ _ (C _) ⟨?_,?_,?_,?_,?_,?_,?_⟩ ?_;iterate 7 (· simp [n1,n2,z1,z2])
    cases q
    ·have hn:=hneg rfl;subst hn;simp;apply ai<;>simp
    ·have fin:=fin rfl;simp [t1];refine fin _ ?_;apply am<;>simp [t1]
   ·obtain rfl:i=A.length:=by omega
    rw [Ix,c,Ix] at h2;have h2:R=true:=h2;subst h2;clear hK;simp [c];apply ai<;>simp
  ·exact ⟨jI _,hR⟩
  ·apply am<;>simp [al,bl,c]
 ·have h2:=hne c;subst h2;have c2: ¬(A.length:Int)=(B.length:Int):=by omega
  have c3:((A.length:Int)!=(B.length:Int))=true:=bne_iff_ne.2 c2;have c4:((A.length:Int)==(B.length:Int))=false:=dh.2 c2;simp [Nf,al,bl,c,c2,c3,c4];apply ai<;>simp
theorem zM: ∀(N:Nat) (A B:List It),bM A≤N→bM A≤100000→wT A→Sp Tryz.prog gl 17 [.sl (aw A),.sl (aw B)] (.bool (jq A B)):=by
 intro N;induction N with
 |zero=>
  intro A B h hc hw;have hA:A=[]:=by
   have:=hY A
   exact Dh (by omega)
  subst hA;have E:=wW [] B (by simp) (fun i h=>absurd h (by simp));refine PX rfl rfl ?_;generalize jq [] B=q at *
  generalize aw B=BR at *
  generalize aw []=AR at *
  simp [Nb];refine ax _ _ (E _) ?_;simp
 |succ N ih=>
  intro A B h hc hw;have la:=hY A;have E:=wW A B (by omega) (fun i h1 h2=>HN A[i] B[i] (uF hw (rL h1)) (fun n ws b ks l c n' ws' b' ks' l' c' e1 e2=>by
   have q1:=ph (rL h1);have q2:=uF hw (rL h1);rw [e1,ga] at q1;rw [e1,Cz] at q2;exact ih ks ks' (by omega) (by omega) q2.2))
  refine PX rfl rfl ?_;generalize jq A B=q at *
  generalize aw B=BR at *
  generalize aw A=AR at *
  simp [Nb];refine ax _ _ (E _) ?_;simp
mutual
theorem HO: ∀(x y:It),HM x y=true↔mw x=mw y
 | .mk n ws b ks l c,.mk n' ws' b' ks' l' c'=>by
  rw [HM,mw,mw];simp only [aC,bP,It.mk.injEq,wV,qG ks ks',and_true];constructor
  ·rintro ⟨h1,h2,h3,h4⟩;exact ⟨h1,h3,h2,h4⟩
  ·rintro ⟨h1,h3,h2,h4⟩;exact ⟨h1,h2,h3,h4⟩
theorem qG: ∀(A B:List It),jq A B=true↔eS A=eS B
 |[],[]=>by rw [jq];simp [eS]
 |[],w::s=>by
  rw [mE [] (w::s) (by simp)];simp [eS]
 |v::r,[]=>by
  rw [mE (v::r) [] (by simp)];simp [eS]
 |v::r,w::s=>by rw [jq,aC,HO v w,qG r s,eS,eS,List.cons.injEq]
end
open Go.Shelf
mutual
def IW:It→Prop
 | .mk _ ws _ ks _ _=>(∀w∈ws,w.n<18446744073709551616)∧CA ks
def CA:List It→Prop
 |[]=>True
 |x::r=>IW x∧CA r
end
theorem EX: ∀ {L:List It} {x:It},CA L→x∈L→IW x
 |y::L,x,hw,h=>by
  rw [CA] at hw;rcases i8.1 h with rfl|h
  ·exact hw.1
  ·exact EX hw.2 h
theorem jr (V:List (List UInt8)):(a8 V).flatten=V.map AV.str:=by
 unfold a8;induction V with
 |nil=>rfl
 |cons a r ih=>rw [ik,List.flatten_cons,ih];rfl
theorem pt (V:List (List UInt8)):bc (V.map AV.str)=[]:=by
 induction V with
 |nil=>rfl
 |cons a r ih=>rw [ik,bc,ih];rfl
theorem oK (V:List (List UInt8)): ∀r∈a8 V,r.length=1:=by
 intro r hr;unfold a8 at hr;rw [tO] at hr;obtain ⟨x,_,rfl⟩:=hr;rfl
theorem wX (a b:List (List UInt8)):a8 (a++b)=a8 a++a8 b:=List.map_append
theorem tz: ∀(A:List (List UInt8)) (x:List UInt8),Lib.join (A++[x++[59]]) [32]=Lib.join (A++[x]) [32]++[59]
 |[],x=>by rw [bO,bO,Lib.join_one,Lib.join_one]
 |n::A,x=>by
  rw [kE,kE];simp
theorem uG: ∀(A:List (List UInt8)) (x:List UInt8),x.length≤(Lib.join (A++[x]) [32]).length
 |[],x=>by rw [bO,Lib.join_one];omega
 |n::A,x=>by rw [kE,cG,dT];omega
theorem HP (a:List UInt8) (r:List (List UInt8)): ∃A x,a::r=A++[x]∧A.length=r.length:=by
 rcases List.eq_nil_or_concat (a::r) with h|⟨A,x,h⟩
 ·cases h
 ·refine ⟨A,x,by rw [h,List.concat_eq_append],?_⟩
  have:=congrArg List.length h
  simp at this;omega
def cE (L:List It) (c:AV) (b:Id):AV:=match L with
 |[]=>c
 |_::_=> .ptr b 0
theorem Kh (L:List It) (b:Id):cE L (.ptr b 0) b= .ptr b 0:=by cases L<;>rfl
theorem wY (d:Nat) (n:List UInt8) (ws:List Tk) (ks:List It) (ln co:Int):xT d (.mk n ws false ks ln co)=fI d++(Lib.join (n::ws.map kD) [32]++[59]++[10]):=by
 rw [xT,if_pos rfl,wO];simp
theorem CD (d:Nat) (n:List UInt8) (ws:List Tk) (ks:List It) (ln co:Int) (T:List UInt8):T++xT d (.mk n ws true ks ln co)=
  ((T++(fI d++(Lib.join ((n::ws.map kD)++[[123]]) [32]++[10])))++eF (d+1) ks)++(fI d++(Lib.join [[125]] [32]++[10])):=by
 rw [xT,if_neg (by decide),kE,wO,Lib.join_one];simp
theorem wZ (d:Nat) (L:List It) (i:Nat) (h:i<L.length):eF d (L.take (i+1))=eF d (L.take i)++xT d L[i]:=by
 rw [Gy h,uA,eF,eF,pc]
theorem Ki (d:Nat) (L:List It) (i:Nat):(eF d (L.take i)).length≤(eF d L).length:=by
 have:=uA d (L.take i) (L.drop i)
 rw [Gj] at this;rw [this,cG];omega
theorem HQ (hd tail:List UInt8):(uY hd tail).1<18446744073709551616:=by
 unfold uY;split
 ·simp
 rename_i c1;split
 ·simp
 split
 ·simp
 ·rename_i c3;have g:fS tail=true:=by
   cases h:fS tail
   ·exact absurd (.inl h) c1
   ·rfl
  have d:=u7 tail (vc g) 3;dsimp only;omega
theorem HT (s:List UInt8):(Ah s).1≤1000000:=by
 unfold Ah C6;repeat' split
 all_goals first|(exact Nat.zero_le _)|(dsimp only;omega)
theorem EY {s:List UInt8} (h:dy s=true):s.length≤96:=by
 have e:=hZ s fun r hr=>(j8 (nJ s h r hr)).2
 have l:=fq (ag s 0);rw [e] at l;by_cases g:24<0+(ag s 0).length
 ·have:=qL _ _ 32 g
  unfold dy at h;rw [this] at h;cases h
 ·omega
theorem L7 {m:List Int} {k:Int} {w:List UInt8} {n:Nat} (h:rV m= .t k w n):iw k w n=true∧n<18446744073709551616∧w.length≤100000:=by
 have td: ∀ {j:Int} {q:Nat×Int},bz j q= .t k w n→iw j [] q.1=true→q.1<18446744073709551616→iw k w n=true∧n<18446744073709551616∧w.length≤100000:=by
  intro j q h h1 h2;unfold bz at h;split at h
  ·cases h;exact ⟨h1,h2,by simp⟩
  ·cases h
 unfold rV at h;split at h
 ·split at h
  ·rename_i hn;cases h;refine ⟨?_,by decide,?_⟩
   ·unfold iw;rw [if_pos rfl,hn];rfl
   ·have:=EY hn;omega
  ·cases h
 ·unfold xU at h;have p1:=HT (aq m);have p2:=Ge (aq m);split at h
  ·exact td h rfl (BB _)
  split at h
  ·exact td h (by simp [iw,p1]) (by omega)
  split at h
  ·exact td h rfl (HQ _ _)
  ·exact td h (by simp [iw,p2]) (by omega)
def tA (x:Rd):Prop:= ∀r∈x.out,nW r∧0≤r
theorem Kj {x:Rd} {r:Int} (h:tA x) (hr:nW r∧0≤r):tA (cU x r).1:=by
 have same: ∀y:Rd,y.out=x.out→tA y:=fun y e q hq=>h q (by rw [←e];exact hq)
 have more: ∀(y:Rd) q,y.out=x.out++[q]→nW q∧0≤q→tA y:=fun y q e hq p hp=>by
  rw [e,gg,m9] at hp;rcases hp with hp|rfl
  ·exact h p hp
  ·exact hq
 unfold cU jx dM;repeat' split
 all_goals first
  |exact same _ rfl
  |exact more _ _ rfl hr
  |exact more _ 10 rfl ⟨.inr (by decide),by decide⟩
  |exact more _ 9 rfl ⟨.inr (by decide),by decide⟩
  |skip
 rename_i hv;refine more _ x.n rfl ⟨.inr ?_,by omega⟩;have v:fv x.n=true:=by
  cases g:fv x.n
  ·exact absurd (.inr (.inr g)) hv
  ·rfl
 unfold fv at v;rw [BI,lK,lK] at v;omega
theorem EZ: ∀(l:List Int) (x:Rd),tA x→(∀r∈l,nW r∧0≤r)→tA (cP x l).1
 |[],x,h,_=>h
 |r::l,x,h,hl=>by
  rw [zr];have h1:=Kj h (hl r (by simp));split
  ·exact EZ l _ h1 fun q hq=>hl q (by simp [hq])
  ·exact h1
theorem HY (l:List Int) (hl: ∀r∈l,nW r) (h:(qm l).2=0):iw 2 (qm l).1 0=true∧(qm l).1.length≤100000:=by
 unfold qm at h ⊢;split at h
 ·cases h
 rename_i c1;rw [if_neg c1];split at h
 ·cases h
 rename_i c2;rw [if_neg c2];split at h
 ·cases h
 rename_i c3;rw [if_neg c3];split at h
 ·cases h
 rename_i c4;rw [if_neg c4];dsimp only;have g:dQ l=true:=by
  cases g:dQ l
  ·exact absurd (.inl g) c1
  ·rfl
 have ok:=EZ l.tail Gp (fun r hr=>by cases hr) fun r hr=>⟨hl r (List.mem_of_mem_tail hr),xP (fC.1 g r (List.mem_of_mem_tail hr))⟩
 generalize (cP Gp l.tail).1=y at *
 have e:=cC y.out fun r hr=>(ok r hr).1
 have gy:dQ y.out=true:=fC.2 fun r hr=>jE (ok r hr).2
 have tl:=fq y.out;refine ⟨?_,by omega⟩;unfold iw;rw [if_neg (by decide),if_pos rfl,e,gy,jE (by omega:y.out.length≤120)];rfl
def HZ (t:Tk):Prop:=wK t∧t.t.length≤100000
theorem H0 (l:List Int) (i:Nat) (r:Int) (hc:(ck rV sU l i r).c=0) (a b:Int):HZ ⟨(ck rV sU l i r).k,(ck rV sU l i r).w,(ck rV sU l i r).n,a,b⟩:=by
 have hk:=(Bk l i r hc a b).k;refine ⟨⟨hk,?_,?_⟩,?_⟩<;>clear hk<;>revert hc
 all_goals
  unfold ck;by_cases c1:r=123
  ·rw [if_pos c1];intro _;first|exact (by decide:(0:Nat)<18446744073709551616)|rfl|exact jI _
  rw [if_neg c1];by_cases c2:r=125
  ·rw [if_pos c2];intro _;first|exact (by decide:(0:Nat)<18446744073709551616)|rfl|exact jI _
  rw [if_neg c2];by_cases c3:r=59
  ·rw [if_pos c3];intro _;first|exact (by decide:(0:Nat)<18446744073709551616)|rfl|exact jI _
  rw [if_neg c3];by_cases c4:r=34
  ·rw [if_pos c4];split
   ·intro h;cases h
   ·intro h
    have:=HY _ (fun r hr=>eC _ _ 0 (eV _) r hr) h
    first|exact (by decide:(0:Nat)<18446744073709551616)|exact this.1|exact this.2
  rw [if_neg c4];split
  ·cases hv:rV (cF l i (fM l i)) with
   |e c=>
    intro h;exact absurd h (LZ hv)
   |t k w n=>
    intro h
    have:=L7 hv
    first|exact this.2.1|exact this.1|exact this.2.2
  ·intro h;cases h
theorem Kk {s:List UInt8} (h:(cI s).c=0): ∃o z,(cI s).l=o++[z]∧(∀t∈o,HZ t)∧oH z:=tp HZ (fun i r hc a b=>H0 _ i r hc a b) h
theorem H1 {t:Tk} (h:HZ t):HZ (uC t):=⟨⟨h.1.k,h.1.n,h.1.r⟩,h.2⟩
mutual
theorem Kl: ∀x:It,(∀t∈mr x,HZ t)→(JR x)→HI x∧Cz x∧IW x
 | .mk n ws b ks ln co,h,hw=>by
  rw [mr] at h;rw [JR] at hw;have h1:=h _ (List.mem_cons_self ..);have h2: ∀w∈ws,HZ w:=fun w m=>h w (by simp [m])
  have hk: ∀t∈gM ks,HZ t:=by
   cases b with
   |true=>exact fun t m=>h t (by simp [m])
   |false=>
    rw [hw.2.2.1 rfl];exact fun t m=>by cases m
  have k:=uH ks hk hw.2.2.2;have nm:dy n=true:=by
   have:=h1.1.r
   simp only [iw,if_true] at this;simpa using this
  rw [HI,Cz,IW];exact ⟨⟨nm,fun w m=>(h2 w m).1,k.1⟩,⟨⟨by omega,h1.2,fun t m=>(h2 t m).2⟩,k.2.1⟩,fun w m=>(h2 w m).1.n,k.2.2⟩
theorem uH: ∀L:List It,(∀t∈gM L,HZ t)→Dq L→mA L∧wT L∧CA L
 |[],_,_=>by rw [mA,wT,CA];exact ⟨trivial,trivial,trivial⟩
 |x::r,h,hw=>by
  rw [gM] at h;rw [Dq] at hw;have a:=Kl x (fun t m=>h t (List.mem_append_left _ m)) hw.1;have c:=uH r (fun t m=>h t (List.mem_append_right _ m)) hw.2;rw [mA,wT,CA];exact ⟨⟨a.1,c.1⟩,⟨a.2.1,c.2.1⟩,a.2.2,c.2.2⟩
end
theorem kF {s:List UInt8} {L:List It} (h:mu s L):mA L∧wT L∧CA L:=by
 obtain ⟨T,z,e,hz,tk,_⟩:=h.h;obtain ⟨o,z2,e2,ho,_⟩:=Kk h.c;rw [e] at e2
 have:=List.append_inj_left' e2 rfl
 subst this;refine uH L (fun t m=>?_) h.wf;rw [←tk] at m;obtain ⟨q,hq,rfl⟩:=tO.1 m;exact H1 (ho q hq)
mutual
theorem H2: ∀(x:It) (d k:Nat),HI x→JR x→d+o5 x≤5→k+ga x≤300→ ∀r,eZ (k+ga x) r=true→eZ k (k7 x d++r)=true
 | .mk n ws b ks ln co,d,k,h,hw,hd,hc,r,hr=>by
  rw [HI] at h;rw [JR] at hw;rw [o5] at hd;rw [ga] at hc hr;have ww:ws.all eT=true:=fC.2 fun w m=>by
   have h1:=hw.2.1 w m;have h2:=(h.2.1 w m).r;unfold eT;rw [jE h1.1,jE h1.2,h2];rfl
  rw [k7,bt,eZ,zW,ww,h.1,jE (by omega:k+1≤300),jE (by omega:d≤4),jE hw.1];have bb:(b||ks.length==0)=true:=by
   cases b with
   |true=>rfl
   |false=>rw [hw.2.2.1 rfl];rfl
  rw [bb];exact qH ks (d+1) (k+1) h.2.2 hw.2.2.2 (.inr (by omega)) (by omega) r (by rw [←hr];congr 1;omega)
theorem qH: ∀(L:List It) (d k:Nat),mA L→Dq L→(L=[]∨d+dX L≤5)→k+bM L≤300→ ∀r,eZ (k+bM L) r=true→eZ k (eG L d++r)=true
 |[],d,k,_,_,_,_,r,hr=>hr
 |x::L,d,k,h,hw,hd,hc,r,hr=>by
  rw [mA] at h;rw [Dq] at hw;rw [bM] at hc hr;rw [dX] at hd;have hd:d+max (o5 x) (dX L)≤5:=by
   rcases hd with hd|hd
   ·cases hd
   ·exact hd
  rw [eG,lJ];exact H2 x d k h.1 hw.1 (by omega) (by omega) _ (qH L d (k+ga x) h.2 hw.2 (.inr (by omega)) (by omega) r (by rw [←hr];congr 1;omega))
end
theorem mG {s:List UInt8} {L:List It} (h:mu s L):eZ 0 (eG L 1)=true:=by
 have:=qH L 1 0 (kF h).1 h.wf (by rcases h.dep with e|e;exact .inl e;exact .inr (by omega)) (by have:=h.cnt;omega) [] rfl
 rw [pc] at this;exact this
theorem Km (f d:Nat) (out:List It) (z:Tk) (n:Nat) (hz:oH z) (hf:2*([z]:List Tk).length+1≤f): ∃l',pL f d 0 out [z] n= .ok out l' n:=by
 cases f with
 |zero=>simp at hf
 |succ f=>
  rw [pL];rw [if_pos hz.1];exact ⟨_,rfl⟩
theorem xd (L:List It) (h:mA L) (hw:Dq L) (hd:L=[]∨dX L≤4) (hc:bM L≤300) (hl:(eF 0 L).length≤40000):(eQ (eF 0 L)).2=(0,0,0)∧eS (eQ (eF 0 L)).1=eS L:=by
 obtain ⟨o,z,e,c,hs⟩:=zL L h hl;obtain ⟨o2,z2,e2,_,hz⟩:=wR c;rw [e] at e2;obtain ⟨rfl,ez⟩:=List.append_inj' e2 rfl;cases ez;unfold eQ;rw [if_neg (by rw [c];simp),e];have B:=(IN (2*(o++[z]).length+3)).1 L o [z] 1 0 [] 0 hs hw (by simp) (by omega) (.inl rfl) (by omega);rw [na] at B;rcases B with ⟨its',f',h3,h4,h5,_,h7⟩|⟨c,t,l',n',h3,h4⟩
 ·obtain ⟨l'',hp⟩:=Km f' 1 ([]++its') z (bM L) hz h5;rw [hp] at h4;rw [h4];refine ⟨rfl,?_⟩;dsimp only;rw [bO,h3]
 ·exfalso;have d4:dX L≤4:=by
   rcases hd with rfl|hd
   ·rw [dX];omega
   ·exact hd
  rcases h4 with ⟨_,h⟩|⟨_,h⟩<;>omega
theorem xe: ∀ws:List Tk,zI (ws.map iS)=zI ws
 |[]=>rfl
 |w::r=>by rw [ik,zI,zI,xe r];rfl
mutual
theorem E0: ∀(x:It) (d:Nat),xT d (mw x)=xT d x
 | .mk n ws b ks ln co,d=>by rw [mw,xT,xT,xe,mH ks (d+1)]
theorem mH: ∀(L:List It) (d:Nat),eF d (eS L)=eF d L
 |[],d=>rfl
 |x::r,d=>by rw [eS,eF,eF,E0 x d,mH r d]
end
theorem CE {s:List UInt8} {L:List It} (h:mu s L) (hl:(eF 0 L).length≤40000): ∃m,eQ (eF 0 L)=(m,0,0,0)∧mu (eF 0 L) m∧eF 0 m=eF 0 L∧jq L m=true:=by
 obtain ⟨h1,h2⟩:=xd L (kF h).1 h.wf h.dep h.cnt hl;have h3:=tq (eF 0 L);have h4:eF 0 (eQ (eF 0 L)).1=eF 0 L:=by rw [←mH,h2,mH]
 generalize eF 0 L=p at *
 refine ⟨(eQ p).1,by rw [←h1],?_,?_,(qG _ _).2 h2.symm⟩
 ·rcases h3 with ⟨g,_⟩|⟨_,g⟩
  ·rw [h1] at g;exact absurd rfl g
  ·exact g
 ·exact h4
theorem H3 {A:List (List UInt8)} {x:List UInt8} {m:Nat} (h:A.length=m):((A++[x]).map AV.str).take m++ .str (x++[59])::((A++[x]).map AV.str).drop (m+1)=(a8 (A++[x++[59]])).flatten:=by
 rw [jr,List.map_append,List.map_append,List.take_left' (by simpa using h),List.drop_of_length_le (by simp;omega)];simp
theorem zN: ∀(N:Nat) (L:List It) (d:Nat) (b:Id) (c0:AV) (l:List UInt8) (dep:Nat),b.isIt=false→b.isNw d=false→(c0= .nilT b 71 3∨c0= .ptr b 0)→bM L≤N→bM L≤10000→wT L→CA L→dep+bM L≤20000→l.length+(eF dep L).length≤10000000000000→
  b7 Tryz.prog gl 39 d ⟨[.ptr b 0,.sl (aw L)],[(b,[c0,.sl (ae l),i6 dep])],[(.b b 1,bk 5)]⟩ ⟨.tup [],[(b,[cE L c0 b,.sl (ae (l++eF dep L)),i6 dep])],[(.b b 1,bk 5)]⟩:=by
 intro N;induction N with
 |zero=>
  intro L d b c0 l dep hb hbd hc0 hN hc hbd2 hnu hdep hl;have hL:L=[]:=by
   have:=hY L
   exact Dh (by omega)
  subst hL;refine Nh rfl ?_;have hic:=aP hbd;rw [eF,pc,cE,aw];simp only [az,bE,a7,AV.mp,bK,Pl.mp];rcases hc0 with rfl|rfl
  ·simp [KV];refine bT (α:=Unit) (fun _=>⟨[(0,.ptr (.up b) 0),(9,.sl []),(10,i6 0),(11,i6 0)],[(.up b,[.nilT (.up b) 71 3,.sl (ae l),i6 dep])],[(.b (.up b) 1,bk 5)]⟩) (fun _=>True) (fun _=>0) ?_ () trivial ?_
   ·rintro K x hK _;clear hK;simp;refine f8 ⟨?_,?_,?_,?_,?_,?_⟩<;>simp [hic,hb]
   ·apply am<;>simp
  ·simp [KV];refine bT (α:=Unit) (fun _=>⟨[(0,.ptr (.up b) 0),(9,.sl []),(10,i6 0),(11,i6 0)],[(.up b,[.ptr (.up b) 0,.sl (ae l),i6 dep])],[(.b (.up b) 1,bk 5)]⟩) (fun _=>True) (fun _=>0) ?_ () trivial ?_
   ·rintro K x hK _;clear hK;simp;refine f8 ⟨?_,?_,?_,?_,?_,?_⟩<;>simp [hic,hb]
   ·apply am<;>simp
 |succ N ih=>
  intro L d b c0 l dep hb hbd hc0 hN hc hbd2 hnu hdep hl;refine Nh rfl ?_;have hlim:rM=140737488355328:=rfl;have hic:=aP hbd;have rl:=ew L;have rat:=iO L;have ll:=hY L;obtain ⟨c1,hc1⟩: ∃c1:AV,c1=AV.mp Id.up c0:=⟨_,rfl⟩;have hc1':c1= .nilT (.up b) 71 3∨c1= .ptr (.up b) 0:=by
   rcases hc0 with rfl|rfl
   ·exact .inl hc1
   ·exact .inr hc1
  obtain ⟨cz,hcz⟩: ∃cz:AV,cz=cE L c0 b:=⟨_,rfl⟩;obtain ⟨RT,hRT⟩: ∃RT,RT=l++eF dep L:=⟨_,rfl⟩;rw [←hcz,←hRT];obtain ⟨RR,hRR⟩: ∃RR,RR=aw L:=⟨_,rfl⟩;rw [←hRR] at rl rat ⊢;simp only [az,bE,a7,AV.mp,bK,Pl.mp,←hc1];simp [KV];refine bT (α:=Nat×AV) (fun p=>⟨[(0,.ptr (.up b) 0),(9,.sl RR),(10,i6 L.length),(11,i6 p.1)],[(.up b,[p.2,.sl (ae (l++eF dep (L.take p.1))),i6 dep])],[(.b (.up b) 1,bk 5)]⟩)
   (fun p=>p.1≤L.length∧(p.2= .nilT (.up b) 71 3∨p.2= .ptr (.up b) 0)∧(p.1=0→p.2=c1)∧(0<p.1→p.2= .ptr (.up b) 0)) (fun p=>L.length - p.1) ?_ (0,c1) ?_ ?_
  ·rintro K ⟨i,ci⟩ hK ⟨h1,h2,h3,h4⟩;simp only at h1 h2 h3 h4 ⊢;have t1:IntKind.i64.wrap ((i:Int)+1)=(i+1:Nat):=by rw [an]<;>omega
   by_cases g:i<L.length
   ·have g':(i:Int)<RR.length:=by omega
    have g2:(i:Int)<L.length:=by omega
    have gR:i<RR.length:=by omega
    have rai:=rat i g gR;have hx1:=ph (rL g);have hx2:=uF hbd2 (rL g);have hx3:=EX hnu (rL g);have fin:=fun σ' hσ=>hK (i+1,.ptr (.up b) 0) σ' ⟨by simp only;omega,.inr rfl,fun h=>by simp at h,fun _=>rfl⟩ (by simp only;omega) hσ
    simp only at fin;rw [wZ dep L i g,←lJ] at fin;have len1:=Ki dep L (i+1);rw [wZ dep L i g,cG] at len1;clear hK rat h3 h4 hRT hcz;have cin: ∀j,¬Id.n j∈ci.ids:=by
     intro j;rcases h2 with rfl|rfl<;>simp [AV.ids]
    have ciu: ∀d,d∈ci.ids→d.isUp=true:=by
     intro d hd;rcases h2 with rfl|rfl
     ·simp only [AV.ids,m9] at hd;rw [hd];rfl
     ·simp only [AV.ids,m9] at hd;rw [hd];rfl
    generalize L[i]=x at *
    generalize hT0:l++eF dep (L.take i)=T0 at *
    have hT0l:T0.length=l.length+(eF dep (L.take i)).length:=by rw [←hT0,cG]
    obtain ⟨xn,ws,xb,ks,xl,xc⟩:=x;rw [ga] at hx1;rw [Cz] at hx2;rw [IW] at hx3;rw [It.row] at rai;have IH:=ih ks;generalize aw ks=KR at *
    have wl:(ws.map Tk.row).length=ws.length:=Jn _;have wat: ∀k (h:k<ws.length),∀h2,(ws.map Tk.row)[k]'h2=ws[k].row:=fun k h h2=>by simp
    have wlen:=hx2.1.1;generalize ws.map Tk.row=WR at *
    simp [g,g2,g',gR,rai,rl];refine bT (α:=Nat×Id) (fun p=>⟨[(0,.ptr (.up b) 0),(9,.sl RR),(10,i6 L.length),(11,i6 i),(5,.ptr (.n 5) 0),(6,.ms p.2 0 (p.1+1) 1),(19,.sl WR),(20,i6 ws.length),(21,i6 p.1)],[(.n 5,[.str xn,.sl WR,.bool xb,.sl KR,i6 xl,i6 xc]),(p.2,(xn::(ws.take p.1).map kD).map AV.str),(.up b,[ci,.sl (ae T0),i6 dep])],[(.b (.up b) 1,bk 5)]⟩)
     (fun p=>p.1≤ws.length∧(p.2= .n 17∨p.2= .n 29)) (fun p=>ws.length - p.1) ?_ (0,.n 17) ⟨jI _,.inl rfl⟩ ?_
    ·rintro K ⟨k,q⟩ hK2 ⟨k1,k2⟩;simp only at k1 k2 ⊢;have t2:IntKind.i64.wrap ((k:Int)+1)=(k+1:Nat):=by rw [an]<;>omega
     have qit:q.isIt=false:=by rcases k2 with rfl|rfl<;>rfl
     have qup:q.isUp=false:=by rcases k2 with rfl|rfl<;>rfl
     by_cases gk:k<ws.length
     ·have gk':(k:Int)<ws.length:=by omega
      have gW:k<WR.length:=by omega
      have wak:=wat k gk gW;have fin2:=fun σ' hσ=>hK2 (k+1,.n 29) σ' ⟨by simp only;omega,.inr rfl⟩ (by simp only;omega) hσ
      simp only at fin2;have PI:=hx2.1.2.2 _ (rL gk);have PJ:=hx3.1 _ (rL gk);have SP:=Cv ws[k].k ws[k].t ws[k].n ws[k].ln ws[k].co PI PJ;rw [←Kp,show eY ws[k].k ws[k].t ws[k].n=kD ws[k] from rfl] at SP;have hnx:(xn::(ws.take (k+1)).map kD).map AV.str=(xn::(ws.take k).map kD).map AV.str++[.str (kD ws[k])]:=by
       rw [Gy gk,List.map_append,←bt,List.map_append];rfl
      have hcl:((xn::(ws.take k).map kD).map AV.str).length=k+1:=by simp;omega
      have hci:=pt (xn::(ws.take k).map kD);have hci2:=pt (xn::(ws.take (k+1)).map kD);rw [hnx] at fin2 hci2;clear hK2 wat fin IH hnx;generalize (xn::(ws.take k).map kD).map AV.str=CC at *
      generalize kD ws[k]=TS at *
      generalize ws[k]=w at *
      obtain ⟨wk,wt,wn,wl1,wc⟩:=w;simp only [Tk.row] at wak SP;rcases k2 with rfl|rfl
      ·simp [gk,gk',gW,wak,wl,hlim,hcl,hci];apply ab SP;simp [hlim,hcl,hci,bc,AV.ids,ja,ng];refine ⟨cin 17,by omega,fin2 _ ?_⟩;apply am<;>simp [t2,hci2];intro d hd;exact .inr (ciu d hd)
      ·simp [gk,gk',gW,wak,wl,hlim,hcl,hci];apply ab SP;simp [hlim,hcl,hci,bc,AV.ids,ja,ng];refine ⟨cin 29,by omega,fin2 _ ?_⟩;apply am<;>simp [t2,hci2];intro d hd;exact .inr (ciu d hd)
     ·obtain rfl:k=ws.length:=by omega
      have gk': ¬(ws.length:Int)<ws.length:=by omega
      clear hK2 wat;rw [sg];obtain ⟨A,z,hA,hAl⟩:=HP xn (ws.map kD);rw [Jn] at hAl;cases xb with
      |false=>
       rw [wY,hA,cG,cG,cG] at len1;rw [wY,hA,←tz] at fin;have zle:=uG A z;have jse:=congrArg List.length (tz A z);rw [cG] at jse;have w1:IntKind.i64.wrap ((ws.length:Int)+1 - 1)=(ws.length:Nat):=by rw [an]<;>omega
       have w3:(ws.length:Int)<(ws.length:Int)+1:=by omega
       have w2:IntKind.i64.wrap (ws.length:Int)=(ws.length:Nat):=by rw [an]<;>omega
       rw [hA];have LS:=fun c h=>lu 44 (.up b) hb rfl c h T0 dep (by omega) (A++[z++[59]]) (by simp;omega) (by simp only [yF] at *;omega)
       have zl:z.length+1≤9223372036854775807:=by simp only [yF] at *;omega
       have fl:=H3 (x:=z) hAl;have cat: ∀h:ws.length<((A++[z]).map AV.str).length,((A++[z]).map AV.str)[ws.length]'h= .str z:=by intro h;simp [hAl]
       have ccl:((A++[z]).map AV.str).length=ws.length+1:=by simp [hAl]
       have rwl:(a8 (A++[z++[59]])).length=ws.length+1:=by simp [a8,hAl]
       have rw1:=oK (A++[z++[59]]);have idf:bc (a8 (A++[z++[59]])).flatten=[]:=by rw [jr,pt]
       generalize (A++[z]).map AV.str=CC at *
       generalize a8 (A++[z++[59]])=SR at *
       rcases k2 with rfl|rfl
       ·simp [gk',w1,w2,w3,cat,ccl,zl,fl];refine ub (.n 17) (ws.length+1) 1 SR [] ⟨by simp,by simp [fl],rfl,rwl,rw1,idf,?_⟩ (by decide) ?_
        ·simp [ja,bc,AV.ids,cin]
        simp [gC,fV,ja,ng,AV.ids,bc,rF];refine ax _ _ (LS ci h2) ?_;simp;refine fin _ ?_;apply am<;>simp [t1]
       ·simp [gk',w1,w2,w3,cat,ccl,zl,fl];refine ub (.n 29) (ws.length+1) 1 SR [] ⟨by simp,by simp [fl],rfl,rwl,rw1,idf,?_⟩ (by decide) ?_
        ·simp [ja,bc,AV.ids,cin]
        simp [gC,fV,ja,ng,AV.ids,bc,rF];refine ax _ _ (LS ci h2) ?_;simp;refine fin _ ?_;apply am<;>simp [t1]
      |true=>
       have pb:=CD dep xn ws ks xl xc T0;rw [pb] at fin;have pl:=congrArg List.length pb;simp only [cG] at pl;have i0:=qk dep;obtain ⟨d1,hd1⟩: ∃d1,d1=dep+1:=⟨_,rfl⟩;rw [←hd1] at fin pl;have wd1:IntKind.i64.wrap ((dep:Int)+1)=(d1:Nat):=by rw [an]<;>omega
       have wd2:IntKind.i64.wrap ((d1:Int) - 1)=(dep:Nat):=by rw [an]<;>omega
       have LS1:=fun c h=>lu 49 (.up b) hb rfl c h T0 dep (by omega) ((xn::ws.map kD)++[[123]]) (by simp;omega) (by omega)
       obtain ⟨T1,hT1⟩: ∃T1,T1=T0++(fI dep++(Lib.join ((xn::ws.map kD)++[[123]]) [32]++[10])):=⟨_,rfl⟩;have T1l:=congrArg List.length hT1;simp only [cG] at T1l;rw [←hT1] at LS1 fin;have IH1:=IH 60 (.up b) (.ptr (.up b) 0) T1 d1 hb rfl (.inr rfl) (by omega) (by omega) hx2.2 hx3.2 (by omega) (by omega);rw [Kh] at IH1;obtain ⟨T2,hT2⟩: ∃T2,T2=T1++eF d1 ks:=⟨_,rfl⟩;have T2l:=congrArg List.length hT2;simp only [cG] at T2l;rw [←hT2] at IH1 fin;have LS3:=lu 70 (.up b) hb rfl (.ptr (.up b) 0) (.inr rfl) T2 dep (by omega) [[125]] (by simp) (by omega);generalize T2++(fI dep++(Lib.join [[125]] [32]++[10]))=T3 at *
       rw [wX,show a8 [[123]]=[[AV.str [123]]] from rfl] at LS1;rw [show a8 [[125]]=[[AV.str [125]]] from rfl] at LS3;have rwl:(a8 (xn::ws.map kD)).length=ws.length+1:=by simp [a8]
       have rw1:=oK (xn::ws.map kD);have rwf:=jr (xn::ws.map kD);have idf:bc (a8 (xn::ws.map kD)).flatten=[]:=by rw [jr,pt]
       clear pb pl T1l T2l hT1 hT2 IH;generalize a8 (xn::ws.map kD)=SR at *
       rw [←rwf];clear rwf;obtain ⟨CC,SRf⟩: ∃CC,SR.flatten=CC:=⟨_,rfl⟩;rw [SRf] at idf ⊢;rcases k2 with rfl|rfl
       ·simp [gk'];refine ub (.n 17) (ws.length+1) 1 SR [] ⟨by simp,by simp [SRf],rfl,rwl,rw1,by rw [SRf];exact idf,?_⟩ (by decide) ?_
        ·simp [ja,bc,AV.ids,cin]
        simp [gC,fV,ja,ng,AV.ids,bc,rF,hlim];refine ⟨by omega,rw1,?_⟩;refine ax _ _ (LS1 ci h2) ?_;simp [wd1];refine ax _ _ (IH1) ?_;simp [wd2];refine ax _ _ (LS3) ?_;simp;refine fin _ ?_;apply am<;>simp [t1]
       ·simp [gk'];refine ub (.n 29) (ws.length+1) 1 SR [] ⟨by simp,by simp [SRf],rfl,rwl,rw1,by rw [SRf];exact idf,?_⟩ (by decide) ?_
        ·simp [ja,bc,AV.ids,cin]
        simp [gC,fV,ja,ng,AV.ids,bc,rF,hlim];refine ⟨by omega,rw1,?_⟩;refine ax _ _ (LS1 ci h2) ?_;simp [wd1];refine ax _ _ (IH1) ?_;simp [wd2];refine ax _ _ (LS3) ?_;simp;refine fin _ ?_;apply am<;>simp [t1]
    ·rw [Jo];apply am<;>simp [wl];intro d hd;exact .inr (ciu d hd)
   ·obtain rfl:i=L.length:=by omega
    have g': ¬(L.length:Int)<RR.length:=by omega
    rw [sg,←hRT];have hz:(ci= .ptr (.up b) 0∧cz= .ptr b 0)∨(ci= .nilT (.up b) 71 3∧cz= .nilT b 71 3):=by
     cases L with
     |nil=>
      have e1:=h3 rfl;have e2:cz=c0:=hcz;rcases hc0 with rfl|rfl
      ·exact .inr ⟨e1.trans hc1,e2⟩
      ·exact .inl ⟨e1.trans hc1,e2⟩
     |cons x r=>exact .inl ⟨h4 (by simp),hcz⟩
    clear hK h2 h3 h4 hc0 hc1 hc1' hcz;rcases hz with ⟨rfl,rfl⟩|⟨rfl,rfl⟩
    ·simp [g',rl];refine f8 ⟨?_,?_,?_,?_,?_,?_⟩<;>simp [hic,hb]
    ·simp [g',rl];refine f8 ⟨?_,?_,?_,?_,?_,?_⟩<;>simp [hic,hb]
  ·refine ⟨jI _,hc1',fun _=>rfl,fun h=>by simp at h⟩
  ·rw [Jo];simp only [eF,pc];apply am<;>simp [rl];intro d hd;rcases hc1' with rfl|rfl
   ·simp only [AV.ids,m9] at hd;exact .inl hd.symm
   ·simp only [AV.ids,m9] at hd;exact .inl hd.symm
theorem E1 (k:Int) (s:List UInt8) (n:Nat) (hn:n<18446744073709551616) (hl:s.length≤100000):(eY k s n).length≤103000:=by
 cases hr:iw k s n with
 |false=>unfold eY;rw [hr,if_pos rfl];decide
 |true=>
  by_cases c1:k=1
  ·unfold eY;rw [hr,if_neg (by decide),if_pos c1];omega
  by_cases c2:k=2
  ·unfold eY;rw [hr,if_neg (by decide),if_neg c1,if_pos c2];subst c2;obtain ⟨_,_,_,h3⟩:=iR s n hr
   have:=ml (ag s 0)
   unfold Dt;rw [dT,cG,yF];omega
  have hs:s=[]:=by
   unfold iw at hr;rw [if_neg c1,if_neg c2] at hr;repeat' split at hr
   all_goals first|(simp at hr;done)|(simp at hr;first|exact hr|exact hr.1)
  have:=EH k s n hn (by rw [hs];decide)
  omega
theorem Bn: ∀ws:List Tk,(∀w∈ws,w.n<18446744073709551616)→(∀t∈ws,t.t.length≤100000)→(zI ws).length≤103001*ws.length
 |[],_,_=>by simp [zI]
 |w::ws,h1,h2=>by
  have:=Bn ws (fun x hx=>h1 x (by simp [hx])) (fun x hx=>h2 x (by simp [hx]))
  have:=E1 w.k w.t w.n (h1 w (by simp)) (h2 w (by simp))
  rw [zI,dT,cG,dT];unfold kD;omega
mutual
theorem H4: ∀(x:It) (d:Nat),Cz x→IW x→d+ga x≤20000→(xT d x).length≤ga x*200000000
 | .mk n ws b ks ln co,d,h1,h2,h3=>by
  rw [Cz] at h1;rw [IW] at h2;rw [ga] at h3 ⊢;have w:=Bn ws h2.1 h1.1.2.2;have k:=uI ks (d+1) h1.2 h2.2 (by omega);have i0:=qk d;rw [xT];have h5:=h1.1.1;have h6:=h1.1.2.1;cases b with
  |false=>
   rw [if_pos rfl];simp only [cG,dT,vA];omega
  |true=>
   rw [if_neg (by decide)];simp only [cG,dT,vA];omega
theorem uI: ∀(L:List It) (d:Nat),wT L→CA L→d+bM L≤20000→(eF d L).length≤bM L*200000000
 |[],d,_,_,_=>by simp [eF]
 |x::r,d,h1,h2,h3=>by
  rw [wT] at h1;rw [CA] at h2;rw [bM] at h3 ⊢;have a:=H4 x d h1.1 h2.1 (by omega);have c:=uI r d h1.2 h2.2 (by omega);rw [eF,cG];omega
end
mutual
theorem E2: ∀(x:It) (d:Nat),Cz x→ga x≤100000→ ∀p∈k7 x d,H8 p.2∧p.1<d+ga x
 | .mk n ws b ks ln co,d,h1,h2,p,hp=>by
  rw [k7,i8] at hp;rw [Cz] at h1;rw [ga] at h2 ⊢;rcases hp with rfl|hp
  ·have:=hY ks
   exact ⟨⟨by omega,by omega,fun t ht=>by have:=h1.1.2.2 t ht;omega,by omega⟩,by dsimp only;omega⟩
  ·have:=qI ks (d+1) h1.2 (by omega) p hp
   exact ⟨this.1,by omega⟩
theorem qI: ∀(L:List It) (d:Nat),wT L→bM L≤100000→ ∀p∈eG L d,H8 p.2∧p.1<d+bM L
 |[],d,_,_,p,hp=>by cases hp
 |x::r,d,h1,h2,p,hp=>by
  rw [eG,gg] at hp;rw [wT] at h1;rw [bM] at h2 ⊢;rcases hp with hp|hp
  ·have:=E2 x d h1.1 (by omega) p hp
   exact ⟨this.1,by omega⟩
  ·have:=qI r d h1.2 (by omega) p hp
   exact ⟨this.1,by omega⟩
end
theorem oL (L:List It) (hc:bM L≤10000) (hb:wT L):Sp Tryz.prog gl 19 [.sl (aw L)] (.bool (eZ 0 (eG L 1))):=by
 have:=qE L
 exact Sp.of_h fun D=>xi L (by omega) (by omega) (fun p hp=>by
  have:=qI L 1 hb (by omega) p hp
  exact ⟨this.1,by omega⟩) D
theorem E3 {d:Nat} {b:Id} (hit:b.isIt=false) (hnwb:b.isNw d=false) {c0:AV} (l:List UInt8) (n:Nat) (h0:l≠[]):
  b7 Tryz.prog gl 40 d ⟨[.ptr b 0],[(b,[c0,.sl (ae l),i6 n])],[(.b b 1,bk 5)]⟩ ⟨.str l,[(b,[c0,.sl (ae l),i6 n])],[]⟩:=
 pS (L:={au with}) dE (by kernel_rfl) (by kernel_rfl) hit hnwb (rest:=[i6 n]) l h0
theorem CF {d:Nat} {b:Id} (hit:b.isIt=false) (hnwb:b.isNw d=false) {c0:AV} (n:Nat):
  b7 Tryz.prog gl 40 d ⟨[.ptr b 0],[(b,[c0,.nils,i6 n])],[]⟩ ⟨.str [],[(b,[c0,.nils,i6 n])],[]⟩:=
 sC (L:={au with}) dE (by kernel_rfl) (by kernel_rfl) hit hnwb (rest:=[i6 n])
theorem CG (d:Nat) (b:Id) (hb:b.isIt=false) (hbd:b.isNw d=false):b7 Tryz.prog gl 39 d ⟨[.ptr b 0,.sl []],[(b,[.nilT b 71 3,.nils,i6 0])],[]⟩ ⟨.tup [],[(b,[.nilT b 71 3,.nils,i6 0])],[]⟩:=by
 refine Nh rfl ?_;have hic:=aP hbd;simp only [az,bE,a7,AV.mp,bK,Pl.mp];simp [KV];refine bT (α:=Unit) (fun _=>⟨[(0,.ptr (.up b) 0),(9,.sl []),(10,i6 0),(11,i6 0)],[(.up b,[.nilT (.up b) 71 3,.nils,i6 0])],[]⟩) (fun _=>True) (fun _=>0) ?_ () trivial ?_
 ·rintro K x hK _;clear hK;simp;refine f8 ⟨?_,?_,?_,?_,?_,?_⟩<;>simp [hic,hb]
 ·apply am<;>simp
theorem Kn (d:Nat) (x:It) (r:List It):eF d (x::r)≠[]:=by
 obtain ⟨n,ws,b,ks,ln,co⟩:=x;rw [eF,xT];cases b<;>simp
def E4 (L:List It):AV:=if eZ 0 (eG L 1)=true then .tup [.str (eF 0 L),i6 0] else .tup [.str [],i6 6]
theorem ka (L:List It) (hc:bM L≤10000) (hb:wT L) (hn:CA L):Sp Tryz.prog gl 18 [.sl (aw L)] (E4 L):=by
 refine Qw rfl rfl ?_;have RI:=oL L hc hb;unfold E4;cases hr:eZ 0 (eG L 1) with
 |false=>
  rw [hr] at RI;rw [if_neg (by decide)];generalize aw L=RR at *
  simp [Mc];apply ab RI;simp
 |true=>
  rw [hr] at RI;rw [if_pos rfl];cases L with
  |nil=>
   have LL:=CG 12 (.n 9) rfl rfl;have SS:=CF (d:=16) (b:= .n 9) rfl rfl (c0:= .nilT (.n 9) 71 3) 0;rw [aw] at RI;simp [Mc,aw,eF];apply ab RI;simp;refine ax _ _ (LL) ?_;simp;refine ax _ _ (SS) ?_;simp
  |cons x r=>
   have pl:=uI (x::r) 0 hb hn (by omega);have LL:=zN _ (x::r) 12 (.n 9) (.nilT (.n 9) 71 3) [] 0 rfl rfl (.inl rfl) (eV _) (by omega) hb hn (by omega) (by rw [vA];omega);have SS:=E3 (d:=16) (b:= .n 9) rfl rfl (c0:= .ptr (.n 9) 0) (eF 0 (x::r)) 0 (Kn 0 x r);rw [bO,cE,show ae []=[] from rfl] at LL;generalize aw (x::r)=RR at *
   generalize eF 0 (x::r)=R at *
   simp [Mc];apply ab RI;simp;refine ax _ _ (LL) ?_;simp;refine ax _ _ (SS) ?_;simp
def pu:List UInt8:=[114,117,108,101,32,97,123,102,111,114,32,50,109,59,125]
theorem iT (s:List UInt8) (h:s.all (fun b=>decide (b.toNat<128))=true) (hn:dF 0 32 (s.map fun b=>(b.toNat:Int))=true):dy s=true:=by
 unfold dy;rw [iP s (fun b hb=>xP (fC.1 h b hb))];exact hn
theorem qJ (s:List UInt8) (i:Nat) (h:i<s.length) (hc:s[i].toNat<128):ah s i=((s[i].toNat:Int),1):=by
 rcases iX s i h with ⟨_,e⟩|⟨e,_⟩
 ·exact e
 ·omega
theorem Bo {V:List UInt8→TV} {U:List UInt8→List UInt8×Int} {s:List UInt8} {x:Sc} {i:Nat} {r:Int} {k:Int} {w:List UInt8} {n:Nat} (h1:x.st=1) (h2:wthn r=false) (hv:V (cR s x.sa i)= .t k w n):bv V U s x i r=cu (x.add (.t k w n)) i r:=by
 unfold bv;rw [if_pos h1,h2,if_neg (by decide),hv];rfl
theorem cZ (V:List UInt8→TV) (U:List UInt8→List UInt8×Int) (s:List UInt8) (x y z:Sc) (i:Nat) (c:UInt8) (h:s[i]?=some c) (hc:c.toNat<128) (ht:bv V U s x i (c.toNat:Int)=(y,true)) (hz:y.adv (c.toNat:Int)=z):dL V U s x i=dL V U s z (i+1):=by
 subst hz;obtain ⟨g,rfl⟩:=oU.1 h;have e:=qJ s i g hc;have e2:jv (s[i].toNat:Int)=(s[i].toNat:Int):=by unfold jv;rw [if_neg (by omega)]
 rw [dL,dif_pos g,e,e2,ht];rfl
theorem uJ (w:List UInt8) (c:UInt8) (r:List UInt8) (hw:w=c::r) (h:w.all (fun b=>decide (b.toNat<128))=true) (hd:cJ (c.toNat:Int)=false) (hn:dF 0 32 (w.map fun b=>(b.toNat:Int))=true):sV w= .t 1 w 0:=by
 have hc:c.toNat<128:=xP (fC.1 h c (by simp [hw]));have hv:vR w=(c.toNat:Int):=by
  subst hw;unfold vR;rw [if_neg (by simp),qJ (c::r) 0 (by simp) hc];unfold jv;rw [if_neg (by show ¬(c.toNat:Int)= -1;omega)];rfl
 unfold sV;rw [hv,if_pos hd,if_pos (iT w h hn)]
theorem L8:sV [50,109]= .t 6 [] 120:=by
 have hv:vR [50,109]=50:=by
  unfold vR;rw [if_neg (by simp),qJ [50,109] 0 (by simp) (by decide)];rfl
 unfold sV;have hs:jD [50,109]=(120,0):=by
  unfold jD;rw [if_neg (by simp),iP [50,109] (by decide)];rfl
 rw [hv,if_neg (by decide),if_neg (by decide),if_neg (by decide),if_neg (by decide),hs];rfl
def H5:List It:=[.mk [114,117,108,101] [⟨1,[97],0,1,6⟩] true [.mk [102,111,114] [⟨6,[],120,1,12⟩] false [] 1 8] 1 1]
set_option maxRecDepth 100000 in
theorem xf:oP sV sU pu=⟨[⟨1,[114,117,108,101],0,1,1⟩,⟨1,[97],0,1,6⟩,⟨7,[],0,1,7⟩,⟨1,[102,111,114],0,1,8⟩,⟨6,[],120,1,12⟩,⟨9,[],0,1,14⟩,⟨8,[],0,1,15⟩,⟨0,[],0,1,16⟩],0,0,0⟩:=by
 have v1:=uJ [114,117,108,101] 114 _ rfl (by decide) (by decide) (by decide);have v2:=uJ [97] 97 _ rfl (by decide) (by decide) (by decide);have v3:=uJ [102,111,114] 102 _ rfl (by decide) (by decide) (by decide);have v4:=L8;have R:dL sV sU pu vq 0=(⟨[⟨1,[114,117,108,101],0,1,1⟩,⟨1,[97],0,1,6⟩,⟨7,[],0,1,7⟩,⟨1,[102,111,114],0,1,8⟩,⟨6,[],120,1,12⟩,⟨9,[],0,1,14⟩,⟨8,[],0,1,15⟩],0,14,1,15,1,16,0,0,0⟩,true):=by
  refine (cZ sV sU pu ⟨[],0,0,1,1,1,1,0,0,0⟩ _ ⟨[],1,0,1,1,1,2,0,0,0⟩ 0 114 rfl (by decide) rfl rfl).trans ?_;refine (cZ sV sU pu ⟨[],1,0,1,1,1,2,0,0,0⟩ _ ⟨[],1,0,1,1,1,3,0,0,0⟩ 1 117 rfl (by decide) rfl rfl).trans ?_;refine (cZ sV sU pu ⟨[],1,0,1,1,1,3,0,0,0⟩ _ ⟨[],1,0,1,1,1,4,0,0,0⟩ 2 108 rfl (by decide) rfl rfl).trans ?_;refine (cZ sV sU pu ⟨[],1,0,1,1,1,4,0,0,0⟩ _ ⟨[],1,0,1,1,1,5,0,0,0⟩ 3 101 rfl (by decide) rfl rfl).trans ?_;refine (cZ sV sU pu ⟨[],1,0,1,1,1,5,0,0,0⟩ _ ⟨[⟨1,[114,117,108,101],0,1,1⟩],0,4,1,5,1,6,0,0,0⟩ 4 32 rfl (by decide) ((Bo rfl rfl v1).trans rfl) rfl).trans ?_;refine (cZ sV sU pu ⟨[⟨1,[114,117,108,101],0,1,1⟩],0,4,1,5,1,6,0,0,0⟩ _ ⟨[⟨1,[114,117,108,101],0,1,1⟩],1,5,1,6,1,7,0,0,0⟩ 5 97 rfl (by decide) rfl rfl).trans ?_;refine (cZ sV sU pu ⟨[⟨1,[114,117,108,101],0,1,1⟩],1,5,1,6,1,7,0,0,0⟩ _ ⟨[⟨1,[114,117,108,101],0,1,1⟩,⟨1,[97],0,1,6⟩,⟨7,[],0,1,7⟩],0,6,1,7,1,8,0,0,0⟩ 6 123 rfl (by decide) ((Bo rfl rfl v2).trans rfl) rfl).trans ?_;refine (cZ sV sU pu ⟨[⟨1,[114,117,108,101],0,1,1⟩,⟨1,[97],0,1,6⟩,⟨7,[],0,1,7⟩],0,6,1,7,1,8,0,0,0⟩ _ ⟨[⟨1,[114,117,108,101],0,1,1⟩,⟨1,[97],0,1,6⟩,⟨7,[],0,1,7⟩],1,7,1,8,1,9,0,0,0⟩ 7 102 rfl (by decide) rfl rfl).trans ?_;refine (cZ sV sU pu ⟨[⟨1,[114,117,108,101],0,1,1⟩,⟨1,[97],0,1,6⟩,⟨7,[],0,1,7⟩],1,7,1,8,1,9,0,0,0⟩ _ ⟨[⟨1,[114,117,108,101],0,1,1⟩,⟨1,[97],0,1,6⟩,⟨7,[],0,1,7⟩],1,7,1,8,1,10,0,0,0⟩ 8 111 rfl (by decide) rfl rfl).trans ?_;refine (cZ sV sU pu ⟨[⟨1,[114,117,108,101],0,1,1⟩,⟨1,[97],0,1,6⟩,⟨7,[],0,1,7⟩],1,7,1,8,1,10,0,0,0⟩ _ ⟨[⟨1,[114,117,108,101],0,1,1⟩,⟨1,[97],0,1,6⟩,⟨7,[],0,1,7⟩],1,7,1,8,1,11,0,0,0⟩ 9 114 rfl (by decide) rfl rfl).trans ?_;refine (cZ sV sU pu ⟨[⟨1,[114,117,108,101],0,1,1⟩,⟨1,[97],0,1,6⟩,⟨7,[],0,1,7⟩],1,7,1,8,1,11,0,0,0⟩ _ ⟨[⟨1,[114,117,108,101],0,1,1⟩,⟨1,[97],0,1,6⟩,⟨7,[],0,1,7⟩,⟨1,[102,111,114],0,1,8⟩],0,10,1,11,1,12,0,0,0⟩ 10 32 rfl (by decide) ((Bo rfl rfl v3).trans rfl) rfl).trans ?_;refine (cZ sV sU pu ⟨[⟨1,[114,117,108,101],0,1,1⟩,⟨1,[97],0,1,6⟩,⟨7,[],0,1,7⟩,⟨1,[102,111,114],0,1,8⟩],0,10,1,11,1,12,0,0,0⟩ _ ⟨[⟨1,[114,117,108,101],0,1,1⟩,⟨1,[97],0,1,6⟩,⟨7,[],0,1,7⟩,⟨1,[102,111,114],0,1,8⟩],1,11,1,12,1,13,0,0,0⟩ 11 50 rfl (by decide) rfl rfl).trans ?_;refine (cZ sV sU pu ⟨[⟨1,[114,117,108,101],0,1,1⟩,⟨1,[97],0,1,6⟩,⟨7,[],0,1,7⟩,⟨1,[102,111,114],0,1,8⟩],1,11,1,12,1,13,0,0,0⟩ _ ⟨[⟨1,[114,117,108,101],0,1,1⟩,⟨1,[97],0,1,6⟩,⟨7,[],0,1,7⟩,⟨1,[102,111,114],0,1,8⟩],1,11,1,12,1,14,0,0,0⟩ 12 109 rfl (by decide) rfl rfl).trans ?_;refine (cZ sV sU pu ⟨[⟨1,[114,117,108,101],0,1,1⟩,⟨1,[97],0,1,6⟩,⟨7,[],0,1,7⟩,⟨1,[102,111,114],0,1,8⟩],1,11,1,12,1,14,0,0,0⟩ _ ⟨[⟨1,[114,117,108,101],0,1,1⟩,⟨1,[97],0,1,6⟩,⟨7,[],0,1,7⟩,⟨1,[102,111,114],0,1,8⟩,⟨6,[],120,1,12⟩,⟨9,[],0,1,14⟩],0,13,1,14,1,15,0,0,0⟩ 13 59 rfl (by decide) ((Bo rfl rfl v4).trans rfl) rfl).trans ?_;refine (cZ sV sU pu ⟨[⟨1,[114,117,108,101],0,1,1⟩,⟨1,[97],0,1,6⟩,⟨7,[],0,1,7⟩,⟨1,[102,111,114],0,1,8⟩,⟨6,[],120,1,12⟩,⟨9,[],0,1,14⟩],0,13,1,14,1,15,0,0,0⟩ _ ⟨[⟨1,[114,117,108,101],0,1,1⟩,⟨1,[97],0,1,6⟩,⟨7,[],0,1,7⟩,⟨1,[102,111,114],0,1,8⟩,⟨6,[],120,1,12⟩,⟨9,[],0,1,14⟩,⟨8,[],0,1,15⟩],0,14,1,15,1,16,0,0,0⟩ 14 125 rfl (by decide) rfl rfl).trans ?_;rw [dL,dif_neg (by decide)]
 unfold oP;rw [if_neg (by decide),R];rfl
set_option maxRecDepth 100000 in
theorem CH:zJ (oP sV sU pu)=(H5,0,0,0):=by
 rw [xf];rfl
theorem Rk:eZ 0 (eG H5 1)=true:=by
 have n1:=iT [114,117,108,101] (by decide) (by decide);have n2:=iT [97] (by decide) (by decide);have n3:=iT [102,111,114] (by decide) (by decide);have w1:eT ⟨1,[97],0,1,6⟩=true:=by
  unfold eT iw;rw [if_pos rfl,n2];rfl
 have w2:eT ⟨6,[],120,1,12⟩=true:=rfl;simp only [H5,eG,k7,eZ,zW,n1,n3,w1,w2,List.all_cons,List.all_nil,pc];rfl
theorem Rl:eF 0 H5=[114,117,108,101,32,97,32,123,10,32,32,102,111,114,32,50,109,59,10,125,10]:=by
 have n2:=iT [97] (by decide) (by decide);have w1:kD ⟨1,[97],0,1,6⟩=[97]:=by
  unfold kD eY iw;rw [if_pos rfl,n2];rfl
 have w2:kD ⟨6,[],120,1,12⟩=[50,109]:=by
  unfold kD eY;rw [show iw 6 [] 120=true from rfl];simp only [if_neg (show ¬true=false by decide),if_neg (show ¬(6:Int)=1 by decide),if_neg (show ¬(6:Int)=2 by decide),if_neg (show ¬(6:Int)=3 by decide),if_neg (show ¬(6:Int)=4 by decide),if_neg (show ¬(6:Int)=5 by decide),if_true];unfold qr;simp [qq,nH,bu]
 simp only [H5,eF,xT,zI,w1,w2,if_true,if_neg (show ¬true=false by decide),fI,Lib.repeatL,pc];rfl
theorem uK:Sp Tryz.prog gl 8 [] (.bool true):=by
 refine s8 rfl rfl ?_;have T:=wP pu (oP sV sU pu) (mQ sV sU pu (fun w hw=>kY w (by have:pu.length=15:=rfl;omega)) (fun w hw=>oT w (by have:pu.length=15:=rfl;omega))) (fun _ h=>by rw [xf] at h;cases h);have LP:=ka H5 (by decide) (by simp [H5,wT,Cz]) (by simp [H5,CA,IW]);unfold E4 at LP;rw [Rk,if_pos rfl,Rl] at LP;rw [CH] at T;unfold pu lw at T;dsimp only at T;generalize aw H5=RU at *
 simp [c8];apply ab T;simp;apply ab LP;simp
theorem nR (s:List UInt8):Sp Tryz.prog gl 5 [.str s] (.bool true):=by
 refine s5 rfl rfl ?_;have AW:=uK;by_cases c0:5000<s.length
 ·have c0':(5000:Int)<s.length:=by omega
  simp [c5];apply ab AW;simp [c0,c0']
 have c0': ¬(5000:Int)<s.length:=by omega
 have PS:=oI s;have PF:=tq s;generalize eQ s=x at *
 obtain ⟨its,c,a,b⟩:=x;simp only [lw] at PS PF;rcases PF with ⟨h1,h2⟩|⟨h1,h2⟩
 ·subst h2;have h1':(c !=0)=true:=by simpa using h1
  simp only [aw] at PS;simp [c5];apply ab AW;simp [c0,c0'];apply ab PS;simp [h1,h1']
 ·simp only [gQ] at h1;obtain ⟨rfl,rfl,rfl⟩:=h1;have hc:=h2.cnt;obtain ⟨k1,k2,k3⟩:=kF h2;have rt:=mG h2;have RI:=oL its (by omega) k2;have PR:=ka its (by omega) k2 k3;unfold E4 at PR;rw [rt,if_pos rfl] at PR;rw [rt] at RI;by_cases c1:40000<(eF 0 its).length
  ·have c1':(40000:Int)<(eF 0 its).length:=by omega
   generalize eF 0 its=P at *
   generalize aw its=II at *
   simp [c5];apply ab AW;simp [c0,c0'];apply ab PS;simp;apply ab PR;simp;apply ab RI;simp [c1,c1']
  ·have c1': ¬(40000:Int)<(eF 0 its).length:=by omega
   obtain ⟨m,m1,m2,m3,m4⟩:=CE h2 (by omega);have PM:=oI (eF 0 its);rw [m1] at PM;simp only [lw] at PM;have hcm:=m2.cnt;obtain ⟨j1,j2,j3⟩:=kF m2;have PQ:=ka m (by omega) j2 j3;unfold E4 at PQ;rw [mG m2,if_pos rfl,m3] at PQ;have SM:=zM _ its m (eV _) (by omega) k2;rw [m4] at SM;clear m1 m2 m3 m4 h2 k1 k2 k3 j1 j2 j3 rt;generalize eF 0 its=P at *
   generalize aw its=II at *
   generalize aw m=MM at *
   simp [c5];apply ab AW;simp [c0,c0'];apply ab PS;simp;apply ab PR;simp;apply ab RI;simp [c1,c1'];apply ab PM;simp;apply ab PQ;simp;apply ab SM;simp
end Go.Ai
