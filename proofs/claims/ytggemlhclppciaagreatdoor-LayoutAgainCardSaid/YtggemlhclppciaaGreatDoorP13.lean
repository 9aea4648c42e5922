/- P13: a part of the proof. Conditions: as each theorem says. -/
import Derived.Test.YtggemlhclppciaaGreatDoorP12
set_option maxHeartbeats 4000000
set_option linter.unusedSimpArgs false
set_option linter.unusedVariables false
set_option maxRecDepth 20000
namespace Go.Ai
open Go.Proofs
theorem J3 (k:Int) (hk:k=1) (s:List UInt8) (n:Nat) (l c:Int) (hl:s.length≤100000) (hn:n<18446744073709551616) (hr:iw k s n=true):Sp Tryz.prog gl 64 [gv k s n l c] (.str s):=by
 refine DA rfl rfl ?_;have RG:=bC k s n l c (by omega);rw [hr] at RG;have d1:(k==1)=true:=by subst hk;decide
 clear hk;unfold gv at *
 simp [Dg];apply ab RG;simp [d1]
theorem J4 (k:Int) (hk:k=2) (s:List UInt8) (n:Nat) (l c:Int) (hl:s.length≤100000) (hn:n<18446744073709551616) (hg:dQ (ag s 0)=true) (hc:(ag s 0).length≤120) (hr:iw k s n=true):Sp Tryz.prog gl 64 [gv k s n l c] (.str (Dt (ag s 0))):=by
 refine DA rfl rfl ?_;have RG:=bC k s n l c (by omega);rw [hr] at RG;have d1:(k==1)=false:=by subst hk;decide
 have d2:(k==2)=true:=by subst hk;decide
 have Q:=wN s hl hg hc;generalize Dt (ag s 0)=q at *
 clear hk hg hc;unfold gv at *
 simp [Dg];apply ab RG;simp [d1,d2];apply ab Q;simp
theorem J5 (k:Int) (hk:k=3) (s:List UInt8) (n:Nat) (l c:Int) (hl:s.length≤100000) (hn:n<18446744073709551616) (hr:iw k s n=true):Sp Tryz.prog gl 64 [gv k s n l c] (.str (bu n)):=by
 refine DA rfl rfl ?_;have RG:=bC k s n l c (by omega);rw [hr] at RG;have d1:(k==1)=false:=by subst hk;decide
 have d2:(k==2)=false:=by subst hk;decide
 have d3:(k==3)=true:=by subst hk;decide
 have F:=nO n hn;generalize bu n=q at *
 clear hk;unfold gv at *
 simp [Dg];apply ab RG;simp [d1,d2,d3];apply ab F;simp
theorem J6 (k:Int) (hk:k=4) (s:List UInt8) (n:Nat) (l c:Int) (hl:s.length≤100000) (hn:n<18446744073709551616) (hr:iw k s n=true):Sp Tryz.prog gl 64 [gv k s n l c] (.str (Du n)):=by
 refine DA rfl rfl ?_;have RG:=bC k s n l c (by omega);rw [hr] at RG;have d1:(k==1)=false:=by subst hk;decide
 have d2:(k==2)=false:=by subst hk;decide
 have d3:(k==3)=false:=by subst hk;decide
 have d4:(k==4)=true:=by subst hk;decide
 have F:=zF n hn;generalize Du n=q at *
 clear hk;unfold gv at *
 simp [Dg];apply ab RG;simp [d1,d2,d3,d4];apply ab F;simp
theorem J7 (k:Int) (hk:k=5) (s:List UInt8) (n:Nat) (l c:Int) (hl:s.length≤100000) (hn:n<18446744073709551616) (hm:n≤1000000) (hr:iw k s n=true):Sp Tryz.prog gl 64 [gv k s n l c] (.str (Dr n)):=by
 refine DA rfl rfl ?_;have RG:=bC k s n l c (by omega);rw [hr] at RG;have d1:(k==1)=false:=by subst hk;decide
 have d2:(k==2)=false:=by subst hk;decide
 have d3:(k==3)=false:=by subst hk;decide
 have d4:(k==4)=false:=by subst hk;decide
 have d5:(k==5)=true:=by subst hk;decide
 have F:=wM n hm;have w1:IntKind.u32.wrap (n:Int)=n:=by rw [gI]<;>omega
 generalize Dr n=q at *
 clear hk hm;unfold gv at *
 simp [Dg];apply ab RG;simp [d1,d2,d3,d4,d5,w1];apply ab F;simp
theorem J8 (k:Int) (hk:k=6) (s:List UInt8) (n:Nat) (l c:Int) (hl:s.length≤100000) (hn:n<18446744073709551616) (hm:n≤253402300799) (hr:iw k s n=true):Sp Tryz.prog gl 64 [gv k s n l c] (.str (qr n)):=by
 refine DA rfl rfl ?_;have RG:=bC k s n l c (by omega);rw [hr] at RG;have d1:(k==1)=false:=by subst hk;decide
 have d2:(k==2)=false:=by subst hk;decide
 have d3:(k==3)=false:=by subst hk;decide
 have d4:(k==4)=false:=by subst hk;decide
 have d5:(k==5)=false:=by subst hk;decide
 have d6:(k==6)=true:=by subst hk;decide
 have F:=rX n hm;have w1:IntKind.i64.wrap (n:Int)=n:=by rw [an]<;>omega
 generalize qr n=q at *
 clear hk hm;unfold gv at *
 simp [Dg];apply ab RG;simp [d1,d2,d3,d4,d5,d6,w1];apply ab F;simp
theorem J9 (k:Int) (hk:k=0) (s:List UInt8) (n:Nat) (l c:Int) (hl:s.length≤100000) (hn:n<18446744073709551616) (hr:iw k s n=true):Sp Tryz.prog gl 64 [gv k s n l c] (.str []):=by
 refine DA rfl rfl ?_;have RG:=bC k s n l c (by omega);rw [hr] at RG;have d1:(k==1)=false:=by subst hk;decide
 have d2:(k==2)=false:=by subst hk;decide
 have d3:(k==3)=false:=by subst hk;decide
 have d4:(k==4)=false:=by subst hk;decide
 have d5:(k==5)=false:=by subst hk;decide
 have d6:(k==6)=false:=by subst hk;decide
 have j0:(0:Int)≤k:=by omega
 have j1:k<10:=by omega
 have j2:k.toNat=0:=by omega
 clear hk;unfold gv at *
 simp [Dg];apply ab RG;simp [d1,d2,d3,d4,d5,d6,j0,j1,j2]
theorem Ka (k:Int) (hk:k=7) (s:List UInt8) (n:Nat) (l c:Int) (hl:s.length≤100000) (hn:n<18446744073709551616) (hr:iw k s n=true):Sp Tryz.prog gl 64 [gv k s n l c] (.str [123]):=by
 refine DA rfl rfl ?_;have RG:=bC k s n l c (by omega);rw [hr] at RG;have d1:(k==1)=false:=by subst hk;decide
 have d2:(k==2)=false:=by subst hk;decide
 have d3:(k==3)=false:=by subst hk;decide
 have d4:(k==4)=false:=by subst hk;decide
 have d5:(k==5)=false:=by subst hk;decide
 have d6:(k==6)=false:=by subst hk;decide
 have j0:(0:Int)≤k:=by omega
 have j1:k<10:=by omega
 have j2:k.toNat=7:=by omega
 clear hk;unfold gv at *
 simp [Dg];apply ab RG;simp [d1,d2,d3,d4,d5,d6,j0,j1,j2]
theorem Kb (k:Int) (hk:k=8) (s:List UInt8) (n:Nat) (l c:Int) (hl:s.length≤100000) (hn:n<18446744073709551616) (hr:iw k s n=true):Sp Tryz.prog gl 64 [gv k s n l c] (.str [125]):=by
 refine DA rfl rfl ?_;have RG:=bC k s n l c (by omega);rw [hr] at RG;have d1:(k==1)=false:=by subst hk;decide
 have d2:(k==2)=false:=by subst hk;decide
 have d3:(k==3)=false:=by subst hk;decide
 have d4:(k==4)=false:=by subst hk;decide
 have d5:(k==5)=false:=by subst hk;decide
 have d6:(k==6)=false:=by subst hk;decide
 have j0:(0:Int)≤k:=by omega
 have j1:k<10:=by omega
 have j2:k.toNat=8:=by omega
 clear hk;unfold gv at *
 simp [Dg];apply ab RG;simp [d1,d2,d3,d4,d5,d6,j0,j1,j2]
theorem Kc (k:Int) (hk:k=9) (s:List UInt8) (n:Nat) (l c:Int) (hl:s.length≤100000) (hn:n<18446744073709551616) (hr:iw k s n=true):Sp Tryz.prog gl 64 [gv k s n l c] (.str [59]):=by
 refine DA rfl rfl ?_;have RG:=bC k s n l c (by omega);rw [hr] at RG;have d1:(k==1)=false:=by subst hk;decide
 have d2:(k==2)=false:=by subst hk;decide
 have d3:(k==3)=false:=by subst hk;decide
 have d4:(k==4)=false:=by subst hk;decide
 have d5:(k==5)=false:=by subst hk;decide
 have d6:(k==6)=false:=by subst hk;decide
 have j0:(0:Int)≤k:=by omega
 have j1:k<10:=by omega
 have j2:k.toNat=9:=by omega
 clear hk;unfold gv at *
 simp [Dg];apply ab RG;simp [d1,d2,d3,d4,d5,d6,j0,j1,j2]
theorem Hu (k:Int) (s:List UInt8) (n:Nat) (l c:Int) (hl:s.length≤100000) (hr:iw k s n=false):Sp Tryz.prog gl 64 [gv k s n l c] (.str [63]):=by
 refine DA rfl rfl ?_;have RG:=bC k s n l c (by omega);rw [hr] at RG;unfold gv at *
 simp [Dg];apply ab RG;simp
theorem Cv (k:Int) (s:List UInt8) (n:Nat) (l c:Int) (hl:s.length≤100000) (hn:n<18446744073709551616):Sp Tryz.prog gl 64 [gv k s n l c] (.str (eY k s n)):=by
 unfold eY;cases hr:iw k s n
 ·rw [if_pos rfl];exact Hu k s n l c hl hr
 rw [if_neg (by decide)];have hr':=hr;unfold iw at hr';by_cases c1:k=1
 ·rw [if_pos c1];exact J3 k c1 s n l c hl hn hr
 rw [if_neg c1] at hr' ⊢;by_cases c2:k=2
 ·rw [if_pos c2] at hr' ⊢;rw [aC,aC,lK] at hr';exact J4 k c2 s n l c hl hn hr'.1 hr'.2.1 hr
 rw [if_neg c2] at hr' ⊢;by_cases c3:k=3
 ·rw [if_pos c3];exact J5 k c3 s n l c hl hn hr
 rw [if_neg c3];by_cases c4:k=4
 ·rw [if_pos c4];exact J6 k c4 s n l c hl hn hr
 rw [if_neg c4];rw [if_neg (by rintro (h|h);exact c3 h;exact c4 h)] at hr';by_cases c5:k=5
 ·rw [if_pos c5] at hr' ⊢;rw [aC,lK] at hr';exact J7 k c5 s n l c hl hn hr'.2 hr
 rw [if_neg c5] at hr' ⊢;by_cases c6:k=6
 ·rw [if_pos c6] at hr' ⊢;rw [aC,lK] at hr';exact J8 k c6 s n l c hl hn hr'.2 hr
 rw [if_neg c6] at hr' ⊢;by_cases c7:k=7
 ·rw [if_pos c7];exact Ka k c7 s n l c hl hn hr
 rw [if_neg c7];by_cases c8:k=8
 ·rw [if_pos c8];exact Kb k c8 s n l c hl hn hr
 rw [if_neg c8];by_cases c9:k=9
 ·rw [if_pos c9];exact Kc k c9 s n l c hl hn hr
 rw [if_neg c9];by_cases c0:k=0
 ·exact J9 k c0 s n l c hl hn hr
 ·rw [if_neg (by rintro (h|h|h|h);exact c0 h;exact c7 h;exact c8 h;exact c9 h)] at hr';cases hr'
open Go.Proofs
theorem EH (k:Int) (s:List UInt8) (n:Nat) (hn:n<18446744073709551616) (hl:s.length≤2000):(eY k s n).length≤3000:=by
 unfold eY;cases hr:iw k s n with
 |false=>rw [if_pos rfl];decide
 |true=>
  rw [if_neg (by decide)];by_cases c1:k=1
  ·rw [if_pos c1];omega
  rw [if_neg c1];by_cases c2:k=2
  ·rw [if_pos c2];subst c2;obtain ⟨_,_,_,h3⟩:=iR s n hr
   have:=ml (ag s 0)
   unfold Dt;rw [dT,cG,yF];omega
  rw [if_neg c2];by_cases c0:1≤k∧k≤9
  ·obtain ⟨s',hs',e⟩: ∃s':List UInt8,s'.length≤500∧iw k s' n=true∧eY k s' n=(if k=3 then bu n else if k=4 then Du n else if k=5 then Dr n else if k=6 then qr n else if k=7 then [123] else if k=8 then [125] else if k=9 then [59] else []):=by
    have hs:s=[]:=by
     unfold iw at hr;rw [if_neg c1,if_neg c2] at hr;repeat' split at hr
     all_goals first|(simp at hr;done)|(simp at hr;first|exact hr|exact hr.1)
    refine ⟨s,by rw [hs];decide,hr,?_⟩;unfold eY;rw [hr,if_neg (by decide),if_neg c1,if_neg c2]
   have:=Hs ⟨k,s',n,0,0⟩ ⟨c0,hn,e.1⟩ hs'
   dsimp only at this;rw [e.2] at this;omega
  ·rw [if_neg (by omega),if_neg (by omega),if_neg (by omega),if_neg (by omega),if_neg (by omega),if_neg (by omega),if_neg (by omega)];decide
end Go.Ai
namespace Go.Ai
open Go.Proofs Go.Shelf
def kD (t:Tk):List UInt8:=eY t.k t.t t.n
def zI:List Tk→List UInt8
 |[]=>[]
 |w::r=>32::(kD w++zI r)
mutual
def xT:Nat→It→List UInt8
 |d,.mk n ws b ks _ _=>fI d++(n++(zI ws++(if b=false then [59,10] else 32::123::10::(eF (d+1) ks++(fI d++[125,10])))))
def eF:Nat→List It→List UInt8
 |_,[]=>[]
 |d,x::r=>xT d x++eF d r
end
theorem uA (d:Nat): ∀a b:List It,eF d (a++b)=eF d a++eF d b
 |[],b=>rfl
 |x::a,b=>by rw [bt,eF,eF,uA d a b,lJ]
theorem EI: ∀ws:List Tk,Lib.joinTail [32] (ws.map kD)=zI ws
 |[]=>rfl
 |w::ws=>by
  have:=EI ws
  unfold Lib.joinTail at this ⊢;rw [ik,ik,List.flatten_cons,this,zI];simp
theorem wO (n:List UInt8) (ws:List Tk):Lib.join (n::ws.map kD) [32]=n++zI ws:=by rw [Lib.join_cons,EI]
theorem kE (x n:List UInt8) (l:List (List UInt8)):Lib.join ((n::l)++[x]) [32]=Lib.join (n::l) [32]++32::x:=by
 rw [bt,Lib.join_cons,Lib.join_cons];unfold Lib.joinTail;rw [List.map_append,List.flatten_append];simp
open Go.Proofs
def rI:List Tk→List Tk
 |_::y::r=>y::r
 |l=>l
def oG (l:List Tk) (n:Nat):List AV:=[.sl (l.map Tk.row),i6 n]
theorem qA (t:Tk) (r:List Tk) (n:Nat) (d:Nat) (b:Id) (hb:b.isIt=false) (hbd:b.isNw d=false):
  b7 Tryz.prog gl 79 d ⟨[.ptr b 0],[(b,oG (t::r) n)],[]⟩ ⟨.agg t.row,[(b,oG (rI (t::r)) n)],[]⟩:=by
 refine QY rfl ?_;have hib:=aP hbd;obtain ⟨k,s,m,ln,co⟩:=t;cases r with
 |nil=>
  simp only [rI,oG,ik,vn,Tk.row,az,bE,a7,AV.mp,bK,Pl.mp];simp [Nn];apply ai<;>simp [hib,hb]
 |cons y r=>
  simp only [rI,oG,ik,vn,Tk.row,az,bE,a7,AV.mp,bK,Pl.mp];have h1:=uS r;have hl:(1:Int)<((List.map Tk.row r).length:Int)+1+1:=by omega
  generalize List.map Tk.row r=L at *
  have hk:((L.length:Int)+1+1).toNat=L.length+1+1:=by omega
  have hg:(1:Int)≤(L.length:Int)+1+1:=by omega
  simp [Nn,hl,hk];refine ⟨hg,h1,?_⟩;apply ai<;>simp [hib,hb]
def uB (c:Int) (t:Tk):AV:= .ifc 35 (.agg [i6 c,i6 t.ln,i6 t.co])
theorem qB (c:Int) (t:Tk) (d:Nat):rG Tryz.prog gl 80 d ⟨[i6 c,.agg t.row],[],[]⟩ ⟨uB c t,[],[]⟩:=by
 refine Q0 rfl ?_;obtain ⟨k,s,m,ln,co⟩:=t;simp only [Tk.row,uB,az,bE,a7,AV.mp,bK,Pl.mp];simp [No];refine ⟨rfl,by simp,⟨?_,?_,?_,?_,?_,?_⟩⟩<;>simp
end Go.Ai
namespace Go.Ai
inductive Pr (α:Type) where
 |ok (a:α) (l:List Tk) (n:Nat)
 |th (c:Int) (t:Tk) (l:List Tk) (n:Nat)
 |no
mutual
def pL:Nat→Nat→Int→List It→List Tk→Nat→Pr (List It)
 |0,_,_,_,_,_=> .no
 |_+1,_,_,_,[],_=> .no
 |f+1,d,e,out,t::r,n=>
  if t.k=e then .ok out (rI (t::r)) n
  else if t.k≠1 then .th 6 t (rI (t::r)) n
  else if 4<d then .th 19 t (rI (t::r)) n
  else if n=300 then .th 9 t (rI (t::r)) n
  else match pI f d t.t t.ln t.co [] (rI (t::r)) (n+1) with
   | .ok x l' n'=>pL f d e (out++[x]) l' n'
   | .th c t l' n'=> .th c t l' n'
   | .no=> .no
def pI:Nat→Nat→List UInt8→Int→Int→List Tk→List Tk→Nat→Pr It
 |0,_,_,_,_,_,_,_=> .no
 |_+1,_,_,_,_,_,[],_=> .no
 |f+1,d,nm,ln,co,ws,t::r,n=>
  if t.k=9 then .ok (.mk nm ws false [] ln co) (rI (t::r)) n
  else if t.k=7 then match pL f (d+1) 8 [] (rI (t::r)) n with
   | .ok ks l' n'=> .ok (.mk nm ws true ks ln co) l' n'
   | .th c t l' n'=> .th c t l' n'
   | .no=> .no
  else if t.k<1∨6<t.k then .th 6 t (rI (t::r)) n
  else if ws.length=6 then .th 9 t (rI (t::r)) n
  else pI f d nm ln co (ws++[t]) (rI (t::r)) n
end
theorem EJ: ∀f:Nat,(∀d e out l n o l' n',pL f d e out l n= .ok o l' n'→n≤300→out.length≤n→n≤n'∧n'≤300∧o.length≤n')∧(∀d nm ln co ws l n x l' n',pI f d nm ln co ws l n= .ok x l' n'→n≤300→n≤n'∧n'≤300)
 |0=>⟨fun d e out l n o l' n' h _ _=>by simp [pL] at h,fun d nm ln co ws l n x l' n' h _=>by simp [pI] at h⟩
 |f+1=>by
  obtain ⟨ihL,ihI⟩:=EJ f;refine ⟨fun d e out l n o l' n' h hn ho=>?_,fun d nm ln co ws l n x l' n' h hn=>?_⟩
  ·cases l with
   |nil=>simp [pL] at h
   |cons t r=>
    rw [pL] at h;split at h
    ·cases h;exact ⟨eV _,hn,ho⟩
    split at h
    ·cases h
    split at h
    ·cases h
    split at h
    ·cases h
    rename_i c4;split at h
    ·rename_i x l2 n2 he;have h1:=ihI _ _ _ _ _ _ _ _ _ _ he (by omega);have h2:=ihL _ _ _ _ _ _ _ _ h h1.2 (by rw [cG,yF];omega);exact ⟨by omega,h2.2⟩
    ·cases h
    ·cases h
  ·cases l with
   |nil=>simp [pI] at h
   |cons t r=>
    rw [pI] at h;split at h
    ·cases h;exact ⟨eV _,hn⟩
    split at h
    ·split at h
     ·rename_i ks l2 n2 he;cases h
      have:=ihL _ _ _ _ _ _ _ _ he hn (jI _)
      exact ⟨this.1,this.2.1⟩
     ·cases h
     ·cases h
    split at h
    ·cases h
    split at h
    ·cases h
    exact ihI _ _ _ _ _ _ _ _ _ _ h hn
open Go.Proofs
def M9 (f:Nat):Prop:= ∀(d:Nat) (e:Int) (l:List Tk) (n:Nat) (D:Nat) (b:Id),b.isIt=false→b.isNw D=false→d≤5→n≤300→
 (∀o l' n',pL f d e [] l n= .ok o l' n'→b7 Tryz.prog gl 49 D ⟨[.ptr b 0,i6 d,i6 e],[(b,oG l n)],[]⟩ ⟨.sl (aw o),[(b,oG l' n')],[]⟩)∧
 (∀c t l' n',pL f d e [] l n= .th c t l' n'→rG Tryz.prog gl 49 D ⟨[.ptr b 0,i6 d,i6 e],[(b,oG l n)],[]⟩ ⟨uB c t,[(b,oG l' n')],[]⟩)
def IM (f:Nat):Prop:= ∀(d:Nat) (x:Tk) (l:List Tk) (n:Nat) (D:Nat) (b:Id),b.isIt=false→b.isNw D=false→d≤4→n≤300→
 (∀y l' n',pI f d x.t x.ln x.co [] l n= .ok y l' n'→b7 Tryz.prog gl 81 D ⟨[.ptr b 0,.agg x.row,i6 d],[(b,oG l n)],[]⟩ ⟨.agg y.row,[(b,oG l' n')],[]⟩)∧
 (∀c t l' n',pI f d x.t x.ln x.co [] l n= .th c t l' n'→rG Tryz.prog gl 81 D ⟨[.ptr b 0,.agg x.row,i6 d],[(b,oG l n)],[]⟩ ⟨uB c t,[(b,oG l' n')],[]⟩)
theorem Bh (f d:Nat) (e:Int) (l:List Tk) (n:Nat) (D:Nat) (b:Id) (hb:b.isIt=false) (hbd:b.isNw D=false) (hd:d≤5) (hn:n≤300) (hI: ∀g,g<f→IM g) (Q:AE→St→Prop) (Rp:AV→St→Prop) (hno:pL f d e [] l n≠ .no)
  (hQ: ∀o l' n',pL f d e [] l n= .ok o l' n'→ ∀σ,ct D [.t 6] ⟨.sl (aw o),[(b,oG l' n')],[]⟩ .r σ→Q .r σ)
  (hR: ∀c t l' n',pL f d e [] l n= .th c t l' n'→ ∀v σ,oB D ⟨uB c t,[(b,oG l' n')],[]⟩ v σ→Rp v σ):
  bZ (b7 Tryz.prog gl) (rG Tryz.prog gl) Rp KW Q (az ⟨[.ptr b 0,i6 d,i6 e],[(b,oG l n)],[]⟩):=by
 have hib:=aP hbd;obtain ⟨R,hRR⟩: ∃R,R=pL f d e [] l n:=⟨_,rfl⟩;rw [←hRR] at hno hQ hR;have hlim:rM=140737488355328:=rfl;unfold oG at *
 simp only [az,bE,a7,AV.mp,bK,Pl.mp];simp [KW];refine AN (α:=Nat×List It×List Tk×Nat) (fun y=>⟨[(0,.ptr (.up b) 0),(1,i6 d),(2,i6 e),(7,.sl (aw y.2.1))],[(.up b,[.sl (y.2.2.1.map Tk.row),i6 y.2.2.2])],[(.s 7,6)]⟩) (fun y=>y.1≤f∧y.2.1.length≤y.2.2.2∧y.2.2.2≤300∧pL y.1 d e y.2.1 y.2.2.1 y.2.2.2=R) (fun y=>y.1) ?_ (f,[],l,n) ?_ ?_
 ·rintro K ⟨g,out,l,n⟩ hK ⟨hg,ho,hn,he⟩;simp only at hg ho hn he;cases g with
  |zero=>exact absurd (by rw [←he];simp [pL]) hno
  |succ g=>
   cases l with
   |nil=>exact absurd (by rw [←he];simp [pL]) hno
   |cons t r=>
    rw [pL] at he;have NX:=fun D h=>qA t r n D (.up b) hb h
    unfold oG at NX;have hri:=uk out;have hrl:=ew out;have hll:((aw out).length+1)*88≤rM:=by rw [hlim,hrl];omega
    have TH:=fun (c:Int) (D:Nat)=>qB c t D
    simp only [Tk.row] at NX TH;rw [ik,Tk.row] at *
    have hi1:=hI g (by omega);obtain ⟨tk,tt,tn,tl,tc⟩:=t;simp only [Tk.row] at NX TH he ⊢;have e2:(tk==e)=decide (tk=e):=rfl;generalize rI (⟨tk,tt,tn,tl,tc⟩::r)=l2 at *
    generalize List.map Tk.row r=LR at *
    simp;refine ax _ _ (NX _ rfl) ?_;simp;by_cases c1:tk=e
    ·rw [if_pos c1] at he;have c1':(tk==e)=true:=by simpa using c1
     clear hK hR hI hi1;simp [c1,c1'];refine hQ _ _ _ he.symm _ ?_;apply ai<;>simp [hib,hb]
    rw [if_neg c1] at he;have c1':(tk==e)=false:=by simpa using c1
    by_cases c2:tk≠1
    ·rw [if_pos c2] at he;have c2':(tk !=1)=true:=by simpa using c2
     clear hK hQ hI hi1;simp [c1,c1',c2,c2'];refine md _ _ (TH 6 _) ⟨?_,?_,?_,?_,?_,?_,?_⟩ rfl ?_;iterate 7 (· simp)
     refine hR _ _ _ _ he.symm _ _ ⟨rfl,by simp,?_⟩;refine ⟨?_,?_,?_,?_,?_,?_⟩<;>simp [hib,hb]
    rw [if_neg c2] at he;have c2:tk=1:=by omega
    by_cases c3:4<d
    ·rw [if_pos c3] at he;have c3':(4:Int)<d:=by omega
     have c2':(tk !=1)=false:=by simpa using c2
     clear hK hQ hI hi1 c2;simp [c1,c1',c2',c3,c3'];refine md _ _ (TH 19 _) ⟨?_,?_,?_,?_,?_,?_,?_⟩ rfl ?_;iterate 7 (· simp)
     refine hR _ _ _ _ he.symm _ _ ⟨rfl,by simp,?_⟩;refine ⟨?_,?_,?_,?_,?_,?_⟩<;>simp [hib,hb]
    rw [if_neg c3] at he;have c3': ¬(4:Int)<d:=by omega
    by_cases c4:n=300
    ·rw [if_pos c4] at he;have c4':((n:Int)==300)=true:=by rw [c4];rfl
     have c2':(tk !=1)=false:=by simpa using c2
     clear hK hQ hI hi1 c2;subst c4;simp [c1,c1',c2',c3,c3',c4'];refine md _ _ (TH 9 _) ⟨?_,?_,?_,?_,?_,?_,?_⟩ rfl ?_;iterate 7 (· simp)
     refine hR _ _ _ _ he.symm _ _ ⟨rfl,by simp,?_⟩;refine ⟨?_,?_,?_,?_,?_,?_⟩<;>simp [hib,hb]
    rw [if_neg c4] at he;have c4':((n:Int)==300)=false:=dh.2 (by omega);have c2':(tk !=1)=false:=by simpa using c2
    have t1:IntKind.i64.wrap ((n:Int)+1)=(n+1:Nat):=by rw [an]<;>omega
    have hcn:=(EJ g).2 d tt tl tc [] l2 (n+1);have hiO:=fun D h=>(hi1 d ⟨tk,tt,tn,tl,tc⟩ l2 (n+1) D (.up b) hb h (by omega) (by omega)).1
    have hiT:=fun D h=>(hi1 d ⟨tk,tt,tn,tl,tc⟩ l2 (n+1) D (.up b) hb h (by omega) (by omega)).2
    simp only [Tk.row] at hiO hiT;clear hi1 hI;split at he
    ·rename_i x l3 n3 hx;have IM:=fun D h=>hiO D h _ _ _ hx
     have hc3:=hcn _ _ _ hx (by omega);have fin:=fun σ' hσ=>hK (g,out++[x],l3,n3) σ' ⟨by omega,by simp only [cG,yF];omega,hc3.2,he⟩ (by simp only;omega) hσ
     simp only [ql,aw] at fin;obtain ⟨xn,ws,xb,ks,xl,xc⟩:=x;simp only [It.row] at IM fin;unfold oG at IM;clear hiO hiT hK hQ hR TH NX hcn hx;generalize aw out=OR at *
     generalize aw ks=KR at *
     generalize List.map Tk.row ws=WR at *
     generalize List.map Tk.row l3=L3 at *
     generalize List.map Tk.row l2=L2 at *
     simp [c1,c1',c2',c3,c3',c4,c4',t1];refine D6 _ _ (IM _ rfl) ⟨?_,?_,?_,?_,?_,?_,?_⟩ ?_;iterate 7 (· simp [t1])
     simp [hlim];refine ⟨by omega,hri,?_⟩;refine fin _ ?_;apply am<;>simp [t1]
    ·rename_i c' t' l3 n3 hx;have IT:=fun D h=>hiT D h _ _ _ _ hx
     unfold oG at IT;clear hiO hiT hK hQ TH NX hcn hx;simp [c1,c1',c2',c3,c3',c4,c4',t1];refine md _ _ (IT _ rfl) ⟨?_,?_,?_,?_,?_,?_,?_⟩ rfl ?_;iterate 7 (· simp [t1])
     refine hR _ _ _ _ he.symm _ _ ⟨rfl,by simp,?_⟩;refine ⟨?_,?_,?_,?_,?_,?_⟩<;>simp [hib,hb]
    ·exact absurd he.symm hno
 ·exact ⟨eV _,jI _,hn,hRR.symm⟩
 ·apply am<;>simp [aw]
theorem Hv (f:Nat) (hI: ∀g,g<f→IM g):M9 f:=by
 intro d e l n D b hb hbd hd hn;refine ⟨fun o l' n' h=>?_,fun c t l' n' h=>?_⟩
 ·refine QM rfl ?_;refine Bh f d e l n D b hb hbd hd hn hI _ _ (by rw [h];simp) (fun o2 l2 n2 h2 σ hp=>?_) (fun c t l' n' h2=>by rw [h] at h2;cases h2);rw [h] at h2;cases h2;exact hp
 ·refine QL rfl ?_;refine Bh f d e l n D b hb hbd hd hn hI _ _ (by rw [h];simp) (fun o2 l2 n2 h2=>by rw [h] at h2;cases h2) (fun c2 t2 l2 n2 h2 v σ hp=>?_);rw [h] at h2;cases h2;exact hp
open Go.Proofs
theorem Bi (f d:Nat) (x:Tk) (l:List Tk) (n:Nat) (D:Nat) (b:Id) (hb:b.isIt=false) (hbd:b.isNw D=false) (hd:d≤4) (hn:n≤300) (hL: ∀g,g<f→M9 g) (Q:AE→St→Prop) (Rp:AV→St→Prop) (hno:pI f d x.t x.ln x.co [] l n≠ .no)
  (hQ: ∀y l' n',pI f d x.t x.ln x.co [] l n= .ok y l' n'→ ∀σ,ct D [.ca 6 6] ⟨.agg y.row,[(b,oG l' n')],[]⟩ .r σ→Q .r σ)
  (hR: ∀c t l' n',pI f d x.t x.ln x.co [] l n= .th c t l' n'→ ∀v σ,oB D ⟨uB c t,[(b,oG l' n')],[]⟩ v σ→Rp v σ):
  bZ (b7 Tryz.prog gl) (rG Tryz.prog gl) Rp KX Q (az ⟨[.ptr b 0,.agg x.row,i6 d],[(b,oG l n)],[]⟩):=by
 have hib:=aP hbd;obtain ⟨R,hRR⟩: ∃R,R=pI f d x.t x.ln x.co [] l n:=⟨_,rfl⟩;rw [←hRR] at hno hQ hR;have hlim:rM=140737488355328:=rfl;have w1:IntKind.i64.wrap ((d:Int)+1)=(d+1:Nat):=by rw [an]<;>omega
 obtain ⟨xk,nm,xn,ln,co⟩:=x;simp only [Tk.row] at *
 unfold oG at *
 simp only [az,bE,a7,AV.mp,bK,Pl.mp];simp [KX];refine AN (α:=Nat×List Tk×List Tk×Nat) (fun y=>⟨[(0,.ptr (.up b) 0),(2,i6 d),(6,.ptr (.n 6) 0),(7,.ptr (.n 7) 0)],[(.n 7,[.str nm,.sl (y.2.1.map Tk.row),.bool false,.sl [],i6 ln,i6 co]),(.n 6,[.str [],.nils,.bool false,.nils,i6 0,i6 0]),(.up b,[.sl (y.2.2.1.map Tk.row),i6 y.2.2.2])],[(.b (.n 7) 1,5)]⟩) (fun y=>y.1≤f∧y.2.1.length≤6∧y.2.2.2≤300∧pI y.1 d nm ln co y.2.1 y.2.2.1 y.2.2.2=R) (fun y=>y.1) ?_ (f,[],l,n) ?_ ?_
 ·rintro K ⟨g,ws,l,n⟩ hK ⟨hg,ho,hn,he⟩;simp only at hg ho hn he;cases g with
  |zero=>exact absurd (by rw [←he];simp [pI]) hno
  |succ g=>
   cases l with
   |nil=>exact absurd (by rw [←he];simp [pI]) hno
   |cons t r=>
    rw [pI] at he;have NX:=fun D h=>qA t r n D (.up b) hb h
    unfold oG at NX;have hwr:=uS ws;have hwl:(ws.map Tk.row).length=ws.length:=Jn _;have TH:=fun (c:Int) (D:Nat)=>qB c t D
    simp only [Tk.row] at NX TH;rw [ik,Tk.row] at *
    have hl1:=hL g (by omega);obtain ⟨tk,tt,tn,tl,tc⟩:=t;simp only [Tk.row] at NX TH he ⊢;have fin0:pI g d nm ln co (ws++[⟨tk,tt,tn,tl,tc⟩]) (rI (⟨tk,tt,tn,tl,tc⟩::r)) n=R→ws.length≠6→ ∀σ',e7 σ' ⟨[(0,.ptr (.up b) 0),(2,i6 d),(6,.ptr (.n 6) 0),(7,.ptr (.n 7) 0)],[(.n 7,[.str nm,.sl (ws.map Tk.row++[[i6 tk,.str tt,u tn,i6 tl,i6 tc]]),.bool false,.sl [],i6 ln,i6 co]),(.n 6,[.str [],.nils,.bool false,.nils,i6 0,i6 0]),(.up b,[.sl ((rI (⟨tk,tt,tn,tl,tc⟩::r)).map Tk.row),i6 n])],[(.b (.n 7) 1,5)]⟩→K σ':=fun hp h6 σ' hσ=>
     hK (g,ws++[⟨tk,tt,tn,tl,tc⟩],rI (⟨tk,tt,tn,tl,tc⟩::r),n) σ' ⟨by omega,by simp only [cG,yF];omega,hn,hp⟩ (by simp only;omega) (by
      simp only [List.map_append,ik,vn,Tk.row];exact hσ)
    generalize rI (⟨tk,tt,tn,tl,tc⟩::r)=l2 at *
    generalize List.map Tk.row r=LR at *
    clear hK;simp;refine ax _ _ (NX _ rfl) ?_;simp;by_cases c1:tk=9
    ·rw [if_pos c1] at he;have c1':(tk==9)=true:=by simpa using c1
     have hq:=hQ _ _ _ he.symm;simp only [It.row,aw] at hq;clear hQ hR hL hl1 fin0 NX TH;generalize List.map Tk.row ws=WR at *
     generalize List.map Tk.row l2=L2 at *
     simp [c1,c1'];refine hq _ ?_;apply ai<;>simp [hib,hb]
    rw [if_neg c1] at he;have c1':(tk==9)=false:=by simpa using c1
    by_cases c7:tk=7
    ·rw [if_pos c7] at he;have c7':(tk==7)=true:=by simpa using c7
     have hlO:=fun D h=>(hl1 (d+1) 8 l2 n D (.up b) hb h (by omega) hn).1
     have hlT:=fun D h=>(hl1 (d+1) 8 l2 n D (.up b) hb h (by omega) hn).2
     unfold oG at hlO hlT;clear hl1 hL fin0 NX TH;split at he
     ·rename_i ks l3 n3 hx;have LO:=fun D h=>hlO D h _ _ _ hx
      have hq:=hQ _ _ _ he.symm;simp only [It.row] at hq;clear hlO hlT hx hQ hR;generalize aw ks=KR at *
      generalize List.map Tk.row ws=WR at *
      generalize List.map Tk.row l3=L3 at *
      generalize List.map Tk.row l2=L2 at *
      simp [c1,c1',c7,c7',w1];refine D6 _ _ (LO _ rfl) ⟨?_,?_,?_,?_,?_,?_,?_⟩ ?_;iterate 7 (· simp)
      simp;refine hq _ ?_;apply ai<;>simp [hib,hb]
     ·rename_i c' t' l3 n3 hx;have LT:=fun D h=>hlT D h _ _ _ _ hx
      clear hlO hlT hQ hx;generalize List.map Tk.row ws=WR at *
      simp [c1,c1',c7,c7',w1];refine md _ _ (LT _ rfl) ⟨?_,?_,?_,?_,?_,?_,?_⟩ rfl ?_;iterate 7 (· simp)
      refine hR _ _ _ _ he.symm _ _ ⟨rfl,by simp,?_⟩;refine ⟨?_,?_,?_,?_,?_,?_⟩<;>simp [hib,hb]
     ·exact absurd he.symm hno
    rw [if_neg c7] at he;have c7':(tk==7)=false:=by simpa using c7
    clear hl1 hL;by_cases c2:tk<1∨6<tk
    ·rw [if_pos c2] at he;by_cases c3:tk<1
     ·clear hQ fin0 NX;generalize List.map Tk.row ws=WR at *
      simp [c1,c1',c7,c7',c3];refine md _ _ (TH 6 _) ⟨?_,?_,?_,?_,?_,?_,?_⟩ rfl ?_;iterate 7 (· simp)
      refine hR _ _ _ _ he.symm _ _ ⟨rfl,by simp,?_⟩;refine ⟨?_,?_,?_,?_,?_,?_⟩<;>simp [hib,hb]
     ·have c4:6<tk:=by omega
      clear hQ fin0 NX;generalize List.map Tk.row ws=WR at *
      simp [c1,c1',c7,c7',c3,c4];refine md _ _ (TH 6 _) ⟨?_,?_,?_,?_,?_,?_,?_⟩ rfl ?_;iterate 7 (· simp)
      refine hR _ _ _ _ he.symm _ _ ⟨rfl,by simp,?_⟩;refine ⟨?_,?_,?_,?_,?_,?_⟩<;>simp [hib,hb]
    rw [if_neg c2] at he;have c3: ¬tk<1:=by omega
    have c4: ¬6<tk:=by omega
    by_cases c5:ws.length=6
    ·rw [if_pos c5] at he;have c5':((ws.length:Int)==6)=true:=by rw [c5];rfl
     clear hQ fin0 NX;rw [c5] at hwl;generalize List.map Tk.row ws=WR at *
     simp [c1,c1',c7,c7',c3,c4,hwl,c5,c5'];refine md _ _ (TH 9 _) ⟨?_,?_,?_,?_,?_,?_,?_⟩ rfl ?_;iterate 7 (· simp)
     refine hR _ _ _ _ he.symm _ _ ⟨rfl,by simp,?_⟩;refine ⟨?_,?_,?_,?_,?_,?_⟩<;>simp [hib,hb]
    rw [if_neg c5] at he;have c5':((ws.length:Int)==6)=false:=dh.2 (by omega);have fin:=fin0 he c5;clear fin0 hQ hR NX TH;generalize List.map Tk.row ws=WR at *
    have hll:(WR.length+1)*48≤140737488355328:=by omega
    simp [c1,c1',c7,c7',c3,c4,hwl,c5,c5',hlim];refine ⟨by omega,hwr,?_⟩;refine fin _ ?_;apply am<;>simp
 ·exact ⟨eV _,jI _,hn,hRR.symm⟩
 ·apply am<;>simp
open Go.Proofs
theorem Hw (f:Nat) (hL: ∀g,g<f→M9 g):IM f:=by
 intro d x l n D b hb hbd hd hn;refine ⟨fun o l' n' h=>?_,fun c t l' n' h=>?_⟩
 ·refine Q2 rfl ?_;refine Bi f d x l n D b hb hbd hd hn hL _ _ (by rw [h];simp) (fun o2 l2 n2 h2 σ hp=>?_) (fun c t l' n' h2=>by rw [h] at h2;cases h2);rw [h] at h2;cases h2;exact hp
 ·refine Q1 rfl ?_;refine Bi f d x l n D b hb hbd hd hn hL _ _ (by rw [h];simp) (fun o2 l2 n2 h2=>by rw [h] at h2;cases h2) (fun c2 t2 l2 n2 h2 v σ hp=>?_);rw [h] at h2;cases h2;exact hp
theorem PL: ∀f,M9 f∧IM f:=by
 intro f;induction f using Nat.strongRecOn with
 |ind f ih=>exact ⟨Hv f fun g hg=>(ih g hg).2,Hw f fun g hg=>(ih g hg).1⟩
theorem Hx (V:List (List AV)) (a b c:Int) (dm:Nat):IF Tryz.prog gl 48 dm ⟨[.ptr (.up (.n 2)) 0,.ptr (.up (.n 3)) 0],[(.up (.n 2),[.sl V]),(.up (.n 3),[i6 a,i6 b,i6 c])],[]⟩ .nili ⟨.tup [],[(.up (.n 2),[.sl V]),(.up (.n 3),[i6 a,i6 b,i6 c])],[]⟩:=by
 refine P8 rfl rfl ?_;simp only [az,bE,a7,AV.mp,bK,Pl.mp];simp [Mg,Mh];refine f8 ⟨?_,?_,?_,?_,?_,?_⟩<;>simp
theorem Hy (a b c:Int) (e:Int) (t:Tk) (dm:Nat):IF Tryz.prog gl 48 dm ⟨[.ptr (.up (.n 2)) 0,.ptr (.up (.n 3)) 0],[(.up (.n 2),[.nils]),(.up (.n 3),[i6 a,i6 b,i6 c])],[]⟩ (uB e t) ⟨.tup [],[(.up (.n 2),[.nils]),(.up (.n 3),[i6 e,i6 t.ln,i6 t.co])],[]⟩:=by
 refine P8 rfl rfl ?_;unfold uB;simp only [az,bE,a7,AV.mp,bK,Pl.mp];simp [Mg,Mh];refine f8 ⟨?_,?_,?_,?_,?_,?_⟩<;>simp
section
variable {S SP:Nat→Nat→In→bW→Prop} {SD:Nat→Nat→In→AV→bW→Prop} {N sl dm d:Nat} {rs:List AR} {O:bW} {σ:St}
theorem Hz {a:AC} {r:JH}:uh S SP SD N sl dm d rs O (.sq a r) σ=dz S a (fun e σ'=>match e with | .n=>uh S SP SD N sl dm d rs O r σ'| .r=>ct d rs O .r σ'| .x _=>False) σ:=rfl
theorem Bj {l:List be} {x:X} {c2:ud}:uh S SP SD N sl dm d rs O (.df l x c2) σ=kT S l (fun σ'=>match σ'.v x with
 | .fn g caps=> ∃I M,I.vs.length=N∧cD sl σ' ((List.range N).map X.s) I M∧ct d [.t sl] O .r (a6 sl σ' ((List.range N).map X.s) I M)∧
  bZ S SP (fun v τ=>(∃T y,v= .ifc T y)∧kV SD sl dm rs M g caps v τ) c2 (fun e τ=>match e with | .x _=>False|_=>kV SD sl dm rs M g caps .nili τ) (az I)
 |_=>False) σ:=rfl
end
theorem LY:(List.range 22).map X.s=[.s 0,.s 1,.s 2,.s 3,.s 4,.s 5,.s 6,.s 7,.s 8,.s 9,.s 10,.s 11,.s 12,.s 13,.s 14,.s 15,.s 16,.s 17,.s 18,.s 19,.s 20,.s 21]:=rfl
def eQ (s:List UInt8):List It×Int×Int×Int:=
 if (cI s).c≠0 then ([],(cI s).c,(cI s).a,(cI s).b)
 else match pL (2*(cI s).l.length+3) 1 0 [] (cI s).l 0 with
  | .ok o _ _=>(o,0,0,0)
  | .th c t _ _=>([],c,t.ln,t.co)
  | .no=>([],0,0,0)
def lw (x:List It×Int×Int×Int):AV:= .tup [.sl (aw x.1),.agg [i6 x.2.1,i6 x.2.2.1,i6 x.2.2.2]]
def zJ (x:TR):List It×Int×Int×Int:=
 if x.c≠0 then ([],x.c,x.a,x.b)
 else match pL (2*x.l.length+3) 1 0 [] x.l 0 with
  | .ok o _ _=>(o,0,0,0)
  | .th c t _ _=>([],c,t.ln,t.co)
  | .no=>([],0,0,0)
theorem wP (s:List UInt8) (x:TR) (TK:Sp Tryz.prog gl 47 [.str s] x.av) (hno:x.c=0→pL (2*x.l.length+3) 1 0 [] x.l 0≠ .no):Sp Tryz.prog gl 22 [.str s] (lw (zJ x)):=by
 refine Sp.of_h fun D=>?_
 refine Qz 1 1 (by decide) (by decide) rfl ?_;unfold zJ lw;obtain ⟨xl,xc,xa,xb⟩:=x;unfold TR.av at TK;simp only at *
 simp only [az,bE,a7,AV.mp,bK,Pl.mp,Nd,Hz];by_cases h0:xc=0
 ·subst h0;have hno:=hno rfl;simp;apply ab TK;simp;have hL:=fun D h=>(PL (2*xl.length+3)).1 1 0 xl 0 D (.n 18) rfl h (by decide) (by decide)
  unfold oG at hL;cases hP:pL (2*xl.length+3) 1 0 [] xl 0 with
  |no=>exact absurd hP hno
  |ok o l' n'=>
   have LO:=fun D h=>(hL D h).1 _ _ _ hP
   clear hL hno hP;dsimp only;generalize aw o=OR at *
   generalize List.map Tk.row xl=XL at *
   generalize List.map Tk.row l'=L1 at *
   rw [Bj,LY];simp;refine ⟨⟨[.str s,.undef,.ptr (.n 2) 0,.ptr (.n 3) 0,.sl XL,.undef,.tup [.sl XL,.agg [i6 0,i6 xa,i6 xb]],.str s,.tup [.sl XL,.agg [i6 0,i6 xa,i6 xb]],.sl XL,.agg [i6 0,i6 xa,i6 xb],.ptr (.n 3) 0,i6 0,.bool false,.undef,.fn 48 [.ptr (.n 2) 0,.ptr (.n 3) 0],.undef,.undef,.undef,.undef,.undef,.undef],[(.n 2,[.nils]),(.n 3,[i6 0,i6 xa,i6 xb])],[]⟩,rfl,⟨.tup [.sl OR,.agg [i6 0,i6 0,i6 0]],[(.n 2,[.sl OR]),(.n 3,[i6 0,i6 0,i6 0])],[]⟩,⟨?_,?_,?_,?_,?_,?_,?_⟩,?_,?_⟩;iterate 7 (· simp)
   ·apply ai<;>simp
   ·simp;refine D6 _ _ (LO _ rfl) ⟨?_,?_,?_,?_,?_,?_,?_⟩ ?_;iterate 7 (· simp)
    simp;refine ⟨_,_,Hx OR 0 0 0 1,⟨?_,?_,?_,?_,?_,?_,?_⟩,?_⟩;iterate 7 (· simp)
    apply ai<;>simp
  |th c t l' n'=>
   have LT:=fun D h=>(hL D h).2 _ _ _ _ hP
   clear hL hno hP;dsimp only;have RF:=Hy 0 xa xb c t 1;generalize List.map Tk.row xl=XL at *
   generalize List.map Tk.row l'=L1 at *
   obtain ⟨tk,tt,tn,tl,tc⟩:=t;unfold uB at *
   dsimp only at *
   rw [Bj,LY];simp;refine ⟨⟨[.str s,.undef,.ptr (.n 2) 0,.ptr (.n 3) 0,.sl XL,.undef,.tup [.sl XL,.agg [i6 0,i6 xa,i6 xb]],.str s,.tup [.sl XL,.agg [i6 0,i6 xa,i6 xb]],.sl XL,.agg [i6 0,i6 xa,i6 xb],.ptr (.n 3) 0,i6 0,.bool false,.undef,.fn 48 [.ptr (.n 2) 0,.ptr (.n 3) 0],.undef,.undef,.undef,.undef,.undef,.undef],[(.n 2,[.nils]),(.n 3,[i6 0,i6 xa,i6 xb])],[]⟩,rfl,⟨.tup [.sl [],.agg [i6 c,i6 tl,i6 tc]],[(.n 2,[.nils]),(.n 3,[i6 c,i6 tl,i6 tc])],[]⟩,⟨?_,?_,?_,?_,?_,?_,?_⟩,?_,?_⟩;iterate 7 (· simp)
   ·apply ai<;>simp [aw]
   ·simp;refine md _ _ (LT _ rfl) ⟨?_,?_,?_,?_,?_,?_,?_⟩ rfl ?_;iterate 7 (· simp)
    refine ⟨⟨_,_,rfl⟩,_,_,RF,⟨?_,?_,?_,?_,?_,?_,?_⟩,?_⟩;iterate 7 (· simp)
    apply ai<;>simp
 ·have h0':(xc !=0)=true:=by simpa using h0
  rw [if_pos h0];generalize List.map Tk.row xl=XL at *
  simp;apply ab TK;simp [h0,h0'];apply ai<;>simp [aw]
theorem Cw (s:List UInt8) (hno:(cI s).c=0→pL (2*(cI s).l.length+3) 1 0 [] (cI s).l 0≠ .no):Sp Tryz.prog gl 22 [.str s] (lw (eQ s)):=wP s (cI s) (Cl s) hno
open Go.Proofs
structure wQ (t:Tk):Prop where
 k:1≤t.k∧t.k≤9
 nm:t.k=1→t.n=0
 br:7≤t.k→t.t=[]∧t.n=0
theorem EK {k:Int} {w:List UInt8} {n:Nat} {a b:Int} (h1:1≤k∧k≤9) (h2:k=1→n=0) (h3:7≤k→w=[]∧n=0):wQ ⟨k,w,n,a,b⟩:=⟨h1,h2,h3⟩
def oH (t:Tk):Prop:=t.k=0∧t.t=[]∧t.n=0
theorem HC {m:List Int} {k:Int} {w:List UInt8} {n:Nat} (h:rV m= .t k w n):(k=1∧n=0)∨(3≤k∧k≤6):=by
 have td: ∀ {j:Int} {q:Nat×Int},bz j q= .t k w n→k=j:=by
  intro j q h;unfold bz at h;split at h
  ·cases h;rfl
  ·cases h
 unfold rV at h;split at h
 ·split at h
  ·cases h;exact .inl ⟨rfl,rfl⟩
  ·cases h
 ·unfold xU at h;right;split at h
  ·rw [td h];decide
  split at h
  ·rw [td h];decide
  split at h
  ·rw [td h];decide
  ·rw [td h];decide
theorem LZ {m:List Int} {c:Int} (h:rV m= .e c):c≠0:=by
 unfold rV at h;split at h
 ·split at h
  ·cases h
  ·cases h;decide
 ·unfold xU at h;repeat' split at h
  all_goals exact mj h
theorem Bk (l:List Int) (i:Nat) (r:Int) (hc:(ck rV sU l i r).c=0) (a b:Int):wQ ⟨(ck rV sU l i r).k,(ck rV sU l i r).w,(ck rV sU l i r).n,a,b⟩:=by
 unfold ck at hc ⊢;by_cases c1:r=123
 ·rw [if_pos c1];exact EK (k:=7) (w:=[]) (n:=0) (by decide) (fun h=>absurd h (by decide)) (fun _=>⟨rfl,rfl⟩)
 rw [if_neg c1] at hc ⊢;by_cases c2:r=125
 ·rw [if_pos c2];exact EK (k:=8) (w:=[]) (n:=0) (by decide) (fun h=>absurd h (by decide)) (fun _=>⟨rfl,rfl⟩)
 rw [if_neg c2] at hc ⊢;by_cases c3:r=59
 ·rw [if_pos c3];exact EK (k:=9) (w:=[]) (n:=0) (by decide) (fun h=>absurd h (by decide)) (fun _=>⟨rfl,rfl⟩)
 rw [if_neg c3] at hc ⊢;by_cases c4:r=34
 ·rw [if_pos c4] at hc ⊢;by_cases c5:lC l (i+1)=0
  ·rw [if_pos c5] at hc;exact absurd hc (by decide)
  ·rw [if_neg c5];exact EK (k:=2) (n:=0) (by decide) (fun h=>absurd h (by decide)) (fun h=>absurd h (by decide))
 rw [if_neg c4] at hc ⊢;by_cases c5:wthn r=true
 ·rw [if_pos c5] at hc ⊢;cases hv:rV (cF l i (fM l i)) with
  |e c=>
   rw [hv] at hc;exact absurd hc (LZ hv)
  |t k w n=>
   have:=HC hv
   unfold TV.on;dsimp only;exact EK (by omega) (by omega) (by omega)
 ·rw [if_neg c5] at hc;exact absurd hc (by decide)
theorem jn (Q:Tk→Prop) (l:List Int) (hQ: ∀i r,(ck rV sU l i r).c=0→ ∀a b,Q ⟨(ck rV sU l i r).k,(ck rV sU l i r).w,(ck rV sU l i r).n,a,b⟩) (P:List (Int×Int)): ∀(f i:Nat) (out:List Tk),l.length - i<f→i≤l.length→(bp rV sU l P f i out).c=0→ ∃o z,(bp rV sU l P f i out).l=out++o++[z]∧(∀t∈o,Q t)∧oH z
 |0,i,out,hf,hi,hc=>by omega
 |f+1,i,out,hf,hi,hc=>by
  rw [bp] at hc ⊢;cases hl:l[i]? with
  |none=>
   rw [hl] at hc;refine ⟨[],_,by rw [pc],(fun t ht=>by cases ht),rfl,rfl,rfl⟩
  |some r=>
   obtain ⟨gi,er⟩:=oU.1 hl;rw [hl] at hc;dsimp only at hc ⊢;by_cases c1:r=32∨r=9∨r=10
   ·rw [if_pos c1] at hc ⊢;exact jn Q l hQ P f (i+1) out (by omega) (by omega) hc
   rw [if_neg c1] at hc ⊢;by_cases c2:r=35
   ·rw [if_pos c2] at hc ⊢;have hs:=FJ l l.length (i+1) (by omega) (by omega);have e:Ac l i=Ac l (i+1):=by rw [uV gi,if_neg (by rw [er,c2];decide)]
    rw [e] at hc ⊢;exact jn Q l hQ P f _ out (by omega) (by omega) hc
   rw [if_neg c2] at hc ⊢;by_cases c3:(ck rV sU l i r).c=0
   ·rw [if_pos c3] at hc ⊢;have he:=Ic rV sU l i gi (by rw [er];exact c3);rw [er] at he;obtain ⟨o,z,h1,h2,h3⟩:=jn Q l hQ P f _ _ (by omega) (by omega) hc;refine ⟨⟨(ck rV sU l i r).k,(ck rV sU l i r).w,(ck rV sU l i r).n,(P.getD i (0,0)).1,(P.getD i (0,0)).2⟩::o,z,?_,?_,h3⟩
    ·rw [h1];simp only [lJ,List.singleton_append,bt,bO]
    ·intro t ht;rcases i8.1 ht with rfl|ht
     ·exact hQ i r c3 _ _
     ·exact h2 t ht
   ·rw [if_neg c3] at hc;exact absurd hc c3
theorem tp (Q:Tk→Prop) {s:List UInt8} (hQ: ∀i r,(ck rV sU (ag s 0) i r).c=0→ ∀a b,Q ⟨(ck rV sU (ag s 0) i r).k,(ck rV sU (ag s 0) i r).w,(ck rV sU (ag s 0) i r).n,a,b⟩) (h:(cI s).c=0): ∃o z,(cI s).l=o++[z]∧(∀t∈o,Q t)∧oH z:=by
 unfold cI CY at h ⊢;split at h
 ·exact absurd h (by decide)
 ·rename_i hl;rw [if_neg hl];obtain ⟨o,z,h1,h2⟩:=jn Q _ hQ _ _ 0 [] (by omega) (jI _) h;exact ⟨o,z,by rw [h1,bO],h2⟩
theorem wR {s:List UInt8} (h:(cI s).c=0): ∃o z,(cI s).l=o++[z]∧(∀t∈o,wQ t)∧oH z:=tp wQ (fun i r hc a b=>Bk _ i r hc a b) h
end Go.Ai
namespace Go.Ai
structure Gr (l:List Tk):Prop where
 h: ∃o z,l=o++[z]∧(∀t∈o,wQ t)∧oH z
theorem Gr.ne {l:List Tk} (h:Gr l):l≠[]:=by
 obtain ⟨o,z,rfl,_⟩:=h;simp
theorem Gr.cons {t:Tk} {r:List Tk} (h:Gr (t::r)):(r=[]∧oH t∧rI (t::r)=[t])∨(wQ t∧Gr r∧rI (t::r)=r):=by
 obtain ⟨o,z,e,ho,hz⟩:=h;cases o with
 |nil=>
  rw [bO] at e;injection e with e1 e2;subst e1;subst e2;exact .inl ⟨rfl,hz,rfl⟩
 |cons a o=>
  rw [bt] at e;injection e with e1 e2;subst e1;subst e2;refine .inr ⟨ho _ (by simp),⟨o,z,rfl,fun t ht=>ho t (by simp [ht]),hz⟩,?_⟩;cases o with
  |nil=>rfl
  |cons b o=>rfl
mutual
def mr:It→List Tk
 | .mk n ws b ks ln co=>⟨1,n,0,ln,co⟩::(ws++(if b=false then [⟨9,[],0,0,0⟩] else ⟨7,[],0,0,0⟩::(gM ks++[⟨8,[],0,0,0⟩])))
def gM:List It→List Tk
 |[]=>[]
 |x::r=>mr x++gM r
end
def uC (t:Tk):Tk:=⟨t.k,t.t,t.n,if t.k<7 then t.ln else 0,if t.k<7 then t.co else 0⟩
theorem Bl {t:Tk} (h:t.k<7):uC t=t:=by
 obtain ⟨k,s,n,a,b⟩:=t;unfold uC;dsimp only at *
 rw [if_pos h,if_pos h]
theorem uD {t:Tk} (h:wQ t) (h7:7≤t.k):uC t=⟨t.k,[],0,0,0⟩:=by
 obtain ⟨e1,e2⟩:=h.br h7;unfold uC;rw [if_neg (by omega),if_neg (by omega),e1,e2]
def Ri (d:Nat) (e:Int) (out:List It) (l:List Tk) (n:Nat):Pr (List It)→Prop
 | .no=>False
 | .ok o l' n'=> ∃its T t r,o=out++its∧l=T++t::r∧t.k=e∧l'=rI (t::r)∧Gr (t::r)∧T.map uC=gM its∧n'=n+bM its∧(its=[]∨d+dX its≤5)∧Dq its
 | .th c _ _ _=>c≠0
def Rj (d:Nat) (nm:List UInt8) (ln co:Int) (ws l:List Tk) (n:Nat):Pr It→Prop
 | .no=>False
 | .ok y l' n'=> ∃T,l=T++l'∧Gr l'∧(⟨1,nm,0,ln,co⟩::(ws++T.map uC):List Tk)=mr y∧n'+1=n+ga y∧d+o5 y≤5∧JR y
 | .th c _ _ _=>c≠0
theorem EL: ∀f:Nat,(∀d e out l n,Gr l→2*l.length+1≤f→(e=0∨e=8)→Ri d e out l n (pL f d e out l n))∧
  (∀d nm ln co ws l n,Gr l→2*l.length+1≤f→d≤4→ws.length≤6→(∀w∈ws,1≤w.k∧w.k≤6)→Rj d nm ln co ws l n (pI f d nm ln co ws l n))
 |0=>⟨fun d e out l n hs hf=>by omega,fun d nm ln co ws l n hs hf=>by omega⟩
 |f+1=>by
  obtain ⟨ihL,ihI⟩:=EL f;refine ⟨fun d e out l n hs hf he=>?_,fun d nm ln co ws l n hs hf hd hw hk=>?_⟩
  ·cases l with
   |nil=>exact absurd rfl hs.ne
   |cons t r=>
    rw [pL];rw [dT] at hf;by_cases c1:t.k=e
    ·rw [if_pos c1];exact ⟨[],[],t,r,(pc _).symm,rfl,c1,rfl,hs,rfl,rfl,.inl rfl,trivial⟩
    rw [if_neg c1];by_cases c2:t.k≠1
    ·rw [if_pos c2];show (6:Int)≠0;decide
    rw [if_neg c2];by_cases c3:4<d
    ·rw [if_pos c3];show (19:Int)≠0;decide
    rw [if_neg c3];by_cases c4:n=300
    ·rw [if_pos c4];show (9:Int)≠0;decide
    rw [if_neg c4];rcases hs.cons with ⟨_,hz,_⟩|⟨ht,hr,hn⟩
    ·exact absurd hz.1 (by omega)
    rw [hn];have hi:=ihI d t.t t.ln t.co [] r (n+1) hr (by omega) (by omega) (by decide) (fun w hw=>by cases hw);split
    ·rename_i x l2 n2 hx;rw [hx] at hi;obtain ⟨T1,e1,s1,k1,n1,d1,w1⟩:=hi;have hl:=ihL d e (out++[x]) l2 n2 s1 (by rw [e1,cG] at hf;omega) he;generalize pL f d e (out++[x]) l2 n2=R at *
     cases R with
     |no=>exact hl
     |th c t l n=>exact hl
     |ok o l' n'=>
      obtain ⟨its,T2,t2,r2,e2,e3,k2,nx,s2,tk,n2',dd,ww⟩:=hl;refine ⟨x::its,t::(T1++T2),t2,r2,by rw [e2,lJ];rfl,by rw [e1,e3];simp,k2,nx,s2,?_,?_,.inr ?_,w1,ww⟩
      ·have eu:uC t=⟨1,t.t,0,t.ln,t.co⟩:=by
        rw [Bl (by omega)];obtain ⟨k,s,m,a,b⟩:=t;have h1:k=1:=by simpa using c2
        have h2:=ht.nm h1;dsimp only at h2 ⊢;rw [h1,h2]
       rw [ik,List.map_append,tk,eu,gM,←k1];simp
      ·rw [bM];omega
      ·rw [dX];rcases dd with rfl|dd
       ·rw [dX];omega
       ·omega
    ·rename_i c2' t2 l2 n2 hx;rw [hx] at hi;exact hi
    ·rename_i hx;rw [hx] at hi;exact hi
  ·cases l with
   |nil=>exact absurd rfl hs.ne
   |cons t r=>
    rw [pI];rw [dT] at hf;rcases hs.cons with ⟨rfl,hz,hn⟩|⟨ht,hr,hn⟩
    ·rw [if_neg (by rw [hz.1];decide),if_neg (by rw [hz.1];decide),if_pos (by rw [hz.1];decide)];show (6:Int)≠0;decide
    rw [hn];by_cases c1:t.k=9
    ·rw [if_pos c1];refine ⟨[t],rfl,hr,?_,by rw [ga,bM],by rw [o5,dX];omega,hw,hk,fun _=>rfl,trivial⟩;rw [ik,vn,uD ht (by omega),c1,mr,if_pos rfl]
    rw [if_neg c1];by_cases c2:t.k=7
    ·rw [if_pos c2];have hl:=ihL (d+1) 8 [] r n hr (by omega) (.inr rfl);split
     ·rename_i ks l2 n2 hx;rw [hx] at hl;obtain ⟨its,T2,t2,r2,e2,e3,k2,nx,s2,tk,n2',dd,ww⟩:=hl;rw [bO] at e2;subst e2;rcases s2.cons with ⟨_,hz,_⟩|⟨ht2,hr2,hn2⟩
      ·exact absurd hz.1 (by omega)
      rw [hn2] at nx;subst nx;refine ⟨t::(T2++[t2]),by rw [e3];simp,hr2,?_,?_,?_,hw,hk,(fun h=>by cases h),ww⟩
      ·rw [ik,List.map_append,ik,vn,uD ht (by omega),uD ht2 (by omega),tk,c2,k2,mr,if_neg (by decide)]
      ·rw [ga];omega
      ·rw [o5];rcases dd with rfl|dd
       ·rw [dX];omega
       ·omega
     ·rename_i c2' t2 l2 n2 hx;rw [hx] at hl;exact hl
     ·rename_i hx;rw [hx] at hl;exact hl
    rw [if_neg c2];by_cases c3:t.k<1∨6<t.k
    ·rw [if_pos c3];show (6:Int)≠0;decide
    rw [if_neg c3];by_cases c4:ws.length=6
    ·rw [if_pos c4];show (9:Int)≠0;decide
    rw [if_neg c4];have hi:=ihI d nm ln co (ws++[t]) r n hr (by omega) hd (by rw [cG,yF];omega) (fun w hw=>by
     rw [gg,m9] at hw;rcases hw with hw|rfl
     ·exact hk w hw
     ·omega)
    generalize pI f d nm ln co (ws++[t]) r n=R at *
    cases R with
    |no=>exact hi
    |th c t l n=>exact hi
    |ok y l' n'=>
     obtain ⟨T,e1,s1,k1,rest⟩:=hi;refine ⟨t::T,by rw [e1];rfl,s1,?_,rest⟩;rw [←k1,ik,Bl (by omega)];simp
open Go.Proofs
theorem wS {s:List UInt8} (h:(cI s).c=0):Gr (cI s).l:=⟨wR h⟩
theorem EM (s:List UInt8) (h:(cI s).c=0):pL (2*(cI s).l.length+3) 1 0 [] (cI s).l 0≠ .no:=by
 have:=(EL (2*(cI s).l.length+3)).1 1 0 [] _ 0 (wS h) (by omega) (.inl rfl)
 intro e;rw [e] at this;exact this
theorem oI (s:List UInt8):Sp Tryz.prog gl 22 [.str s] (lw (eQ s)):=Cw s (EM s)
structure mu (s:List UInt8) (its:List It):Prop where
 c:(cI s).c=0
 h: ∃T z,(cI s).l=T++[z]∧oH z∧T.map uC=gM its∧(∀t∈T,wQ t)
 wf:Dq its
 dep:its=[]∨dX its≤4
 cnt:bM its≤300
 p: ∃T z n,pL (2*(cI s).l.length+3) 1 0 [] (cI s).l 0= .ok its T z∧n=z
theorem tq (s:List UInt8):(eQ s).2.1≠0∧(eQ s).1=[]∨(eQ s).2=(0,0,0)∧mu s (eQ s).1:=by
 unfold eQ;by_cases h:(cI s).c=0
 ·rw [if_neg (by simpa using h)];have hs:=wS h;have hf:=(EL (2*(cI s).l.length+3)).1 1 0 [] _ 0 hs (by omega) (.inl rfl);have hc:=(EJ (2*(cI s).l.length+3)).1 1 0 [] (cI s).l 0;cases hp:pL (2*(cI s).l.length+3) 1 0 [] (cI s).l 0 with
  |no=>rw [hp] at hf;exact hf.elim
  |th c t l n=>
   rw [hp] at hf;exact .inl ⟨hf,rfl⟩
  |ok o l' n'=>
   rw [hp] at hf;dsimp only;obtain ⟨its,T,t,r,e1,e2,k,nx,s2,tk,n1,dd,ww⟩:=hf;rw [bO] at e1;subst e1;have hc:=hc _ _ _ hp (by decide) (eV _);rcases s2.cons with ⟨rfl,hz,_⟩|⟨ht,_,_⟩
   ·refine .inr ⟨rfl,h,⟨T,t,e2,hz,tk,?_⟩,ww,?_,by omega,⟨l',n',n',hp,rfl⟩⟩
    ·obtain ⟨o2,z2,e3,h3,_⟩:=hs.h;rw [e2] at e3
     have:=List.append_inj_left' e3 rfl
     rw [this];exact h3
    ·rcases dd with h|h
     ·exact .inl h
     ·exact .inr (by omega)
   ·have:=ht.k;omega
 ·rw [if_pos h];exact .inl ⟨h,rfl⟩
end Go.Ai
namespace Go.Ai
structure Na (A l:List Int) (m:Nat):Prop where
 h: ∀q,q<A.length→l[m+q]?=A[q]?
 n:l[m+A.length]?=some 10∨l[m+A.length]?=none
theorem Na.at {A l:List Int} {m:Nat} (h:Na A l m) {i:Nat} (hi:i<A.length): ∃g:m+i<l.length,l[m+i]=A[i]:=by
 have:=h.h i hi
 rw [rC hi] at this;exact oU.1 this
theorem Na.fin {A l:List Int} {m:Nat} (h:Na A l m):(∃g:m+A.length<l.length,l[m+A.length]=10)∨ ¬m+A.length<l.length:=h.n.imp (fun h=>oU.1 h) (fun h=>by have:=List.getElem?_eq_none_iff.1 h;omega)
end Go.Ai
