/- P3: a part of the proof. Conditions: as each theorem says. -/
import Derived.Test.YtggemlhclppciaaGreatDoorP2
set_option maxHeartbeats 4000000
set_option linter.unusedSimpArgs false
set_option linter.unusedVariables false
set_option maxRecDepth 20000
namespace Go.Ai
open Go.Proofs
def gZ (k:Int) (s:List UInt8) (n:Nat):Bool:=
 if k=1 then du s&&decide (n=0)
 else if k=2 then dJ (ai s 0)&&(decide ((ai s 0).length≤120)&&decide (n=0))
 else if k=3∨k=4 then s==[]
 else if k=5 then (s==[])&&decide (n≤1000000)
 else if k=6 then (s==[])&&decide (n≤253402300799)
 else if k=0∨k=7∨k=8∨k=9 then (s==[])&&decide (n=0)
 else false
def cV (k:Int) (s:List UInt8) (n:Nat) (l c:Int):AV:= .agg [i6 k,.str s,u n,i6 l,i6 c]
theorem Iy (s:List UInt8) (n:Nat) (l c:Int) (hl:s.length≤900000):Sp Tryz.prog gl 66 [cV 1 s n l c] (.bool (du s&&decide (n=0))):=by
 refine GB rfl rfl ?_;have NM:=nf s hl;unfold cV;cases hb:du s
 ·rw [hb] at NM;rw [iR];simp [mI];apply ab NM;simp
 ·rw [hb] at NM;rw [ib];by_cases n0:n=0
  ·subst n0;rw [io (rfl:(0:Nat)=0)];simp [mI];apply ab NM;simp
  ·have n1:((n:Int)==0)=false:=cI.2 (by omega);have n2: ¬(n:Int)=0:=by omega
   rw [jd n0];simp [mI];apply ab NM;simp [n1,n2]
theorem Iz (s:List UInt8) (n:Nat) (l c:Int) (hl:s.length≤900000):Sp Tryz.prog gl 66 [cV 2 s n l c] (.bool (dJ (ai s 0)&&(decide ((ai s 0).length≤120)&&decide (n=0)))):=by
 refine GB rfl rfl ?_;have GD:=ng s hl;have RS:=ly s hl;unfold cV;generalize (ai s 0).length=rn at *
 cases hb:dJ (ai s 0)
 ·rw [hb] at GD;rw [iR];simp [mI];apply ab GD;simp
 rw [hb] at GD;rw [ib];by_cases hr:rn≤120
 ·have hr':(rn:Int)≤120:=by omega
  rw [io hr,ib];by_cases n0:n=0
  ·subst n0;rw [io (rfl:(0:Nat)=0)];simp [mI];apply ab GD;simp;apply ab RS;simp [hr,hr']
  ·have n1:((n:Int)==0)=false:=cI.2 (by omega);have n2: ¬(n:Int)=0:=by omega
   rw [jd n0];simp [mI];apply ab GD;simp;apply ab RS;simp [hr,hr',n1,n2]
 ·have hr': ¬(rn:Int)≤120:=by omega
  rw [jd hr,iR];simp [mI];apply ab GD;simp;apply ab RS;simp [hr,hr']
theorem IA (k:Int) (hk:k=3) (s:List UInt8) (n:Nat) (l c:Int):Sp Tryz.prog gl 66 [cV k s n l c] (.bool (s==[])):=by
 refine GB rfl rfl ?_;unfold cV;have d1:(k==1)=false:=by subst hk;decide
 have d2:(k==2)=false:=by subst hk;decide
 have d3:(k==3)=true:=by subst hk;decide
 clear hk;by_cases e:s=[]
 ·subst e;rw [show (([]:List UInt8)==[])=true from rfl];simp [mI,d1,d2];refine gx (fun _=>?_) (fun h=>by rw [d3] at h;cases h);simp;refine gx (fun _=>?_) (fun h=>by rw [d3] at h;cases h);simp
 ·have en:(s==[])=false:=cI.2 e;rw [en];simp [mI,d1,d2];refine gx (fun _=>?_) (fun h=>by rw [d3] at h;cases h);simp;refine gx (fun _=>?_) (fun h=>by rw [d3] at h;cases h);simp [e,en]
theorem IB (k:Int) (hk:k=4) (s:List UInt8) (n:Nat) (l c:Int):Sp Tryz.prog gl 66 [cV k s n l c] (.bool (s==[])):=by
 refine GB rfl rfl ?_;unfold cV;have d1:(k==1)=false:=by subst hk;decide
 have d2:(k==2)=false:=by subst hk;decide
 have d3:(k==3)=false:=by subst hk;decide
 have d4:(k==4)=true:=by subst hk;decide
 clear hk;by_cases e:s=[]
 ·subst e;rw [show (([]:List UInt8)==[])=true from rfl];simp [mI,d1,d2,d3,d4]
 ·have en:(s==[])=false:=cI.2 e;rw [en];simp [mI,d1,d2,d3,d4,e,en]
theorem IC (k:Int) (hk:k=5) (s:List UInt8) (n:Nat) (l c:Int):Sp Tryz.prog gl 66 [cV k s n l c] (.bool ((s==[])&&decide (n≤1000000))):=by
 refine GB rfl rfl ?_;unfold cV;have d1:(k==1)=false:=by subst hk;decide
 have d2:(k==2)=false:=by subst hk;decide
 have d3:(k==3)=false:=by subst hk;decide
 have d4:(k==4)=false:=by subst hk;decide
 have d5:(k==5)=true:=by subst hk;decide
 clear hk;by_cases e:s=[]
 ·subst e;rw [show (([]:List UInt8)==[])=true from rfl,ib];by_cases h:n≤1000000
  ·have h':(n:Int)≤1000000:=by omega
   rw [io h];simp [mI,d1,d2,d3,d4,d5,h,h']
  ·have h': ¬(n:Int)≤1000000:=by omega
   rw [jd h];simp [mI,d1,d2,d3,d4,d5,h,h']
 ·have en:(s==[])=false:=cI.2 e;rw [en,iR];simp [mI,d1,d2,d3,d4,d5,e,en]
theorem ID (k:Int) (hk:k=6) (s:List UInt8) (n:Nat) (l c:Int):Sp Tryz.prog gl 66 [cV k s n l c] (.bool ((s==[])&&decide (n≤253402300799))):=by
 refine GB rfl rfl ?_;unfold cV;have d1:(k==1)=false:=by subst hk;decide
 have d2:(k==2)=false:=by subst hk;decide
 have d3:(k==3)=false:=by subst hk;decide
 have d4:(k==4)=false:=by subst hk;decide
 have d5:(k==5)=false:=by subst hk;decide
 have d6:(k==6)=true:=by subst hk;decide
 clear hk;by_cases e:s=[]
 ·subst e;rw [show (([]:List UInt8)==[])=true from rfl,ib];by_cases h:n≤253402300799
  ·have h':(n:Int)≤253402300799:=by omega
   rw [io h];simp [mI,d1,d2,d3,d4,d5,d6,h,h']
  ·have h': ¬(n:Int)≤253402300799:=by omega
   rw [jd h];simp [mI,d1,d2,d3,d4,d5,d6,h,h']
 ·have en:(s==[])=false:=cI.2 e;rw [en,iR];simp [mI,d1,d2,d3,d4,d5,d6,e,en]
theorem IE (k:Int) (hk:k=0) (s:List UInt8) (n:Nat) (l c:Int):Sp Tryz.prog gl 66 [cV k s n l c] (.bool ((s==[])&&decide (n=0))):=by
 refine GB rfl rfl ?_;unfold cV;have d1:(k==1)=false:=by subst hk;decide
 have d2:(k==2)=false:=by subst hk;decide
 have d3:(k==3)=false:=by subst hk;decide
 have d4:(k==4)=false:=by subst hk;decide
 have d5:(k==5)=false:=by subst hk;decide
 have d6:(k==6)=false:=by subst hk;decide
 have d0:(k==0)=true:=by subst hk;decide
 clear hk;by_cases e:s=[]
 ·subst e;rw [show (([]:List UInt8)==[])=true from rfl,ib];by_cases n0:n=0
  ·subst n0;rw [io (rfl:(0:Nat)=0)];simp [mI,d1,d2,d3,d4,d5,d6,d0]
  ·have n1:((n:Int)==0)=false:=cI.2 (by omega);have n2: ¬(n:Int)=0:=by omega
   rw [jd n0];simp [mI,d1,d2,d3,d4,d5,d6,d0,n1,n2]
 ·have en:(s==[])=false:=cI.2 e;rw [en,iR];simp [mI,d1,d2,d3,d4,d5,d6,d0,e,en]
theorem IF (k:Int) (hk:k=7) (s:List UInt8) (n:Nat) (l c:Int):Sp Tryz.prog gl 66 [cV k s n l c] (.bool ((s==[])&&decide (n=0))):=by
 refine GB rfl rfl ?_;unfold cV;have d1:(k==1)=false:=by subst hk;decide
 have d2:(k==2)=false:=by subst hk;decide
 have d3:(k==3)=false:=by subst hk;decide
 have d4:(k==4)=false:=by subst hk;decide
 have d5:(k==5)=false:=by subst hk;decide
 have d6:(k==6)=false:=by subst hk;decide
 have d0:(k==0)=false:=by subst hk;decide
 have d7:(k==7)=true:=by subst hk;decide
 clear hk;by_cases e:s=[]
 ·subst e;rw [show (([]:List UInt8)==[])=true from rfl,ib];by_cases n0:n=0
  ·subst n0;rw [io (rfl:(0:Nat)=0)];simp [mI,d1,d2,d3,d4,d5,d6,d0,d7]
  ·have n1:((n:Int)==0)=false:=cI.2 (by omega);have n2: ¬(n:Int)=0:=by omega
   rw [jd n0];simp [mI,d1,d2,d3,d4,d5,d6,d0,d7,n1,n2]
 ·have en:(s==[])=false:=cI.2 e;rw [en,iR];simp [mI,d1,d2,d3,d4,d5,d6,d0,d7,e,en]
theorem IG (k:Int) (hk:k=8) (s:List UInt8) (n:Nat) (l c:Int):Sp Tryz.prog gl 66 [cV k s n l c] (.bool ((s==[])&&decide (n=0))):=by
 refine GB rfl rfl ?_;unfold cV;have d1:(k==1)=false:=by subst hk;decide
 have d2:(k==2)=false:=by subst hk;decide
 have d3:(k==3)=false:=by subst hk;decide
 have d4:(k==4)=false:=by subst hk;decide
 have d5:(k==5)=false:=by subst hk;decide
 have d6:(k==6)=false:=by subst hk;decide
 have d0:(k==0)=false:=by subst hk;decide
 have d7:(k==7)=false:=by subst hk;decide
 have d8:(k==8)=true:=by subst hk;decide
 clear hk;by_cases e:s=[]
 ·subst e;rw [show (([]:List UInt8)==[])=true from rfl,ib];by_cases n0:n=0
  ·subst n0;rw [io (rfl:(0:Nat)=0)];simp [mI,d1,d2,d3,d4,d5,d6,d0,d7,d8]
  ·have n1:((n:Int)==0)=false:=cI.2 (by omega);have n2: ¬(n:Int)=0:=by omega
   rw [jd n0];simp [mI,d1,d2,d3,d4,d5,d6,d0,d7,d8,n1,n2]
 ·have en:(s==[])=false:=cI.2 e;rw [en,iR];simp [mI,d1,d2,d3,d4,d5,d6,d0,d7,d8,e,en]
theorem II (k:Int) (hk:k=9) (s:List UInt8) (n:Nat) (l c:Int):Sp Tryz.prog gl 66 [cV k s n l c] (.bool ((s==[])&&decide (n=0))):=by
 refine GB rfl rfl ?_;unfold cV;have d1:(k==1)=false:=by subst hk;decide
 have d2:(k==2)=false:=by subst hk;decide
 have d3:(k==3)=false:=by subst hk;decide
 have d4:(k==4)=false:=by subst hk;decide
 have d5:(k==5)=false:=by subst hk;decide
 have d6:(k==6)=false:=by subst hk;decide
 have d0:(k==0)=false:=by subst hk;decide
 have d7:(k==7)=false:=by subst hk;decide
 have d8:(k==8)=false:=by subst hk;decide
 have d9:(k==9)=true:=by subst hk;decide
 clear hk;by_cases e:s=[]
 ·subst e;rw [show (([]:List UInt8)==[])=true from rfl,ib];by_cases n0:n=0
  ·subst n0;rw [io (rfl:(0:Nat)=0)];simp [mI,d1,d2,d3,d4,d5,d6,d0,d7,d8,d9]
  ·have n1:((n:Int)==0)=false:=cI.2 (by omega);have n2: ¬(n:Int)=0:=by omega
   rw [jd n0];simp [mI,d1,d2,d3,d4,d5,d6,d0,d7,d8,d9,n1,n2]
 ·have en:(s==[])=false:=cI.2 e;rw [en,iR];simp [mI,d1,d2,d3,d4,d5,d6,d0,d7,d8,d9,e,en]
theorem IJ (k:Int) (s:List UInt8) (n:Nat) (l c:Int) (h: ¬k=0∧ ¬k=1∧ ¬k=2∧ ¬k=3∧ ¬k=4∧ ¬k=5∧ ¬k=6∧ ¬k=7∧ ¬k=8∧ ¬k=9):Sp Tryz.prog gl 66 [cV k s n l c] (.bool false):=by
 refine GB rfl rfl ?_;unfold cV;obtain ⟨c0,c1,c2,c3,c4,c5,c6,c7,c8,c9⟩:=h;have ne: ∀z:Int,¬k=z→(k==z)=false:=fun z h=>cI.2 h
 have d0:=ne _ c0;have d1:=ne _ c1;have d2:=ne _ c2;have d3:=ne _ c3;have d4:=ne _ c4;have d5:=ne _ c5;have d6:=ne _ c6;have d7:=ne _ c7;have d8:=ne _ c8;have d9:=ne _ c9;simp [mI,d0,d1,d2,d3,d4,d5,d6,d7,d8,d9]
theorem bT (k:Int) (s:List UInt8) (n:Nat) (l c:Int) (hl:s.length≤900000):Sp Tryz.prog gl 66 [cV k s n l c] (.bool (gZ k s n)):=by
 unfold gZ;by_cases c1:k=1
 ·subst c1;rw [if_pos rfl];exact Iy s n l c hl
 rw [if_neg c1];by_cases c2:k=2
 ·subst c2;rw [if_pos rfl];exact Iz s n l c hl
 rw [if_neg c2];by_cases c3:k=3
 ·subst c3;rw [if_pos (.inl rfl)];exact IA 3 rfl s n l c
 by_cases c4:k=4
 ·subst c4;rw [if_pos (.inr rfl)];exact IB 4 rfl s n l c
 rw [if_neg (by rintro (h|h);exact c3 h;exact c4 h)];by_cases c5:k=5
 ·subst c5;rw [if_pos rfl];exact IC 5 rfl s n l c
 rw [if_neg c5];by_cases c6:k=6
 ·subst c6;rw [if_pos rfl];exact ID 6 rfl s n l c
 rw [if_neg c6];by_cases c0:k=0
 ·subst c0;rw [if_pos (.inl rfl)];exact IE 0 rfl s n l c
 by_cases c7:k=7
 ·subst c7;rw [if_pos (.inr (.inl rfl))];exact IF 7 rfl s n l c
 by_cases c8:k=8
 ·subst c8;rw [if_pos (.inr (.inr (.inl rfl)))];exact IG 8 rfl s n l c
 by_cases c9:k=9
 ·subst c9;rw [if_pos (.inr (.inr (.inr rfl)))];exact II 9 rfl s n l c
 rw [if_neg (by rintro (h|h|h|h);exact c0 h;exact c7 h;exact c8 h;exact c9 h)];exact IJ k s n l c ⟨c0,c1,c2,c3,c4,c5,c6,c7,c8,c9⟩
def eS (t:Tk):Bool:=decide (1≤t.k)&&(decide (t.k≤6)&&gZ t.k t.t t.n)
theorem NR (t:Tk):AV.agg t.row=cV t.k t.t t.n t.ln t.co:=rfl
theorem CG (t:Tk) (hl:t.t.length≤900000):Sp Tryz.prog gl 42 [.agg t.row] (.bool (eS t)):=by
 refine Vn rfl rfl ?_;have R:=bT t.k t.t t.n t.ln t.co hl;unfold eS;obtain ⟨k,s,n,l,c⟩:=t;simp only at R ⊢;unfold cV at R;unfold Tk.row;simp only;by_cases c1:(1:Int)≤k
 ·by_cases c2:k≤(6:Int)
  ·simp [PY,c1,c2];apply ab R;simp [c1,c2]
  ·simp [PY,c1,c2]
 ·simp [PY,c1]
theorem FN (t:Tk) (hl:t.t.length≤900000):Sp Tryz.prog gl 41 [.agg t.row] (.bool (!eS t)):=by
 refine Vm rfl rfl ?_;have R:=CG t hl;generalize eS t=b at *
 unfold Tk.row at *
 simp [UB];apply ab R;simp
def IK:List Tk→Nat→Int
 |[],_=> -1
 |a::r,i=>if (!eS a)=true then (i:Int) else IK r (i+1)
theorem IL: ∀(l:List Tk) (i:Nat),decide (0≤IK l i)=!l.all eS
 |[],i=>rfl
 |a::r,i=>by
  rw [List.all_cons];by_cases h:eS a=true
  ·have e:IK (a::r) i=IK r (i+1):=if_neg (by simp [h]);rw [e,IL r (i+1),h,ib]
  ·have e:IK (a::r) i=i:=if_pos (by simpa using h);have h0:eS a=false:=by simpa using h
   rw [e,h0,iR,io (by omega)];rfl
theorem IM (l:List Tk) (hl:l.length≤1000000) (ht: ∀t∈l,t.t.length≤900000) (d:Nat):
  cB Tryz.prog gl 69 d ⟨[.sl (l.map Tk.row),.fn 41 []],[],[]⟩ ⟨i6 (IK l 0),[],[]⟩:=by
 refine VD rfl ?_;have rl:(l.map Tk.row).length=l.length:=by simp
 have rat: ∀i (h:i<l.length),∀h2,(l.map Tk.row)[i]'h2=[i6 l[i].k,.str l[i].t,u l[i].n,i6 l[i].ln,i6 l[i].co]:=fun i h h2=>by simp [Tk.row]
 obtain ⟨R,hR⟩: ∃R,R=IK l 0:=⟨_,rfl⟩;rw [←hR];generalize l.map Tk.row=RR at *
 simp only [aF,bV,bp,AV.mp,b7,Pl.mp];simp [UO,rl];refine aP (α:=Nat) (fun i=>⟨[(0,.sl RR),(1,.fn 41 []),(7,i6 l.length),(8,i6 i)],[],[]⟩) (fun i=>i≤l.length∧R=IK (l.drop i) i) (fun i=>l.length - i) ?_ 0 ?_ ?_
 ·rintro K i hK ⟨h1,h2⟩;by_cases g:i<l.length
  ·have t1:IntKind.i64.wrap ((i:Int)+1)=(i+1:Nat):=by rw [aj]<;>omega
   have gR:i<RR.length:=by omega
   have ra:=rat i g gR;rw [oU g] at h2;simp only [IK] at h2;have C:=FN l[i] (ht _ (ml g));unfold Tk.row at C;have fin:(!eS l[i])=false→ ∀σ',dL σ' ⟨[(0,.sl RR),(1,.fn 41 []),(7,i6 l.length),(8,i6 (i+1:Nat))],[],[]⟩→K σ':=
    fun hg σ' hσ=>hK (i+1) σ' ⟨by omega,by rw [hg] at h2;simpa using h2⟩ (by omega) hσ
   have hpos:(!eS l[i])=true→R=i:=fun hg=>by rw [if_pos hg] at h2;exact h2.symm▸rfl
   clear hK hR rat h2;generalize (!eS l[i])=q at *
   generalize l[i]=x at *
   have C:=fun d=>Sp.h (d:=d) C
   simp [g,gR,ra,rl];refine aB _ _ (C _) ?_;cases q
   ·have fin:=fin rfl;simp [t1];refine fin _ ?_;apply ae<;>simp [t1]
   ·have h2:=hpos rfl;subst h2;simp;apply am<;>simp
  ·obtain rfl:i=l.length:=by omega
   rw [A6] at h2;simp only [IK] at h2;subst h2;clear hK;simp;apply am<;>simp
 ·exact ⟨iA _,hR⟩
 ·apply ae<;>simp
theorem FP (l:List Tk) (hl:l.length≤1000000) (ht: ∀t∈l,t.t.length≤900000) (d:Nat):
  cB Tryz.prog gl 44 d ⟨[.sl (l.map Tk.row),.fn 41 []],[],[]⟩ ⟨.bool (!l.all eS),[],[]⟩:=by
 refine Vp rfl ?_;have Q:=IM l hl ht 7;rw [←IL l 0];generalize l.map Tk.row=RR at *
 generalize IK l 0=R at *
 simp only [aF,bV,bp,AV.mp,b7,Pl.mp];simp [UD];refine aB _ _ (Q) ?_;simp;apply am<;>simp
mutual
def mB:It→Nat→List (Nat×It)
 | .mk n ws b ks ln co,d=>(d,.mk n ws b ks ln co)::dV ks (d+1)
def dV:List It→Nat→List (Nat×It)
 |[],_=>[]
 |x::r,d=>mB x d++dV r d
end
def FQ (p:Nat×It):List AV:=[i6 p.1,.agg p.2.row]
mutual
theorem CH: ∀(x:It) (d:Nat),vr x d=(mB x d).map FQ
 | .mk n ws b ks ln co,d=>by
  rw [vr,mB,iP,nh ks (d+1)];rfl
theorem nh: ∀(L:List It) (d:Nat),bY L d=(dV L d).map FQ
 |[],d=>rfl
 |x::r,d=>by rw [bY,dV,List.map_append,CH x d,nh r d]
end
mutual
theorem FR: ∀(x:It) (d:Nat),(mB x d).length=fC x
 | .mk n ws b ks ln co,d=>by rw [mB,fC,em,pN ks (d+1)];omega
theorem pN: ∀(L:List It) (d:Nat),(dV L d).length=aT L
 |[],d=>rfl
 |x::r,d=>by rw [dV,aT,cG,FR x d,pN r d]
end
def CI (k:Nat) (p:Nat×It):Bool:=match p with
 |(d,.mk n ws b ks _ _)=>decide (k≤300)&&decide (d≤4)&&du n&&decide (ws.length≤6)&&ws.all eS&&(b||ks.length==0)
def fm:Nat→List (Nat×It)→Bool
 |_,[]=>true
 |k,p::r=>CI (k+1) p&&fm (k+1) r
def Lg (x:It):Prop:=match x with
 | .mk n ws _ ks _ _=>n.length≤900000∧ws.length≤1000000∧(∀t∈ws,t.t.length≤900000)∧ks.length≤1000000
def Mb:AC:=match LF with
 | .sq _ (.sq _ (.sq (.sq _ (.bl _ (.rf _ _ _ _ a _))) _))=>a
 |_=> .no
def PL:AC:=match LF with
 | .sq _ (.sq _ (.sq (.sq _ (.bl _ (.rf _ _ _ _ _ b))) _))=>b
 |_=> .no
def uI (RR:List (List AV)) (k:Nat):St:=⟨[(9,.undef),(8,.fn 62 [.ptr (.nw 8 (.n 1)) 0]),(7,.sl RR),(3,.ptr (.n 3) 0),(2,.ptr (.n 2) 0),(0,.sl RR)],[(.nw 8 (.n 1),[.sl RR]),(.n 3,[i6 k]),(.n 2,[.bool false])],[]⟩
theorem xq (RR:List (List AV)) (j:Nat) (hj:j≤100000) (dd:Nat) (hdd:dd≤100000) (x:It) (hx:Lg x) (K:AE→St→Prop) (h1:CI (j+1) (dd,x)=true→K .n (uI RR (j+1))) (h2:CI (j+1) (dd,x)=false→K .r (uI RR (j+1))):
  E1 (cB Tryz.prog gl) 9 [9,10] [2,3] Mb PL (FQ (dd,x)) K (uI RR j):=by
 have t1:IntKind.i64.wrap ((j:Int)+1)=(j+1:Nat):=by rw [aj]<;>omega
 refine ⟨⟨[.ptr (.n 2) 0,.ptr (.n 3) 0],[(.nw 8 (.n 1),[.sl RR]),(.n 3,[i6 j]),(.n 2,[.bool false])],[]⟩,⟨⟨?_,?_,?_,?_,?_,?_,?_⟩,?_,?_⟩,?_⟩;iterate 8 (· simp [uI])
 ·refine nY ?_;simp
 obtain ⟨nm,ws,b,ks,ln,co⟩:=x;obtain ⟨x1,x2,x3,x4⟩:=hx;have NM:=nf nm x1;have HW:=FP ws x2 x3;unfold CI at h1 h2;simp only [FQ,It.row,MW,md,bp,bV,AV.mp,b7,bH,bR,Mb,LF];have fin: ∀e:AE,K e (uI RR (j+1))→ ∀σ':St,aw σ'.bx (.up (.nw 8 (.n 1)))=some [.sl RR]→aw σ'.bx (.up (.n 3))=some [i6 (j+1:Nat)]→aw σ'.bx (.up (.n 2))=some [.bool false]→(∀p∈σ'.bx,p.1.isIt=false)→
   wO 9 (uI RR j) [2,3] ⟨[.ptr (.n 2) 0,.ptr (.n 3) 0],[(.nw 8 (.n 1),[.sl RR]),(.n 3,[i6 j]),(.n 2,[.bool false])],[]⟩ K e σ':=by
  intro e hk σ' b1 b2 b3 hi;refine ⟨⟨.tup [],[(.nw 8 (.n 1),[.sl RR]),(.n 3,[i6 (j+1:Nat)]),(.n 2,[.bool false])],[]⟩,⟨_,.z _,?_,?_,?_,?_,?_,?_⟩,⟨?_,?_,?_,?_,?_,?_,?_⟩,hi,hk⟩
  ·simp
  ·simp
  ·simp [Pq,b1,b2,b3]
  ·simp
  ·simp
  ·simp
  iterate 7 (· simp [uI])
 simp [LF];simp only [PL,LF];refine ⟨by rintro a c (⟨rfl,_⟩|⟨rfl,_⟩|⟨rfl,_⟩|⟨rfl,_⟩)<;>rfl,?_⟩;have wl:(ws.map Tk.row).length=ws.length:=JF _;have kl:=bA ks;generalize List.map Tk.row ws=WR at *
 generalize ar ks=KR at *
 by_cases c1:j+1≤300
 ·have c1': ¬(300:Int)<((j+1:Nat):Int):=by omega
  have c1'': ¬(300:Int)<(j:Int)+1:=by omega
  by_cases c2:dd≤4
  ·have c2': ¬(4:Int)<(dd:Int):=by omega
   cases hn:du nm with
   |false=>
    rw [hn] at NM;simp [t1,c1',c1'',c2'];apply ab NM;simp;refine fin _ (h2 (by simp [c1,c2,hn])) _ rfl rfl rfl ?_;simp
   |true=>
    rw [hn] at NM;by_cases c4:ws.length≤6
    ·have c4': ¬(6:Int)<(ws.length:Int):=by omega
     cases hw:ws.all eS with
     |false=>
      rw [hw] at HW;simp [t1,c1',c1'',c2'];apply ab NM;simp [wl,c4,c4'];refine aB _ _ (HW _) ?_;simp;refine fin _ (h2 (by simp only [c1,c2,hn,c4,hw];simp)) _ rfl rfl rfl ?_;simp
     |true=>
      rw [hw] at HW;cases b with
      |true=>
       simp [t1,c1',c1'',c2'];apply ab NM;simp [wl,c4,c4'];refine aB _ _ (HW _) ?_;simp;refine fin _ (h1 (by simp only [c1,c2,hn,c4,hw];simp)) _ rfl rfl rfl ?_;simp
      |false=>
       by_cases c6:0<ks.length
       ·have c6':(0:Int)<(ks.length:Int):=by omega
        have c6'':(ks.length==0)=false:=cI.2 (by omega);simp [t1,c1',c1'',c2'];apply ab NM;simp [wl,c4,c4'];refine aB _ _ (HW _) ?_;simp [kl,c6,c6'];refine fin _ (h2 (by simp only [c1,c2,hn,c4,hw,c6''];simp)) _ rfl rfl rfl ?_;simp
       ·have c6': ¬(0:Int)<(ks.length:Int):=by omega
        have c6'':(ks.length==0)=true:=bP.2 (by omega);simp [t1,c1',c1'',c2'];apply ab NM;simp [wl,c4,c4'];refine aB _ _ (HW _) ?_;simp [kl,c6,c6'];refine fin _ (h1 (by simp only [c1,c2,hn,c4,hw,c6''];simp)) _ rfl rfl rfl ?_;simp
    ·have c4':(6:Int)<(ws.length:Int):=by omega
     simp [t1,c1',c1'',c2'];apply ab NM;simp [wl,c4,c4'];refine fin _ (h2 (by simp [c1,c2,hn,c4])) _ rfl rfl rfl ?_;simp
  ·have c2':(4:Int)<(dd:Int):=by omega
   simp [t1,c1',c1'',c2'];refine fin _ (h2 (by simp [c1,c2])) _ rfl rfl rfl ?_;simp
 ·have c1':(300:Int)<((j+1:Nat):Int):=by omega
  have c1'':(300:Int)<(j:Int)+1:=by omega
  simp [t1,c1',c1''];refine fin _ (h2 (by simp [c1])) _ rfl rfl rfl ?_;simp
theorem z8 (L:List It) (hc:aT L≤90000) (hd:bN L≤90000) (htx: ∀p∈dV L 1,Lg p.2∧p.1≤100000) (D:Nat):cB Tryz.prog gl 19 D ⟨[.sl (ar L)],[],[]⟩ ⟨.bool (fm 0 (dV L 1)),[],[]⟩:=by
 refine QV rfl ?_;have W:=fun d=>Fb L d
 have IT:=Fa L (.nw 8 (.n 1)) rfl (by omega) hd;have fl:=pN L 1;rw [nh] at IT;have hfl:(dV L 1).length≤90000:=by omega
 generalize dV L 1=FL at *
 generalize ar L=RR at *
 simp only [aF,bV,bp,AV.mp,b7,Pl.mp,LF,BK,DJ,BL];simp [BK,DJ,BL];refine aB _ _ (W _) ?_;simp [BK,DJ,BL];refine ⟨by simp,62,[.ptr (.nw 8 (.n 1)) 0],[(.nw 8 (.n 1),[.sl RR])],FL.map FQ,rfl,?_,IT,?_,?_⟩
 ·intro d cs h;simp only [aw] at h;split at h
  ·rename_i e;subst e;cases h;simp [Gq]
  ·cases h
 ·intro x hx;obtain ⟨p,_,rfl⟩:=vY.1 hx;rfl
 ·refine zm (fun k τ=>τ=uI RR k∧fm 0 FL=fm k (FL.drop k)∧k≤FL.length) (FL.map FQ) 0 _ ⟨rfl,by rw [A7],iA _⟩ ?_ ?_
  ·rintro j x τ hx ⟨rfl,h2,h3⟩;rw [mM] at h2 h3 ⊢;rw [xP] at hx;cases hp:FL[j]? with
   |none=>rw [hp] at hx;cases hx
   |some p=>
    rw [hp] at hx;cases hx;obtain ⟨hj,he⟩:=qI.1 hp;obtain ⟨dd,y⟩:=p;have hq:=htx _ (List.mem_of_getElem? hp);have ho:fm 0 FL=(CI (j+1) (dd,y)&&fm (j+1) (FL.drop (j+1))):=by
     rw [h2,oU hj,he];rfl
    refine xq RR j (by omega) dd hq.2 y hq.1 _ (fun h=>?_) (fun h=>?_)
    ·refine ⟨rfl,?_,by omega⟩;rw [ho,h,ib]
    ·rw [h,iR] at ho;rw [ho];simp only [uI];simp [wP];apply am<;>simp
  ·rintro τ ⟨rfl,h2,h3⟩;rw [mM,JF,A6] at h2;have h2:fm 0 FL=true:=h2;rw [h2];simp only [uI];simp [DJ,wP];apply am<;>simp
open Go.Shelf Go.RowKit Go.Sort Go.Lib
theorem Aa (w:World) (T:TypeId) (nd:Nat) (hs:nd≤24):Holds (fun (b:UInt8)=>Value.int .u8 (b.toNat:Int)) (w.alloc (.cells Lib.zeros24 T)) w.heap.size 0 (Array.replicate nd (0:UInt8)):=fun j hj=>by
 have hj':j<nd:=by simpa using hj
 refine ⟨?_,World.frozen?_alloc_new _ _ _ _⟩;rw [World.cell?_alloc_new,zeros24_at _ (by omega),getElem!_pos _ j hj];simp
theorem tu (w:World) (os:Array Obj) (k:Nat):Below w.heap.size w ((grow w os).drewN k):=by
 refine ⟨rfl,rfl,rfl,?_,fun i hi=>?_⟩
 ·show w.heap.size≤(w.heap++os).size;simp
 ·show (w.heap++os)[i]?=w.heap[i]?;exact Array.getElem?_append_left hi
set_option maxRecDepth 100000 in
theorem uJ (u:Nat) (hu1:100≤u) (hu64:u<18446744073709551616) (w:World) (htab: ∀q,q<20→w.cell? ⟨2,q,none⟩=some (.int .u64 ((10^q:Nat):Int))):
  Calls Tryz.prog 126 #[.int .u64 u,.int .i64 10] w fun e w'=>e= .returned (.string ⟨(Lib.decDigits u).toArray⟩)∧Below w.heap.size w w':=by
 have hnd20:Lib.nDigits u≤20:=by have:=Lib.numDigits_eq u (by omega) hu64;split at this<;>omega
 have hal:Tryz.prog.arrayLen 206=24:=by kernel_rfl
 have hsl: ∀W,(Instr.sliceAt 206 (.pointer (some ⟨w.heap.size,0,none⟩)) none (some (.int .i64 (Lib.nDigits u:Int))) none).run Tryz.prog W= .ok (.slice (some ⟨w.heap.size,0,none⟩) (Lib.nDigits u) 24) W:=fun W=>by
  rw [run_sliceAt_array_h W 206 ⟨w.heap.size,0,none⟩ (by kernel_rfl) .i64 (Lib.nDigits u:Int) (by omega) (by rw [hal];omega)]
  go_simp
 have hH0:=Aa w 206 (Lib.nDigits u) (by omega);have hfmt:=Any.internal_strconv_formatBase10 DQ w.heap.size 0 24 u (Array.replicate (Lib.nDigits u) 0) (w.alloc (.cells Lib.zeros24 206)) hH0 (by rw [Array.size_replicate];exact Lib.lt_pow_nDigits u) hu64 (by rw [Array.size_replicate];omega);rw [Array.size_replicate] at hfmt;have HH0:=Lib.hid hH0;clear hH0 hal;have hnd:Calls Tryz.prog 166 #[.int .u64 u] (w.alloc (.cells Lib.zeros24 206)) fun e w'=>e= .returned (.int .i64 (Lib.nDigits u))∧w'=(w.alloc (.cells Lib.zeros24 206)):=
  kC DP u (by omega) hu64 _ (fun q hq=>by
   have h1:=htab q hq;have h2:=World.block_lt_of_cell? w _ h1;exact (World.cell?_alloc_lt w _ _ h2).trans h1)
 go_enter Tryz.func126,Tryz.ntmps126
 go_wp2_with (first
  |(go_at_call 166;refine hnd.mono ?_;rintro e w' ⟨rfl,rfl⟩))
 go_at_call 167
 refine hfmt.mono ?_;rintro e w' ⟨rfl,k,v',dk,rfl,hF⟩;have hcv:(convert 67 9 (.slice (some ⟨w.heap.size,0,none⟩) (Lib.nDigits u) 24)).run Tryz.prog ((putRow (fun (b:UInt8)=>Value.int .u8 (b.toNat:Int)) (w.alloc (.cells Lib.zeros24 206)) w.heap.size 0 dk).drewN k)= .ok (.string ⟨(Lib.decDigits u).toArray⟩) ((putRow (fun (b:UInt8)=>Value.int .u8 (b.toNat:Int)) (w.alloc (.cells Lib.zeros24 206)) w.heap.size 0 dk).drewN k):=by
  have h:=run_convert_bytes_back (P:=Tryz.prog) ((putRow (fun (b:UInt8)=>Value.int .u8 (b.toNat:Int)) (w.alloc (.cells Lib.zeros24 206)) w.heap.size 0 dk).drewN k) 67 9 5 ⟨w.heap.size,0,none⟩ 24 (Lib.decDigits u) Tryz.underlying67 Tryz.underlying5 Tryz.underlying9 (fun j hj=>by
   rw [Lib.row_is_numeral hF j hj,Lib.add_plain,World.cell?_drewN];exact cell?_putRow (fun (b:UInt8)=>Value.int .u8 (b.toNat:Int)) _ w.heap.size 0 _ dk HH0.out (by rw [hF.size,Array.size_replicate]) j (by rw [hF.size];rw [Lib.decDigits_length] at hj;exact hj))
  rw [Lib.decDigits_length] at h;exact h
 go_wp2
 go_ret
 refine ⟨rfl,?_⟩;rw [alloc_eq_grow];obtain ⟨os',_,eg⟩:=putRow_grow_new (fun (b:UInt8)=>Value.int .u8 (b.toNat:Int)) w #[.cells Lib.zeros24 206] w.heap.size 0 dk (eI _);rw [eg];exact tu w os' k

theorem tz (n:Nat) (h:n<100):Sp Tryz.prog gl 165 [i6 n] (.str (Lib.decDigits n)):=by
 refine fx Tryz.func165 (by kernel_rfl) (by kernel_rfl) ?_;intro S gb w vs hvs hag;simp only [aa,PR] at hvs;obtain ⟨_,_,rfl,rfl,rfl⟩:=hvs;exact (Any.internal_strconv_small E6 n h w).mono fun e w' ⟨he,hw⟩=>⟨_,he,hw▸Below.refl _ _,by simp [PR]⟩
theorem NS:List.lookup 2 gl=some ((List.range 20).map fun q=>Value.int .u64 ((10^q:Nat):Int)):=by kernel_rfl
theorem vI {w:World} (h: ∀i us,List.lookup i gl=some us→ ∀(o:Nat) (u:Value),us[o]?=some u→w.cell? ⟨i,o,none⟩=some u) (q:Nat) (hq:q<20):w.cell? ⟨2,q,none⟩=some (.int .u64 ((10^q:Nat):Int)):=
 h 2 _ NS q _ (by simp [hq])
theorem FT (n:Nat) (h:n<18446744073709551616):Sp Tryz.prog gl 126 [u n,i6 10] (.str (Lib.decDigits n)):=by
 by_cases g:n<100
 ·refine Ro rfl rfl ?_;have S:=tz n g;generalize Lib.decDigits n=R at *
  have t1:IntKind.i64.wrap (n:Int)=n:=by rw [aj]<;>omega
  have g':(n:Int)<100:=by omega
  simp [OE,t1,g,g'];refine ay _ S ?_;simp
 ·refine kU Tryz.func126 (by kernel_rfl) (by kernel_rfl) ?_;intro S gb w vs hvs hag hgl;simp only [aa,PR] at hvs;obtain ⟨_,_,rfl,rfl,_,_,rfl,rfl,rfl⟩:=hvs;exact (uJ n (by omega) h w (vI hgl)).mono fun e w' ⟨he,hw⟩=>⟨_,he,hw,by simp [PR]⟩
theorem IN (n:Nat) (h:n<18446744073709551616):Sp Tryz.prog gl 93 [u n,i6 10] (.str (Lib.decDigits n)):=by
 refine VX rfl rfl ?_;have S:=FT n h;generalize Lib.decDigits n=R at *
 simp [UZ];refine ay _ S ?_;simp
def bg (n:Nat):List UInt8:=if h:n<10 then [UInt8.ofNat (48+n)] else bg (n / 10)++[UInt8.ofNat (48+n%10)]
termination_by n
decreasing_by omega
def aL (s:List UInt8):Nat:=s.foldl (fun a b=>10*a+(b.toNat - 48)) 0
def aC (b:UInt8):Bool:=decide (48≤b.toNat∧b.toNat≤57)
def bJ (s:List UInt8):Bool:=!s.isEmpty&&s.all aC&&(s.headD 0 !=48||s.length==1)
theorem fZ {n:Nat} (h:n<10):bg n=[UInt8.ofNat (48+n)]:=by rw [bg,dif_pos h]
theorem eY {n:Nat} (h: ¬n<10):bg n=bg (n / 10)++[UInt8.ofNat (48+n%10)]:=by rw [bg,dif_neg h]
theorem oD {k:Nat} (h:k<10):(UInt8.ofNat (48+k)).toNat=48+k:=by simp;omega
theorem gA (s:List UInt8) (b:UInt8):aL (s++[b])=10*aL s+(b.toNat - 48):=by simp [aL]
theorem lU (n:Nat):aL (bg n)=n:=by
 induction n using Nat.strongRecOn with
 |_ n ih=>
  by_cases h:n<10
  ·rw [fZ h,←bR [_],gA,oD h];simp [aL]
  ·rw [eY h,gA,ih _ (by omega),oD (by omega)];omega
theorem lz (n:Nat):bg n≠[]:=by
 by_cases h:n<10
 ·rw [fZ h];simp
 ·rw [eY h];simp
theorem i8 (n:Nat):(bg n).all aC=true:=by
 induction n using Nat.strongRecOn with
 |_ n ih=>
  by_cases h:n<10
  ·rw [fZ h];simp [aC,oD h];omega
  ·rw [eY h,List.all_append,ih _ (by omega)];simp [aC,oD (show n%10<10 by omega)];omega
theorem IQ (n:Nat) (h:0<n):(bg n).headD 0≠48:=by
 induction n using Nat.strongRecOn with
 |_ n ih=>
  by_cases g:n<10
  ·rw [fZ g];intro e
   have:=congrArg UInt8.toNat e
   simp only [List.headD_cons] at this;rw [oD g] at this;simp at this;omega
  ·rw [eY g]
   have:=ih (n / 10) (by omega) (by omega)
   have h2:=lz (n / 10);cases hd:bg (n / 10) with
   |nil=>exact absurd hd h2
   |cons x r=>rw [hd] at this;simpa using this
theorem vJ (n:Nat):bJ (bg n)=true:=by
 unfold bJ;rw [i8];have h1:(bg n).isEmpty=false:=by simpa using lz n
 rw [h1];by_cases h:0<n
 ·have:=IQ n h
  simp only [Bool.not_false,ib,EE,bne_iff_ne];exact .inl this
 ·have:n=0:=by omega
  subst this;rw [fZ (by omega)];simp
theorem cP (k n:Nat) (h:n<10^(k+1)):(bg n).length≤k+1:=by
 induction k generalizing n with
 |zero=>rw [fZ (by simpa using h)];simp
 |succ k ih=>
  by_cases g:n<10
  ·rw [fZ g];simp
  ·rw [eY g]
   have:=ih (n / 10) (by rw [EI] at h;omega)
   simp;omega
theorem IS {α:Type} {P:List α→Prop} (h0:P []) (h1: ∀s b,P s→P (s++[b])): ∀s,P s:=by
 intro s;rw [←List.reverse_reverse s];induction s.reverse with
 |nil=>simpa using h0
 |cons b r ih=>rw [List.reverse_cons];exact h1 _ _ ih
theorem tA (s:List UInt8) (h:s.all aC=true):aL s<10^s.length:=by
 revert h;refine IS (P:=fun s=>s.all aC=true→aL s<10^s.length) ?_ ?_ s
 ·intro _;simp [aL]
 ·intro s b ih h;rw [List.all_append,aE] at h
  have:=ih h.1
  have hb:aC b=true:=by simpa using h.2
  simp only [aC,o5] at hb;rw [gA,cG,uc,EI];omega

def bl (l:List Bool):AV:= .sl (l.map fun b=>[.bool b])
def jl (l:List Bool) (i:Nat):Nat:=if l.getD i false then 1 else 0
theorem lV (l:List Bool) (i:Nat):Sp Tryz.prog gl 181 [bl l,.int .i64 i] (.int .i64 (jl l i)):=by
 refine R1 rfl rfl ?_;by_cases hi:i<l.length
 ·cases h:l[i]<;>simp [Mq,JQ,bl,hi,h,jl]
 ·simp [Mq,JQ,bl,hi,jl]

def val:List Bool→Nat
 |[]=>0
 |b::r=>b.toNat+2*val r
theorem lA (l:List Bool) (i:Nat):jl l i≤1:=by unfold jl;split<;>omega

theorem NT (l:List Bool) (i:Nat) (h:l.length≤i):jl l i=0:=by simp [jl,h]
def aO (n k:Nat):List Bool:=(List.range k).map fun i=>n / 2^i%2==1
theorem ni (a b:List Bool):val (a++b)=val a+2^a.length*val b:=by
 induction a with
 |nil=>simp [val]
 |cons x r ih=>simp [val,ih,EI,Nat.mul_add];rw [show 2^r.length*2=2*2^r.length by omega,Nat.mul_assoc];omega
theorem lB (n k:Nat):aO n (k+1)=aO n k++[n / 2^k%2==1]:=by simp [aO,List.range_succ]
theorem eF (n k:Nat):(aO n k).length=k:=by simp [aO]
theorem ku (n k:Nat):val (aO n k)=n%2^k:=by
 induction k with
 |zero=>simp [aO,val,Nat.mod_one]
 |succ k ih=>
  rw [lB,ni,ih,eF,EI,Nat.mod_mul];congr 1
  rcases Nat.mod_two_eq_zero_or_one (n / 2^k) with h|h<;>simp [val,h]
theorem jm (n:Nat) (h:n<340282366920938463463374607431768211456):val (aO n 128)=n:=by
 rw [ku];exact nE (by simpa using h)
theorem NV (n i:Nat) (h:64≤i):n / 2^i=n / 18446744073709551616 / 2^(i%64+(i - i%64 - 64)):=by
 rw [Nat.div_div_eq_div_mul,show (18446744073709551616:Nat)=2^64 from rfl,←Nat.pow_add];congr 2;omega
theorem NW (n i:Nat) (h:i<64):n / 2^i%2=n%18446744073709551616 / 2^i%2:=by
 have e:(18446744073709551616:Nat)=2^i*2^(64 - i):=by
  rw [←Nat.pow_add,show i+(64 - i)=64 by omega]
 rw [e,Nat.mod_mul_right_div_self];have e2:2^(64 - i)=2*2^(63 - i):=by rw [←Nat.pow_succ',Nat.succ_eq_add_one,show 63 - i+1=64 - i by omega]
 rw [e2,Nat.mod_mul_right_mod]
theorem Lh (x i:Nat) (h:i<64):(x:Int).fdiv (2^min i IntKind.u64.bits)=((x / 2^i:Nat):Int):=by
 rw [show min i IntKind.u64.bits=i by show min i 64=i;omega,Int.fdiv_eq_ediv_of_nonneg _ (Int.pow_nonneg (by decide))];simp
theorem pO (n:Nat) (hn:n<340282366920938463463374607431768211456):Sp Tryz.prog gl 104 [wide n] (bl (aO n 128)):=by
 refine Rf rfl rfl ?_;simp [OA,wide];refine G4 (α:=Nat) (fun i=>⟨[(1,.ptr (.n 1) 0),(3,bl (aO n i)),(4,i6 i)],[(.n 1,[u (n / 18446744073709551616),u (n%18446744073709551616)])],[(.s 3,1)]⟩)
  (fun i=>i≤128) (fun i=>128 - i) ?_ 0 (by omega) ?_
 ·intro i hi;have t1:IntKind.i64.wrap ((i:Int)+1)=i+1:=by rw [aj]<;>omega
  have t2:IntKind.u64.wrap ((i:Int).tmod 64)=(i%64:Nat):=by rw [Int.tmod_eq_emod_of_nonneg (by omega),a6]<;>omega
  have t3:0≤IntKind.u64.wrap ((i:Int).tmod 64):=by rw [t2];omega
  have bit: ∀m j:Nat,m<18446744073709551616→m / 2^(i%64)%2=n / 2^i%2→(((m:Int).fdiv (2^min (IntKind.u64.wrap ((i:Int).tmod 64)).toNat IntKind.u64.bits)).tmod 2==1)=(n / 2^i%2==1):=by
   intro m j hm e;rw [t2,Int.toNat_natCast,Lh _ _ (by omega),Int.tmod_eq_emod_of_nonneg (Int.natCast_nonneg _),Bool.eq_iff_iff];simp only [bP];generalize m / 2^(i%64)=q at e ⊢;generalize n / 2^i=r at e ⊢;omega
  simp [bl];refine wI (fun h=>?_) (fun h=>?_)
  ·have hl:(aO n i).length+1≤l8:=by rw [eF];unfold l8;omega
   simp;refine wI (fun h6=>?_) (fun h6=>?_)
   ·have b1:=bit (n / 18446744073709551616) 0 (by omega) (by rw [NV n i (by omega),show i%64+(i - i%64 - 64)=i%64 by omega]);simp [t3];refine ⟨hl,by rintro r (⟨-,h⟩|⟨-,h⟩)<;>simp [←h],sd (i+1) (by omega) (by omega) ?_⟩;simp at b1;apply ae<;>simp [bl,lB,t1,b1]
   ·have b1:=bit (n%18446744073709551616) 0 (by omega) (by rw [NW n i (by omega),nE (show i<64 by omega)]);simp [t3];refine ⟨hl,by rintro r (⟨-,h⟩|⟨-,h⟩)<;>simp [←h],sd (i+1) (by omega) (by omega) ?_⟩;simp at b1;apply ae<;>simp [bl,lB,t1,b1]
  ·obtain rfl:i=128:=by omega
   simp
 ·apply ae<;>simp [bl,aO]

theorem pP {α:Type} {l:List α} {i:Nat} (h:i<l.length):l.drop i=l[i]::l.drop (i+1):=oU h
def tC (x y:Nat):Int:=if x<y then -1 else if x=y then 0 else 1
theorem jN (l:List Bool) (i:Nat):val (l.drop i)=jl l i+2*val (l.drop (i+1)):=by
 by_cases h:i<l.length
 ·rw [pP h];simp [val,jl,h];cases l[i]<;>simp
 ·rw [ui (by omega),ui (by omega)];simp [val,NT l i (by omega)]
theorem vK (l:List Bool) (i:Nat): ∃r,r<2^i∧val l=r+2^i*val (l.drop i):=by
 induction i with
 |zero=>exact ⟨0,by simp,by simp⟩
 |succ i ih=>
  obtain ⟨r,h1,h2⟩:=ih;refine ⟨r+2^i*jl l i,?_,?_⟩
  ·have:=lA l i
   have:2^i*jl l i≤2^i*1:=Nat.mul_le_mul (eI _) this
   rw [EI];omega
  ·rw [h2,jN,Nat.mul_add,EI,Nat.mul_assoc];omega
theorem NY (a b:List Bool) (i:Nat) (h:val (a.drop (i+1))=val (b.drop (i+1))) (hne:jl a i≠jl b i):tC (val a) (val b)=(jl a i:Int) - jl b i:=by
 obtain ⟨r,r1,r2⟩:=vK a i;obtain ⟨s,s1,s2⟩:=vK b i;have e1:=jN a i;have e2:=jN b i;have a1:=lA a i;have b1:=lA b i;rw [h] at e1;have hx:2^i*val (a.drop i)=2^i*jl a i+2^i*(2*val (b.drop (i+1))):=by rw [e1,Nat.mul_add]
 have hy:2^i*val (b.drop i)=2^i*jl b i+2^i*(2*val (b.drop (i+1))):=by rw [e2,Nat.mul_add]
 rcases (by omega:jl a i=0∧jl b i=1∨jl a i=1∧jl b i=0) with ⟨h1,h2⟩|⟨h1,h2⟩
 ·rw [h1] at hx;rw [h2] at hy
  have:val a<val b:=by omega
  simp [tC,this,h1,h2]
 ·rw [h1] at hx;rw [h2] at hy
  have:val b<val a:=by omega
  simp [tC,h1,h2,show ¬val a<val b by omega,show val a≠val b by omega]
theorem oE (a b:List Bool) (ha:a.length≤1000000) (hb:b.length≤1000000):Sp Tryz.prog gl 140 [bl a,bl b] (i6 (tC (val a) (val b))):=by
 refine Ry rfl rfl ?_;by_cases g:a.length<b.length
 all_goals
  simp [OI,bl,g];refine G4 (α:=Nat) (fun k=>⟨[(0,bl a),(1,bl b),(6,i6 ((k:Int) - 1))],[],[]⟩)
   (fun k=>k≤1000000∧val (a.drop k)=val (b.drop k)) (fun k=>k) ?_ (max a.length b.length) ?_ ?_
  ·rintro k ⟨h1,h2⟩;have t1:IntKind.i64.wrap ((k:Int) - 1 - 1)=k - 1 - 1:=by rw [aj]<;>omega
   simp [bl];refine wI (fun h=>?_) (fun h=>?_)
   ·have e1:(k:Int) - 1=((k - 1:Nat):Int):=by omega
    have e2:k - 1+1=k:=by omega
    have x1:=lA a (k - 1);have y1:=lA b (k - 1);have t2:IntKind.i64.wrap ((jl a (k - 1):Int) - jl b (k - 1))=jl a (k - 1) - jl b (k - 1):=by rw [aj]<;>omega
    simp;refine ay _ (e1▸lV a (k - 1)) ?_;simp;refine ay _ (e1▸lV b (k - 1)) ?_;simp;by_cases h3:jl a (k - 1)=jl b (k - 1)
    ·simp [h3];refine sd (k - 1) ⟨by omega,?_⟩ (by omega) ?_
     ·rw [jN a,jN b,e2,h2,h3]
     ·apply ae<;>simp [bl];rw [t1,e1]
    ·have h4:((jl a (k - 1):Int)!=jl b (k - 1))=true:=by rw [bne_iff_ne];omega
     rw [h4];simp;refine ay _ (e1▸lV a (k - 1)) ?_;simp;refine ay _ (e1▸lV b (k - 1)) ?_;simp;rw [t2,NY a b (k - 1) (by rw [e2];exact h2) h3]
   ·obtain rfl:k=0:=by omega
    simp at h2;simp [tC,h2]
  ·exact ⟨by omega,by rw [ui (by omega),ui (by omega)]⟩
  ·have t3:IntKind.i64.wrap ((max a.length b.length:Nat) - 1:Int)=(max a.length b.length:Nat) - 1:=by rw [aj]<;>omega
   apply ae<;>simp [bl];rw [aj (by omega) (by omega)];omega
end Go.Ai
