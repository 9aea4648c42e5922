/- P4: a part of the proof. Conditions: as each theorem says. -/
import Derived.Laws.Externs
import Derived.Test.YtojgeamhdkphaaaGreatDoorP3
set_option linter.unusedSimpArgs false
set_option linter.unusedVariables false
set_option maxRecDepth 20000
namespace Go.Ai
open Go.Proofs

open Go.Proofs

section
variable {x:Nat} (hx:x<18446744073709551616)
include hx
set_option linter.unusedSectionVars false
end
end Go.Ai
set_option linter.unusedSectionVars false
namespace Go.Ai
open Go.Proofs
section
variable {Q:AE->St->Prop} {Y s y1 y0 un v v0:Nat}
end

end Go.Ai
set_option linter.unusedSectionVars false
namespace Go.Ai
open Go.Proofs
section
variable {rq rr:Nat}
end
end Go.Ai
namespace Go.Ai
open Go.Proofs Go.RowKit
theorem sT (x y c:Nat) (hc:c<=1):Sp Tryz.prog gl 151 [u x,u y,u c] (.tup [u ((x+y+c)%18446744073709551616),u ((x+y+c) / 18446744073709551616)]):=by
 refine yW (fn:=Tryz.f151) (e:=add64Entry) Tryz.func151 (by kernel_rfl) (by kernel_rfl) (by kernel_rfl) (by kernel_rfl) ?_;intro S gb w vs h;simp only[aa,PR] at h;obtain ⟨_,_,rfl,rfl,_,_,rfl,rfl,_,_,rfl,rfl,rfl⟩:=h;refine ⟨_,run_add64 x y c (by omega) (by omega) (by omega) (by omega) w,?_⟩;simp only[PR];refine ⟨_,rfl,?_⟩;simp only[aa,PR];exact ⟨_,_,rfl,by congr 1,_,_,rfl,by congr 1,rfl⟩
theorem p0 (a b:Nat) (ha:a<340282366920938463463374607431768211456) (hb:b<340282366920938463463374607431768211456):
  Sp Tryz.prog gl 132 [wide a,wide b] (if a+b<340282366920938463463374607431768211456 then .tup [wide (a+b),i6 0] else .tup [wide 0,i6 3]):=by
 have A1:=sT (a%18446744073709551616) (b%18446744073709551616) 0 (by omega);have A2:=sT (a / 18446744073709551616) (b / 18446744073709551616) ((a%18446744073709551616+b%18446744073709551616) / 18446744073709551616) (by omega);simp only[Ab] at A1;obtain ⟨up,hup⟩: ∃up,up=(a%18446744073709551616+b%18446744073709551616) / 18446744073709551616:=⟨_,rfl⟩;obtain ⟨lo,hlo⟩: ∃lo,lo=(a%18446744073709551616+b%18446744073709551616)%18446744073709551616:=⟨_,rfl⟩;rw[<-hup,<-hlo] at A1;rw[<-hup] at A2;obtain ⟨ov,hov⟩: ∃ov,ov=(a / 18446744073709551616+b / 18446744073709551616+up) / 18446744073709551616:=⟨_,rfl⟩;obtain ⟨hi,hhi⟩: ∃hi,hi=(a / 18446744073709551616+b / 18446744073709551616+up)%18446744073709551616:=⟨_,rfl⟩;rw[<-hov,<-hhi] at A2;refine PY rfl rfl ?_;simp[MU,wide];refine aZ _ A1 ?_;simp;refine aZ _ A2 ?_;by_cases h:a+b<340282366920938463463374607431768211456
 ·have e1:ov=0:=by omega
  have e2:(a+b) / 18446744073709551616=hi:=by omega
  have e3:(a+b)%18446744073709551616=lo:=by omega
  rw[if_pos h,e2,e3,e1];clear hup hlo hov hhi e2 e3;simp
 ·have e1:ov=1:=by omega
  rw[if_neg h,e1];clear hup hlo hov hhi;simp
theorem Bv (a n:Nat) (ha:a<340282366920938463463374607431768211456) (hn:n<18446744073709551616):
  Sp Tryz.prog gl 144 [wide a,u n] (if a*n<340282366920938463463374607431768211456 then .tup [wide (a*n),i6 0] else .tup [wide 0,i6 3]):=by
 obtain ⟨H,hH⟩: ∃H,H=a / 18446744073709551616:=⟨_,rfl⟩;obtain ⟨L,hL⟩: ∃L,L=a%18446744073709551616:=⟨_,rfl⟩;have hH2:H<18446744073709551616:=by omega
 have hL2:L<18446744073709551616:=by omega
 have T1:=nn L n hL2 hn;have T2:=nn H n hH2 hn;have e1:a*n=H*n*18446744073709551616+L*n:=by
  have:=Nat.div_add_mod a 18446744073709551616
  rw[<-hH,<-hL] at this;rw[<-this,Nat.add_mul,Nat.mul_comm 18446744073709551616 H,Nat.mul_right_comm]
 have b1:L*n<=18446744073709551615*18446744073709551615:=Nat.mul_le_mul (by omega) (by omega);have b2:H*n<=18446744073709551615*18446744073709551615:=Nat.mul_le_mul (by omega) (by omega);rw[e1];clear e1;generalize H*n=X,L*n=Y at*;have A:=p0 Y (X%18446744073709551616*18446744073709551616) (by omega) (by omega);obtain ⟨X1,hX1⟩: ∃X1,X1=X / 18446744073709551616:=⟨_,rfl⟩;obtain ⟨X0,hX0⟩: ∃X0,X0=X%18446744073709551616:=⟨_,rfl⟩;simp only[wide,<-hX1,<-hX0] at T2;rw[<-hX0] at A;have w0:wide (X0*18446744073709551616)= .agg [u X0,u 0]:=by unfold wide;rw[Nat.mul_div_cancel _ (by decide),Nat.mul_mod_left]
 rw[w0] at A;simp only[wide] at T1 A;rw[show Y+X0*18446744073709551616=X0*18446744073709551616+Y by omega] at A;refine P3 rfl rfl ?_;simp[MX,wide];rw[<-hH,<-hL];refine aZ _ T1 ?_;simp;refine aZ _ T2 ?_;by_cases h:X1=0
 ·have e2:X0=X:=by omega
  rw[e2] at A ⊢;rw[h];clear hX1 hX0 e2 w0 hH hL;simp;refine aZ _ A ?_;by_cases h2:X*18446744073709551616+Y<340282366920938463463374607431768211456
  ·rw[if_pos h2,if_pos h2];simp
  ·rw[if_neg h2,if_neg h2];simp
 ·have h2: ¬(X*18446744073709551616+Y<340282366920938463463374607431768211456):=by omega
  have h3:((X1:Int)!=0)=true:=by simp[h]
  rw[if_neg h2];clear hX1 hX0 w0 hH hL h2 A T2 T1;simp[h3]
open Go.Proofs
abbrev u32 (n:Nat):AV:= .int .u32 n
open Go.Proofs
end Go.Ai
namespace Go.Ai
open Go.Proofs
open Go.Proofs
end Go.Ai
namespace Go.Ai
open Go.Proofs
open Go.Proofs
def iL (s:List UInt8):Nat×Nat:=if eY s then (if bj s<340282366920938463463374607431768211456 then (bj s,0) else (0,3)) else (0,5)
theorem By (s:List UInt8) (i:Nat) (h:i<s.length):bj (s.take (i+1))=10*bj (s.take i)+((s[i]).toNat - 48):=by
 rw[Am h,nG]
theorem HI (s:List UInt8) (i:Nat) (h:i<s.length) (hd:bF s[i]=true) (ha:(s.take i).all bF=true):(s.take (i+1)).all bF=true:=by
 rw[Am h,List.all_append,ha];simpa using hd
theorem Ep {s:List UInt8} (h:eY s=false):iL s=(0,5):=by unfold iL;rw[h];rfl
theorem J0 {s:List UInt8} {i:Nat} (h:i<s.length) (hd:bF s[i]=false):eY s=false:=by
 unfold eY
 have:s.all bF=false:=by
  rw[Of];intro h2;rw[iW] at h2
  have:=h2 s[i] (o9 h)
  rw[hd] at this;cases this
 rw[this];simp
open Go.Proofs
theorem HJ (s:List UInt8) (i:Nat) (h:i<s.length):(ByteArray.mk s.toArray).get! (i+0)=s[i]:=by
 show (ByteArray.mk s.toArray).get! i=_;simp[ByteArray.get!,getElem!_pos,h]
theorem C9 {s:List UInt8} {i:Nat} (h:i<s.length) (hb:s[i].toNat<128):eF s i=((s[i].toNat:Int),1):=by
 unfold eF Utf8.decode;simp only[HJ s i h,hb,if_true]
theorem J1 {s:List UInt8} {i:Nat} (h:i<s.length) (hb: ¬s[i].toNat<128):128<=(eF s i).1:=by
 unfold eF Utf8.decode;simp only[HJ s i h,hb,if_false,Utf8.runeError];generalize (ByteArray.mk s.toArray).get! (i+1)=x1;generalize (ByteArray.mk s.toArray).get! (i+2)=x2;generalize (ByteArray.mk s.toArray).get! (i+3)=x3;generalize (s[i]).toNat=b at*;split
 ·split
  ·simp only[];omega
  ·simp only[];omega
 ·split
  ·split
   ·rename_i h2;simp only[aL,nL] at h2;simp only[];omega
   ·simp only[];omega
  ·split
   ·split
    ·rename_i h2;simp only[aL,nL] at h2;simp only[];omega
    ·simp only[];omega
   ·simp only[];omega
theorem wS (s:List UInt8) (hl:s.length<=1000000):Sp Tryz.prog gl 143 [.str s] (.bool (eY s)):=by
 refine P2 rfl rfl ?_;have bad: ∀i (h:i<s.length),bF s[i]=false->eY s=false:=fun i h=>J0 h
 have bad0:s.headD 0=48->1<s.length->eY s=false:=by
  intro h1 h2;unfold eY;rw[h1]
  have:(s.length==1)=false:=by simp;omega
  rw[this];simp
 have good:s≠[]->s.all bF=true->(s.headD 0=48->s.length=1)->eY s=true:=by
  intro h1 h2 h3;unfold eY;rw[h2];by_cases hx:s.headD 0=48
  ·simp[h1,h3 hx]
  ·have:(s.headD 0 !=48)=true:=by simp only[bne_iff_ne,ne_eq];exact hx
   rw[this];simp[h1]
 have hnil:s=[]->eY s=false:=by rintro rfl;rfl
 have h1000:s.headD 0=(s[0]?).getD 0:=by cases s<;>rfl
 generalize eY s=R at*;simp[MW];refine aY (α:=Nat) (fun i=>⟨[(0,.str s),(6,.itp 6)],[(.it 6,[.itr s i])],[]⟩)
  (fun i=>i<=s.length/\(s.take i).all bF=true/\(1<=i->s.headD 0=48->s.length=1)) (fun i=>s.length - i) ?_ 0 ?_ ?_
 ·rintro K i hK ⟨h1,h3,h4⟩;by_cases g:i<s.length
  ·have fin:bF s[i]=true->(i=0->s[i]=48->s.length=1)-> ∀σ',fx σ' ⟨[(0,.str s),(6,.itp 6)],[(.it 6,[.itr s (i+1)])],[]⟩->K σ':=
    fun hd h5 σ' hσ=>hK (i+1) σ' ⟨by omega,HI s i g hd h3,fun _ hh=>by
     by_cases hi:i=0
     ·subst hi;refine h5 rfl ?_;rw[h1000,vy g] at hh;simpa using hh
     ·exact h4 (by omega) hh⟩ (by omega) hσ
   have bad:=bad i g;have rlo:=C9 g;have rhi:=J1 g;have bad0':i=0->s[i]=48->1<s.length->R=false:=by
    rintro rfl h5 h6;refine bad0 ?_ h6;rw[h1000,vy g,h5];rfl
   obtain ⟨x,hsx⟩: ∃x,s[i]=x:=⟨_,rfl⟩;simp only[hsx] at fin bad rlo rhi bad0';clear hK bad0 good hnil h4 h3;by_cases hx:x.toNat<128
   ·have r:=rlo hx;by_cases x1:(x.toNat:Int)<48
    ·have:=bad (by simp only[bF,decide_eq_false_iff_not];omega)
     subst this;simp[g,r,x1]
    ·by_cases x2:(57:Int)<x.toNat
     ·have:=bad (by simp only[bF,decide_eq_false_iff_not];omega)
      subst this;simp[g,r,x1,x2]
     ·have fin:=fin (by simp only[bF,nL];omega);by_cases i0:i=0
      ·subst i0;by_cases x3:x.toNat=48
       ·have x3':x=48:=Oe.1 (by rw[x3];rfl);by_cases l1:1<s.length
        ·have:=bad0' rfl x3' l1
         subst this;have l1':(1:Int)<(s.length:Int):=by omega
         have x3i:(x.toNat:Int)=48:=by omega
         simp[g,r,x1,x2,x3i,l1']
        ·have l1': ¬(1:Int)<(s.length:Int):=by omega
         have x3i:(x.toNat:Int)=48:=by omega
         have fin:=fin (fun _ _=>by omega);clear bad bad0';simp[g,r,x1,x2,x3i,l1'];refine fin _ ?_;apply aj<;>simp
       ·have x3':((x.toNat:Int)==48)=false:=by rw[bJ];omega
        have fin:=fin (fun _ h=>absurd (by rw[h];rfl) x3);simp[g,r,x1,x2,x3'];refine fin _ ?_;apply aj<;>simp
      ·have i0':((i:Int)==0)=false:=by rw[bJ];omega
       have fin:=fin (fun h=>absurd h i0);simp[g,r,x1,x2,i0'];refine fin _ ?_;apply aj<;>simp
   ·have h128:=rhi hx
    have:=bad (by simp only[bF,decide_eq_false_iff_not];omega)
    subst this;obtain ⟨rr,hrr⟩: ∃rr,(eF s i).1=rr:=⟨_,rfl⟩;rw[hrr] at h128;have x1: ¬rr<48:=by omega
    have x2:(57:Int)<rr:=by omega
    simp[g,hrr,x1,x2]
  ·obtain rfl:i=s.length:=by omega
   rw[pr] at h3;clear hK bad bad0;by_cases hs:s=[]
   ·have:=hnil hs
    subst this;subst hs;simp
   ·have:=good hs h3 (h4 (Ix.2 hs))
    subst this;simp[hs]
 ·simp
 ·apply aj<;>simp
end Go.Ai
