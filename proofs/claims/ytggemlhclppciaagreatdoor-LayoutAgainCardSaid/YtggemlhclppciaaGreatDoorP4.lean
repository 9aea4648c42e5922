/- P4: a part of the proof. Conditions: as each theorem says. -/
import Derived.Test.YtggemlhclppciaaGreatDoorP3
import Derived.Laws.Externs
import Derived.Lib.Join
import Derived.Lib.ItoaNum
set_option linter.unusedSimpArgs false
set_option linter.unusedVariables false
set_option maxRecDepth 20000
namespace Go.Ai
open Go.Proofs Go.RowKit
theorem qP (x y c:Nat) (hc:c≤1):Sp Tryz.prog gl 217 [u x,u y,u c] (.tup [u ((x+y+c)%18446744073709551616),u ((x+y+c) / 18446744073709551616)]):=by
 refine wA (fn:=Tryz.f217) (e:=add64Entry) Tryz.func217 (by kernel_rfl) (by kernel_rfl) (by kernel_rfl) (by kernel_rfl) ?_;intro S gb w vs h;simp only [aa,PR] at h;obtain ⟨_,_,rfl,rfl,_,_,rfl,rfl,_,_,rfl,rfl,rfl⟩:=h;refine ⟨_,run_add64 x y c (by omega) (by omega) (by omega) (by omega) w,?_⟩;simp only [PR];refine ⟨_,rfl,?_⟩;simp only [aa,PR];exact ⟨_,_,rfl,by congr 1,_,_,rfl,by congr 1,rfl⟩
theorem nV (a b:Nat) (ha:a<340282366920938463463374607431768211456) (hb:b<340282366920938463463374607431768211456):
  Sp Tryz.prog gl 193 [wide a,wide b] (if a+b<340282366920938463463374607431768211456 then .tup [wide (a+b),i6 0] else .tup [wide 0,i6 3]):=by
 have A1:=qP (a%18446744073709551616) (b%18446744073709551616) 0 (by omega);have A2:=qP (a / 18446744073709551616) (b / 18446744073709551616) ((a%18446744073709551616+b%18446744073709551616) / 18446744073709551616) (by omega);simp only [rE] at A1;obtain ⟨up,hup⟩: ∃up,up=(a%18446744073709551616+b%18446744073709551616) / 18446744073709551616:=⟨_,rfl⟩;obtain ⟨lo,hlo⟩: ∃lo,lo=(a%18446744073709551616+b%18446744073709551616)%18446744073709551616:=⟨_,rfl⟩;rw [←hup,←hlo] at A1;rw [←hup] at A2;obtain ⟨ov,hov⟩: ∃ov,ov=(a / 18446744073709551616+b / 18446744073709551616+up) / 18446744073709551616:=⟨_,rfl⟩;obtain ⟨hi,hhi⟩: ∃hi,hi=(a / 18446744073709551616+b / 18446744073709551616+up)%18446744073709551616:=⟨_,rfl⟩;rw [←hov,←hhi] at A2;refine N1 rfl rfl ?_;simp [Ld,wide];refine aT _ A1 ?_;simp;refine aT _ A2 ?_;by_cases h:a+b<340282366920938463463374607431768211456
 ·have e1:ov=0:=by omega
  have e2:(a+b) / 18446744073709551616=hi:=by omega
  have e3:(a+b)%18446744073709551616=lo:=by omega
  rw [if_pos h,e2,e3,e1];clear hup hlo hov hhi e2 e3;simp
 ·have e1:ov=1:=by omega
  rw [if_neg h,e1];clear hup hlo hov hhi;simp
theorem zX (a n:Nat) (ha:a<340282366920938463463374607431768211456) (hn:n<18446744073709551616):
  Sp Tryz.prog gl 210 [wide a,u n] (if a*n<340282366920938463463374607431768211456 then .tup [wide (a*n),i6 0] else .tup [wide 0,i6 3]):=by
 obtain ⟨H,hH⟩: ∃H,H=a / 18446744073709551616:=⟨_,rfl⟩;obtain ⟨L,hL⟩: ∃L,L=a%18446744073709551616:=⟨_,rfl⟩;have hH2:H<18446744073709551616:=by omega
 have hL2:L<18446744073709551616:=by omega
 have T1:=lr L n hL2 hn;have T2:=lr H n hH2 hn;have e1:a*n=H*n*18446744073709551616+L*n:=by
  have:=Nat.div_add_mod a 18446744073709551616
  rw [←hH,←hL] at this;rw [←this,Nat.add_mul,Jq 18446744073709551616 H,Nat.mul_right_comm]
 have b1:L*n≤18446744073709551615*18446744073709551615:=Nat.mul_le_mul (by omega) (by omega);have b2:H*n≤18446744073709551615*18446744073709551615:=Nat.mul_le_mul (by omega) (by omega);rw [e1];clear e1;generalize H*n=X at *
 generalize L*n=Y at *
 have A:=nV Y (X%18446744073709551616*18446744073709551616) (by omega) (by omega);obtain ⟨X1,hX1⟩: ∃X1,X1=X / 18446744073709551616:=⟨_,rfl⟩;obtain ⟨X0,hX0⟩: ∃X0,X0=X%18446744073709551616:=⟨_,rfl⟩;simp only [wide,←hX1,←hX0] at T2;rw [←hX0] at A;have w0:wide (X0*18446744073709551616)= .agg [u X0,u 0]:=by unfold wide;rw [Nat.mul_div_cancel _ (by decide),Nat.mul_mod_left]
 rw [w0] at A;simp only [wide] at T1 A;rw [show Y+X0*18446744073709551616=X0*18446744073709551616+Y by omega] at A;refine N8 rfl rfl ?_;simp [Li,wide];rw [←hH,←hL];refine aT _ T1 ?_;simp;refine aT _ T2 ?_;by_cases h:X1=0
 ·have e2:X0=X:=by omega
  rw [e2] at A ⊢;rw [h];clear hX1 hX0 e2 w0 hH hL;simp;refine aT _ A ?_;by_cases h2:X*18446744073709551616+Y<340282366920938463463374607431768211456
  ·rw [if_pos h2,if_pos h2];simp
  ·rw [if_neg h2,if_neg h2];simp
 ·have h2: ¬(X*18446744073709551616+Y<340282366920938463463374607431768211456):=by omega
  have h3:((X1:Int)!=0)=true:=by simp [h]
  rw [if_neg h2];clear hX1 hX0 w0 hH hL h2 A T2 T1;simp [h3]
abbrev u32 (n:Nat):AV:= .int .u32 n
abbrev cnt (g n:Nat):AV:= .agg [u g,u n]

def gO (b:UInt8):AV:= .int .u8 b.toNat
def gS (k:Nat) (s:List UInt8):List AV:=List.replicate k (.int .u8 0)++s.map gO
theorem km (k:Nat) (s:List UInt8):(gS k s).length=k+s.length:=by simp [gS]
theorem qQ (j:Nat) (b:UInt8) (s:List UInt8):List.take j (gS (j+1) s)++gO b::List.drop (j+1) (gS (j+1) s)=gS j (b::s):=by
 have h1:List.take j (gS (j+1) s)=List.replicate j (.int .u8 0):=by
  unfold gS;rw [List.replicate_succ',lJ,List.take_left' (by simp)]
 have h2:List.drop (j+1) (gS (j+1) s)=s.map gO:=by unfold gS;rw [List.drop_left' (by simp)]
 rw [h1,h2];rfl
theorem zY (s:List UInt8):bc (s.map gO)=[]:=by
 induction s with
 |nil=>rfl
 |cons x r ih=>simp [bc,gO,AV.ids,ih]
theorem Ft (a b:List AV):bc (a++b)=bc a++bc b:=by
 induction a with
 |nil=>rfl
 |cons x r ih=>simp [bc,ih]
theorem xm (k:Nat) (s:List UInt8):bc (gS k s)=[]:=by
 unfold gS;rw [Ft,zY,pc];induction k with
 |zero=>rfl
 |succ k ih=>simp [List.replicate_succ,bc,AV.ids,ih]
theorem Fu (s:List UInt8):byteCells (s.map gO)=some s:=by
 induction s with
 |nil=>rfl
 |cons x r ih=>simp [byteCells,gO,ih]
theorem tG (k n:Nat) (s:List UInt8) (h:s.length≤n):byteCells (((gS k s).drop k).take n)=some s:=by
 have:(gS k s).drop k=s.map gO:=by unfold gS;rw [List.drop_left' (by simp)]
 rw [this,List.take_of_length_le (by simpa using h),Fu]
def fK (s:List UInt8):Nat×Nat:=if bm s then (if aH s<340282366920938463463374607431768211456 then (aH s,0) else (0,3)) else (0,5)
theorem zZ (s:List UInt8) (i:Nat) (h:i<s.length):aH (s.take (i+1))=10*aH (s.take i)+((s[i]).toNat - 48):=by
 rw [Gy h,fp]
theorem Fv (s:List UInt8) (i:Nat) (h:i<s.length) (hd:ay s[i]=true) (ha:(s.take i).all ay=true):(s.take (i+1)).all ay=true:=by
 rw [Gy h,List.all_append,ha];simpa using hd
theorem CU {s:List UInt8} (h:bm s=false):fK s=(0,5):=by unfold fK;rw [h];rfl
theorem H9 {s:List UInt8} {i:Nat} (h:i<s.length) (hd:ay s[i]=false):bm s=false:=by
 unfold bm
 have:s.all ay=false:=by
  rw [Oq];intro h2;rw [fC] at h2
  have:=h2 s[i] (rL h)
  rw [hd] at this;cases this
 rw [this];simp
theorem Fw (s:List UInt8) (i:Nat) (h:i<s.length):(ByteArray.mk s.toArray).get! (i+0)=s[i]:=by
 show (ByteArray.mk s.toArray).get! i=_;simp [ByteArray.get!,getElem!_pos,h]
theorem Bq {s:List UInt8} {i:Nat} (h:i<s.length) (hb:s[i].toNat<128):bD s i=((s[i].toNat:Int),1):=by
 unfold bD Utf8.decode;simp only [Fw s i h,hb,if_true]
theorem Ia {s:List UInt8} {i:Nat} (h:i<s.length) (hb: ¬s[i].toNat<128):128≤(bD s i).1:=by
 unfold bD Utf8.decode;simp only [Fw s i h,hb,if_false,Utf8.runeError];generalize (ByteArray.mk s.toArray).get! (i+1)=x1;generalize (ByteArray.mk s.toArray).get! (i+2)=x2;generalize (ByteArray.mk s.toArray).get! (i+3)=x3;generalize (s[i]).toNat=b at *
 split
 ·split
  ·simp only [];omega
  ·simp only [];omega
 ·split
  ·split
   ·rename_i h2;simp only [aC,rD] at h2;simp only [];omega
   ·simp only [];omega
  ·split
   ·split
    ·rename_i h2;simp only [aC,rD] at h2;simp only [];omega
    ·simp only [];omega
   ·simp only [];omega
theorem uM (s:List UInt8) (hl:s.length≤1000000):Sp Tryz.prog gl 209 [.str s] (.bool (bm s)):=by
 refine N7 rfl rfl ?_;have bad: ∀i (h:i<s.length),ay s[i]=false→bm s=false:=fun i h=>H9 h
 have bad0:s.headD 0=48→1<s.length→bm s=false:=by
  intro h1 h2;unfold bm;rw [h1]
  have:(s.length==1)=false:=by simp;omega
  rw [this];simp
 have good:s≠[]→s.all ay=true→(s.headD 0=48→s.length=1)→bm s=true:=by
  intro h1 h2 h3;unfold bm;rw [h2];by_cases hx:s.headD 0=48
  ·simp [h1,h3 hx]
  ·have:(s.headD 0 !=48)=true:=by simp only [bne_iff_ne,ne_eq];exact hx
   rw [this];simp [h1]
 have hnil:s=[]→bm s=false:=by rintro rfl;rfl
 have h1000:s.headD 0=(s[0]?).getD 0:=by cases s<;>rfl
 generalize bm s=R at *
 simp [Lh];refine bT (α:=Nat) (fun i=>⟨[(0,.str s),(6,.itp 6)],[(.it 6,[.itr s i])],[]⟩)
  (fun i=>i≤s.length∧(s.take i).all ay=true∧(1≤i→s.headD 0=48→s.length=1)) (fun i=>s.length - i) ?_ 0 ?_ ?_
 ·rintro K i hK ⟨h1,h3,h4⟩;by_cases g:i<s.length
  ·have fin:ay s[i]=true→(i=0→s[i]=48→s.length=1)→ ∀σ',e7 σ' ⟨[(0,.str s),(6,.itp 6)],[(.it 6,[.itr s (i+1)])],[]⟩→K σ':=
    fun hd h5 σ' hσ=>hK (i+1) σ' ⟨by omega,Fv s i g hd h3,fun _ hh=>by
     by_cases hi:i=0
     ·subst hi;refine h5 rfl ?_;rw [h1000,rC g] at hh;simpa using hh
     ·exact h4 (by omega) hh⟩ (by omega) hσ
   have bad:=bad i g;have rlo:=Bq g;have rhi:=Ia g;have bad0':i=0→s[i]=48→1<s.length→R=false:=by
    rintro rfl h5 h6;refine bad0 ?_ h6;rw [h1000,rC g,h5];rfl
   obtain ⟨x,hsx⟩: ∃x,s[i]=x:=⟨_,rfl⟩;simp only [hsx] at fin bad rlo rhi bad0';clear hK bad0 good hnil h4 h3;by_cases hx:x.toNat<128
   ·have r:=rlo hx;by_cases x1:(x.toNat:Int)<48
    ·have:=bad (by simp only [ay,decide_eq_false_iff_not];omega)
     subst this;simp [g,r,x1]
    ·by_cases x2:(57:Int)<x.toNat
     ·have:=bad (by simp only [ay,decide_eq_false_iff_not];omega)
      subst this;simp [g,r,x1,x2]
     ·have fin:=fin (by simp only [ay,rD];omega);by_cases i0:i=0
      ·subst i0;by_cases x3:x.toNat=48
       ·have x3':x=48:=KK.1 (by rw [x3];rfl);by_cases l1:1<s.length
        ·have:=bad0' rfl x3' l1
         subst this;have l1':(1:Int)<(s.length:Int):=by omega
         have x3i:(x.toNat:Int)=48:=by omega
         simp [g,r,x1,x2,x3i,l1']
        ·have l1': ¬(1:Int)<(s.length:Int):=by omega
         have x3i:(x.toNat:Int)=48:=by omega
         have fin:=fin (fun _ _=>by omega);clear bad bad0';simp [g,r,x1,x2,x3i,l1'];refine fin _ ?_;apply am<;>simp
       ·have x3':((x.toNat:Int)==48)=false:=by rw [dh];omega
        have fin:=fin (fun _ h=>absurd (by rw [h];rfl) x3);simp [g,r,x1,x2,x3'];refine fin _ ?_;apply am<;>simp
      ·have i0':((i:Int)==0)=false:=by rw [dh];omega
       have fin:=fin (fun h=>absurd h i0);simp [g,r,x1,x2,i0'];refine fin _ ?_;apply am<;>simp
   ·have h128:=rhi hx
    have:=bad (by simp only [ay,decide_eq_false_iff_not];omega)
    subst this;obtain ⟨rr,hrr⟩: ∃rr,(bD s i).1=rr:=⟨_,rfl⟩;rw [hrr] at h128;have x1: ¬rr<48:=by omega
    have x2:(57:Int)<rr:=by omega
    simp [g,hrr,x1,x2]
  ·obtain rfl:i=s.length:=by omega
   rw [sg] at h3;clear hK bad bad0;by_cases hs:s=[]
   ·have:=hnil hs
    subst this;subst hs;simp
   ·have:=good hs h3 (h4 (vz.2 hs))
    subst this;simp [hs]
 ·simp
 ·apply am<;>simp
theorem Fx {n:Int} (h1: -2147483648≤n) (h2:n<2147483648):IntKind.i32.wrap n=n:=by
 have e1:(2:Int)^32=4294967296:=by decide
 have e2:(2:Int)^(32 - 1)=2147483648:=by decide
 have:IntKind.i32.wrap n=if (true&&decide (n%2^32≥2^(32 - 1)))=true then n%2^32 - 2^32 else n%2^32:=rfl
 rw [this];simp only [e1,e2,kL,rD];split<;>omega
theorem uN (r:List UInt8) (a:Nat):a≤r.foldl (fun a b=>10*a+(b.toNat - 48)) a:=by
 induction r generalizing a with
 |nil=>exact eV _
 |cons x r ih=>simp only [List.foldl_cons];exact pJ (by omega) (ih _)
theorem r7 (s:List UInt8) (i:Nat):aH (s.take i)≤aH s:=by
 have h:=uN (s.drop i) (aH (s.take i))
 have:aH s=(s.drop i).foldl (fun a b=>10*a+(b.toNat - 48)) (aH (s.take i)):=by
  unfold aH;rw [←List.foldl_append,Gj]
 omega
theorem z6 (s:List UInt8) (hl:s.length≤1000000):Sp Tryz.prog gl 185 [.str s] (.tup [wide (fK s).1,i6 (fK s).2]):=by
 refine NR rfl rfl ?_;have e0:wide 0= .agg [u 0,u 0]:=rfl;have D:=uM s hl;cases hok:bm s with
 |false=>
  rw [hok] at D;rw [CU hok,e0];simp [Jh];refine aT _ D ?_;simp
 |true=>
  rw [hok] at D;have hall:s.all ay=true:=by
   unfold bm at hok;simp only [aC] at hok;exact hok.1.2
  have res:fK s=if aH s<340282366920938463463374607431768211456 then (aH s,0) else (0,3):=by unfold fK;rw [if_pos hok]
  have rbad: ¬aH s<340282366920938463463374607431768211456→AV.tup [wide (fK s).1,i6 (fK s).2]= .tup [.agg [u 0,u 0],i6 3]:=fun h=>by rw [res,if_neg h,e0];rfl
  have rgood:aH s<340282366920938463463374607431768211456→AV.tup [wide (fK s).1,i6 (fK s).2]= .tup [wide (aH s),i6 0]:=fun h=>by rw [res,if_pos h];rfl
  clear res;generalize AV.tup [wide (fK s).1,i6 (fK s).2]=R at *
  simp [Jh];refine aT _ D ?_;simp;refine bT (α:=Nat) (fun i=>⟨[(0,.str s),(2,.ptr (.n 2) 0),(4,.ptr (.n 4) 0),(14,.itp 14)],[(.n 2,[u 0,u 0]),(.n 4,[u (aH (s.take i) / 18446744073709551616),u (aH (s.take i)%18446744073709551616)]),(.it 14,[.itr s i])],[]⟩)
   (fun i=>i≤s.length∧aH (s.take i)<340282366920938463463374607431768211456) (fun i=>s.length - i) ?_ 0 ?_ ?_
  ·rintro K i hK ⟨h1,h3⟩;by_cases g:i<s.length
   ·have hd:ay s[i]=true:=fC.1 hall _ (rL g);simp only [ay,rD] at hd;have ut:=zZ s i g;have ul:=r7 s (i+1);have r:=Bq g (by omega);have fin:aH (s.take (i+1))<340282366920938463463374607431768211456→ ∀σ',e7 σ' ⟨[(0,.str s),(2,.ptr (.n 2) 0),(4,.ptr (.n 4) 0),(14,.itp 14)],[(.n 2,[u 0,u 0]),(.n 4,[u (aH (s.take (i+1)) / 18446744073709551616),u (aH (s.take (i+1))%18446744073709551616)]),(.it 14,[.itr s (i+1)])],[]⟩→K σ':=
     fun h σ' hσ=>hK (i+1) σ' ⟨by omega,h⟩ (by omega) hσ
    generalize aH (s.take (i+1))=n2 at *
    generalize aH (s.take i)=n1 at *
    obtain ⟨x,hsx⟩: ∃x,s[i]=x:=⟨_,rfl⟩;simp only [hsx] at hd ut r;obtain ⟨dg,hdg⟩: ∃dg,dg=x.toNat - 48:=⟨_,rfl⟩;rw [←hdg] at ut;have w1:IntKind.i32.wrap ((x.toNat:Int) - 48)=dg:=by rw [Fx]<;>omega
    have w2:IntKind.u64.wrap (dg:Int)=dg:=by rw [cN]<;>omega
    have M:=zX n1 10 h3 (by omega);clear hK rgood;by_cases o1:n1*10<340282366920938463463374607431768211456
    ·rw [if_pos o1] at M;have A:=nV (n1*10) dg o1 (by omega);have wd:wide dg= .agg [u 0,u dg]:=by unfold wide;rw [Nat.div_eq_of_lt (by omega),vk (by omega)]
     rw [wd] at A;have en:n1*10+dg=n2:=by omega
     rw [en] at A;by_cases o2:n2<340282366920938463463374607431768211456
     ·rw [if_pos o2] at A;have fin:=fin o2;unfold wide at M A;clear ut en ul rbad h3 o1 o2 hdg;generalize n1*10 / 18446744073709551616=a1 at *
      generalize n1*10%18446744073709551616=a2 at *
      generalize n1 / 18446744073709551616=b1 at *
      generalize n1%18446744073709551616=b2 at *
      generalize n2 / 18446744073709551616=d1 at *
      generalize n2%18446744073709551616=d2 at *
      simp [g,r];refine aT _ M ?_;simp;rw [w1,w2];refine aT _ A ?_;simp;refine fin _ ?_;apply am<;>simp
     ·rw [if_neg o2] at A
      have:=rbad (by omega)
      subst this;unfold wide at M A;clear ut en ul rbad h3 o1 o2 hdg fin;generalize n1*10 / 18446744073709551616=a1 at *
      generalize n1*10%18446744073709551616=a2 at *
      generalize n1 / 18446744073709551616=b1 at *
      generalize n1%18446744073709551616=b2 at *
      simp [g,r];refine aT _ M ?_;simp;rw [w1,w2];refine aT _ A ?_;simp
    ·rw [if_neg o1] at M
     have:=rbad (by omega)
     subst this;unfold wide at M;clear ut ul rbad h3 o1 hdg fin;generalize n1 / 18446744073709551616=b1 at *
     generalize n1%18446744073709551616=b2 at *
     simp [g,r];refine aT _ M ?_;simp
   ·obtain rfl:i=s.length:=by omega
    rw [sg] at h3 ⊢
    have:=rgood h3
    subst this;unfold wide;clear hK rbad rgood;generalize aH s / 18446744073709551616=a1 at *
    generalize aH s%18446744073709551616=a2 at *
    simp
  ·simp [aH]
  ·apply am<;>simp [aH]
structure Ky where
 g:List UInt8
 r:List UInt8
 p:Bool
 e:Nat
 f:Bool
 deriving DecidableEq
structure Ms where
 g:List UInt8
 p:Bool
 ks:List Ky
 deriving DecidableEq
def Ky.row (k:Ky):List AV:=[.str k.g,.str k.r,.bool k.p,u k.e,.bool k.f]
def Ms.row (m:Ms):List AV:=[.str m.g,.bool m.p,.sl (m.ks.map Ky.row)]
def Rm (m:Ms) (k:Ky):Bool:=m.g==k.g&&m.p==k.p&&decide (m.ks.length<8)
theorem mM (n:Nat):Lib.decDigits n=bu n:=by
 induction n using Nat.strongRecOn with
 |_ n ih=>
  by_cases h:n<10
  ·rw [Lib.decDigits,dif_pos h,gN h]
  ·rw [Lib.decDigits,dif_neg h,fm h,ih _ (by omega)]
end Go.Ai
