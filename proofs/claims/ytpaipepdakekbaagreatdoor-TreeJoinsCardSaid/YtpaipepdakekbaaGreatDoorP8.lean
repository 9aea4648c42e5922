/- P8: a part of the proof: the rules, or what functions compute. Conditions: as each theorem says. -/
import Derived.Test.YtpaipepdakekbaaGreatDoorP7
import Derived.Test.YtpaipepdakekbaaGreatDoorP1
import Derived.Test.YtpaipepdakekbaaGreatDoorP3
import Derived.Test.YtpaipepdakekbaaGreatDoorP5
set_option linter.unusedSimpArgs false
set_option linter.unusedVariables false
set_option maxRecDepth 20000
namespace Go.Ai
open Go.Proofs
theorem get_at (s:List UInt8) (i:Nat) (h:i<s.length):(ByteArray.mk s.toArray).get! (i+0)=s[i]:=by
 show (ByteArray.mk s.toArray).get! i=_
 simp [ByteArray.get!,getElem!_pos,h]
theorem rune_lo {s:List UInt8} {i:Nat} (h:i<s.length) (hb:s[i].toNat<128):runeAt s i=((s[i].toNat:Int),1):=by
 unfold runeAt Utf8.decode
 simp only [get_at s i h,hb,if_true]
theorem rune_hi {s:List UInt8} {i:Nat} (h:i<s.length) (hb: ¬s[i].toNat<128):128≤(runeAt s i).1:=by
 unfold runeAt Utf8.decode
 simp only [get_at s i h,hb,if_false,Utf8.runeError]
 generalize (ByteArray.mk s.toArray).get! (i+1)=x1
 generalize (ByteArray.mk s.toArray).get! (i+2)=x2
 generalize (ByteArray.mk s.toArray).get! (i+3)=x3
 generalize (s[i]).toNat=b at *
 split
 ·split
  ·simp only [];omega
  ·simp only [];omega
 ·split
  ·split
   ·rename_i h2;simp only [Bool.and_eq_true,decide_eq_true_eq] at h2;simp only [];omega
   ·simp only [];omega
  ·split
   ·split
    ·rename_i h2;simp only [Bool.and_eq_true,decide_eq_true_eq] at h2;simp only [];omega
    ·simp only [];omega
   ·simp only [];omega
theorem xdigits_spec (s:List UInt8) (hl:s.length≤1000000):Sp Tryz.prog gl 93 [.str s] (.bool (okDec s)):=by
 refine s93 rfl rfl ?_
 have bad: ∀i (h:i<s.length),isDig s[i]=false→okDec s=false:=fun i h=>all_bad h
 have bad0:s.headD 0=48→1<s.length→okDec s=false:=by
  intro h1 h2
  unfold okDec
  rw [h1]
  have:(s.length==1)=false:=by simp;omega
  rw [this];simp
 have good:s≠[]→s.all isDig=true→(s.headD 0=48→s.length=1)→okDec s=true:=by
  intro h1 h2 h3
  unfold okDec
  rw [h2]
  by_cases hx:s.headD 0=48
  ·simp [h1,h3 hx]
  ·have:(s.headD 0 !=48)=true:=by simp only [bne_iff_ne,ne_eq];exact hx
   rw [this];simp [h1]
 have hnil:s=[]→okDec s=false:=by rintro rfl;rfl
 have h1000:s.headD 0=(s[0]?).getD 0:=by cases s<;>rfl
 generalize okDec s=R at *
 simp -implicitDefEqProofs [c93]
 refine wp_lpk (α:=Nat) (fun i=>⟨[(0,.str s),(6,.itp 6)],[(.it 6,[.itr s i])],[]⟩)
  (fun i=>i≤s.length∧(s.take i).all isDig=true∧(1≤i→s.headD 0=48→s.length=1)) (fun i=>s.length - i) ?_ 0 ?_ ?_
 ·rintro K i hK ⟨h1,h3,h4⟩
  by_cases g:i<s.length
  ·have fin:isDig s[i]=true→(i=0→s[i]=48→s.length=1)→ ∀σ',Weak σ' ⟨[(0,.str s),(6,.itp 6)],[(.it 6,[.itr s (i+1)])],[]⟩→K σ':=
    fun hd h5 σ' hσ=>hK (i+1) σ' ⟨by omega,all_take s i g hd h3,fun _ hh=>by
     by_cases hi:i=0
     ·subst hi
      refine h5 rfl ?_
      rw [h1000,List.getElem?_eq_getElem g] at hh
      simpa using hh
     ·exact h4 (by omega) hh⟩ (by omega) hσ
   have bad:=bad i g
   have rlo:=rune_lo g
   have rhi:=rune_hi g
   have bad0':i=0→s[i]=48→1<s.length→R=false:=by
    rintro rfl h5 h6
    refine bad0 ?_ h6
    rw [h1000,List.getElem?_eq_getElem g,h5];rfl
   obtain ⟨x,hsx⟩: ∃x,s[i]=x:=⟨_,rfl⟩
   simp only [hsx] at fin bad rlo rhi bad0'
   clear hK bad0 good hnil h4 h3
   by_cases hx:x.toNat<128
   ·have r:=rlo hx
    by_cases x1:(x.toNat:Int)<48
    ·have:=bad (by simp only [isDig,decide_eq_false_iff_not];omega)
     subst this
     simp -implicitDefEqProofs [g,r,x1]
    ·by_cases x2:(57:Int)<x.toNat
     ·have:=bad (by simp only [isDig,decide_eq_false_iff_not];omega)
      subst this
      simp -implicitDefEqProofs [g,r,x1,x2]
     ·have fin:=fin (by simp only [isDig,decide_eq_true_eq];omega)
      by_cases i0:i=0
      ·subst i0
       by_cases x3:x.toNat=48
       ·have x3':x=48:=UInt8.toNat_inj.1 (by rw [x3];rfl)
        by_cases l1:1<s.length
        ·have:=bad0' rfl x3' l1
         subst this
         have l1':(1:Int)<(s.length:Int):=by omega
         have x3i:(x.toNat:Int)=48:=by omega
         simp -implicitDefEqProofs [g,r,x1,x2,x3i,l1']
        ·have l1': ¬(1:Int)<(s.length:Int):=by omega
         have x3i:(x.toNat:Int)=48:=by omega
         have fin:=fin (fun _ _=>by omega)
         clear bad bad0'
         simp -implicitDefEqProofs [g,r,x1,x2,x3i,l1']
         refine fin _ ?_
         apply weak_mk<;>simp
       ·have x3':((x.toNat:Int)==48)=false:=by rw [beq_eq_false_iff_ne];omega
        have fin:=fin (fun _ h=>absurd (by rw [h];rfl) x3)
        simp -implicitDefEqProofs [g,r,x1,x2,x3']
        refine fin _ ?_
        apply weak_mk<;>simp
      ·have i0':((i:Int)==0)=false:=by rw [beq_eq_false_iff_ne];omega
       have fin:=fin (fun h=>absurd h i0)
       simp -implicitDefEqProofs [g,r,x1,x2,i0']
       refine fin _ ?_
       apply weak_mk<;>simp
   ·have h128:=rhi hx
    have:=bad (by simp only [isDig,decide_eq_false_iff_not];omega)
    subst this
    obtain ⟨rr,hrr⟩: ∃rr,(runeAt s i).1=rr:=⟨_,rfl⟩
    rw [hrr] at h128
    have x1: ¬rr<48:=by omega
    have x2:(57:Int)<rr:=by omega
    simp -implicitDefEqProofs [g,hrr,x1,x2]
  ·obtain rfl:i=s.length:=by omega
   rw [List.take_length] at h3
   clear hK bad bad0
   by_cases hs:s=[]
   ·have:=hnil hs
    subst this;subst hs
    simp -implicitDefEqProofs
   ·have:=good hs h3 (h4 (List.length_pos_iff.2 hs))
    subst this
    simp -implicitDefEqProofs [hs]
 ·simp
 ·apply weak_mk<;>simp
open Go.Proofs
theorem wrap_i32 {n:Int} (h1: -2147483648≤n) (h2:n<2147483648):IntKind.i32.wrap n=n:=by
 have e1:(2:Int)^32=4294967296:=by decide
 have e2:(2:Int)^(32 - 1)=2147483648:=by decide
 have:IntKind.i32.wrap n=if (true&&decide (n%2^32≥2^(32 - 1)))=true then n%2^32 - 2^32 else n%2^32:=rfl
 rw [this]
 simp only [e1,e2,Bool.true_and,decide_eq_true_eq]
 split<;>omega
theorem foldl_mono10 (r:List UInt8) (a:Nat):a≤r.foldl (fun a b=>10*a+(b.toNat - 48)) a:=by
 induction r generalizing a with
 |nil=>exact Nat.le_refl _
 |cons x r ih=>simp only [List.foldl_cons];exact Nat.le_trans (by omega) (ih _)
theorem undec_take_le (s:List UInt8) (i:Nat):undec (s.take i)≤undec s:=by
 have h:=foldl_mono10 (s.drop i) (undec (s.take i))
 have:undec s=(s.drop i).foldl (fun a b=>10*a+(b.toNat - 48)) (undec (s.take i)):=by
  unfold undec
  rw [←List.foldl_append,List.take_append_drop]
 omega
theorem xread_spec (s:List UInt8) (hl:s.length≤1000000):Sp Tryz.prog gl 73 [.str s] (.tup [wide (readN s).1,i6 (readN s).2]):=by
 refine s73 rfl rfl ?_
 have e0:wide 0= .agg [u 0,u 0]:=rfl
 have D:=xdigits_spec s hl
 cases hok:okDec s with
 |false=>
  rw [hok] at D
  rw [readN_bad hok,e0]
  simp -implicitDefEqProofs [c73]
  refine onC_mk _ D ?_
  simp -implicitDefEqProofs
 |true=>
  rw [hok] at D
  have hall:s.all isDig=true:=by
   unfold okDec at hok
   simp only [Bool.and_eq_true] at hok
   exact hok.1.2
  have res:readN s=if undec s<340282366920938463463374607431768211456 then (undec s,0) else (0,3):=by unfold readN;rw [if_pos hok]
  have rbad: ¬undec s<340282366920938463463374607431768211456→AV.tup [wide (readN s).1,i6 (readN s).2]= .tup [.agg [u 0,u 0],i6 3]:=fun h=>by rw [res,if_neg h,e0];rfl
  have rgood:undec s<340282366920938463463374607431768211456→AV.tup [wide (readN s).1,i6 (readN s).2]= .tup [wide (undec s),i6 0]:=fun h=>by rw [res,if_pos h];rfl
  clear res
  generalize AV.tup [wide (readN s).1,i6 (readN s).2]=R at *
  simp -implicitDefEqProofs [c73]
  refine onC_mk _ D ?_
  simp -implicitDefEqProofs
  refine wp_lpk (α:=Nat) (fun i=>⟨[(0,.str s),(2,.ptr (.n 2) 0),(4,.ptr (.n 4) 0),(14,.itp 14)],[(.n 2,[u 0,u 0]),(.n 4,[u (undec (s.take i) / 18446744073709551616),u (undec (s.take i)%18446744073709551616)]),(.it 14,[.itr s i])],[]⟩)
   (fun i=>i≤s.length∧undec (s.take i)<340282366920938463463374607431768211456) (fun i=>s.length - i) ?_ 0 ?_ ?_
  ·rintro K i hK ⟨h1,h3⟩
   by_cases g:i<s.length
   ·have hd:isDig s[i]=true:=List.all_eq_true.1 hall _ (List.getElem_mem g)
    simp only [isDig,decide_eq_true_eq] at hd
    have ut:=undec_take s i g
    have ul:=undec_take_le s (i+1)
    have r:=rune_lo g (by omega)
    have fin:undec (s.take (i+1))<340282366920938463463374607431768211456→ ∀σ',Weak σ' ⟨[(0,.str s),(2,.ptr (.n 2) 0),(4,.ptr (.n 4) 0),(14,.itp 14)],[(.n 2,[u 0,u 0]),(.n 4,[u (undec (s.take (i+1)) / 18446744073709551616),u (undec (s.take (i+1))%18446744073709551616)]),(.it 14,[.itr s (i+1)])],[]⟩→K σ':=
     fun h σ' hσ=>hK (i+1) σ' ⟨by omega,h⟩ (by omega) hσ
    generalize undec (s.take (i+1))=n2 at *
    generalize undec (s.take i)=n1 at *
    obtain ⟨x,hsx⟩: ∃x,s[i]=x:=⟨_,rfl⟩
    simp only [hsx] at hd ut r
    obtain ⟨dg,hdg⟩: ∃dg,dg=x.toNat - 48:=⟨_,rfl⟩
    rw [←hdg] at ut
    have w1:IntKind.i32.wrap ((x.toNat:Int) - 48)=dg:=by rw [wrap_i32]<;>omega
    have w2:IntKind.u64.wrap (dg:Int)=dg:=by rw [wrap_u64]<;>omega
    have M:=xmore_spec n1 10 h3 (by omega)
    clear hK rgood
    by_cases o1:n1*10<340282366920938463463374607431768211456
    ·rw [if_pos o1] at M
     have A:=xadd_spec (n1*10) dg o1 (by omega)
     have wd:wide dg= .agg [u 0,u dg]:=by unfold wide;rw [Nat.div_eq_of_lt (by omega),Nat.mod_eq_of_lt (by omega)]
     rw [wd] at A
     have en:n1*10+dg=n2:=by omega
     rw [en] at A
     by_cases o2:n2<340282366920938463463374607431768211456
     ·rw [if_pos o2] at A
      have fin:=fin o2
      unfold wide at M A
      clear ut en ul rbad h3 o1 o2 hdg
      generalize n1*10 / 18446744073709551616=a1 at *
      generalize n1*10%18446744073709551616=a2 at *
      generalize n1 / 18446744073709551616=b1 at *
      generalize n1%18446744073709551616=b2 at *
      generalize n2 / 18446744073709551616=d1 at *
      generalize n2%18446744073709551616=d2 at *
      simp -implicitDefEqProofs [g,r]
      refine onC_mk _ M ?_
      simp -implicitDefEqProofs
      rw [w1,w2]
      refine onC_mk _ A ?_
      simp -implicitDefEqProofs
      refine fin _ ?_
      apply weak_mk<;>simp
     ·rw [if_neg o2] at A
      have:=rbad (by omega)
      subst this
      unfold wide at M A
      clear ut en ul rbad h3 o1 o2 hdg fin
      generalize n1*10 / 18446744073709551616=a1 at *
      generalize n1*10%18446744073709551616=a2 at *
      generalize n1 / 18446744073709551616=b1 at *
      generalize n1%18446744073709551616=b2 at *
      simp -implicitDefEqProofs [g,r]
      refine onC_mk _ M ?_
      simp -implicitDefEqProofs
      rw [w1,w2]
      refine onC_mk _ A ?_
      simp -implicitDefEqProofs
    ·rw [if_neg o1] at M
     have:=rbad (by omega)
     subst this
     unfold wide at M
     clear ut ul rbad h3 o1 hdg fin
     generalize n1 / 18446744073709551616=b1 at *
     generalize n1%18446744073709551616=b2 at *
     simp -implicitDefEqProofs [g,r]
     refine onC_mk _ M ?_
     simp -implicitDefEqProofs
   ·obtain rfl:i=s.length:=by omega
    rw [List.take_length] at h3 ⊢
    have:=rgood h3
    subst this
    unfold wide
    clear hK rbad rgood
    generalize undec s / 18446744073709551616=a1 at *
    generalize undec s%18446744073709551616=a2 at *
    simp -implicitDefEqProofs
  ·simp [undec]
  ·apply weak_mk<;>simp [undec]
open Go.Proofs
def numF (s:List UInt8):Nat×Int:=if okDec s=true then (if undec s<18446744073709551616 then (undec s,0) else (0,8)) else (0,5)
theorem readN_num (s:List UInt8):(okDec s=false∧readN s=(0,5)∧numF s=(0,5))∨(okDec s=true∧undec s<18446744073709551616∧readN s=(undec s,0)∧numF s=(undec s,0))∨
  (okDec s=true∧18446744073709551616≤undec s∧undec s<340282366920938463463374607431768211456∧readN s=(undec s,0)∧numF s=(0,8))∨(readN s=(0,3)∧numF s=(0,8)):=by
 unfold readN numF
 by_cases c:okDec s=true
 ·by_cases c1:undec s<18446744073709551616
  ·right;left
   refine ⟨c,c1,?_,?_⟩
   ·rw [if_pos c,if_pos (by omega)]
   ·rw [if_pos c,if_pos c1]
  ·by_cases c2:undec s<340282366920938463463374607431768211456
   ·right;right;left
    refine ⟨c,by omega,c2,?_,?_⟩
    ·rw [if_pos c,if_pos c2]
    ·rw [if_pos c,if_neg c1]
   ·right;right;right
    refine ⟨?_,?_⟩
    ·rw [if_pos c,if_neg c2]
    ·rw [if_pos c,if_neg c1]
 ·left
  have c':okDec s=false:=by simpa using c
  refine ⟨c',?_,?_⟩
  ·rw [if_neg c]
  ·rw [if_neg c]
def numA (q:Nat×Int):AV:=if q.2=0 then .ifc 42 (u q.1) else .ifc 24 (i6 q.2)
theorem snumber_spec (s:List UInt8) (hl:s.length≤1000000):Sp Tryz.prog gl 55 [.str s] (numA (numF s)):=by
 refine s55 rfl rfl ?_
 have R:=xread_spec s hl
 unfold numA
 rcases readN_num s with ⟨_,h1,h2⟩|⟨_,h0,h1,h2⟩|⟨_,h0,h3,h1,h2⟩|⟨h1,h2⟩
 ·rw [h1] at R
  rw [h2,if_neg (by decide)]
  unfold wide at R
  simp -implicitDefEqProofs [c55]
  refine onC_mk _ (R) ?_
  simp -implicitDefEqProofs
 ·rw [h1] at R
  rw [h2,if_pos rfl]
  unfold wide at R
  have e1:undec s / 18446744073709551616=0:=Nat.div_eq_of_lt h0
  have e2:undec s%18446744073709551616=undec s:=Nat.mod_eq_of_lt h0
  simp only [e1,e2] at R
  generalize undec s=n at *
  simp -implicitDefEqProofs [c55]
  refine onC_mk _ (R) ?_
  simp -implicitDefEqProofs
 ·rw [h1] at R
  rw [h2,if_neg (by decide)]
  unfold wide at R
  obtain ⟨hi,e1⟩: ∃hi,hi=undec s / 18446744073709551616:=⟨_,rfl⟩
  have e2:0<hi:=by omega
  have e2':(0:Int)<hi:=by omega
  dsimp only at R
  rw [←e1] at R
  generalize undec s%18446744073709551616=lo at *
  clear e1 h0 h3 h1 h2
  simp -implicitDefEqProofs [c55]
  refine onC_mk _ (R) ?_
  simp -implicitDefEqProofs [e2,e2']
 ·rw [h1] at R
  rw [h2,if_neg (by decide)]
  unfold wide at R
  simp -implicitDefEqProofs [c55]
  refine onC_mk _ (R) ?_
  simp -implicitDefEqProofs
def toldV (k:Int) (q:Nat×Int):TV:=if q.2=0 then .t k [] q.1 else .e q.2
theorem stold_spec (k:Int) (n:Nat) (e:Int):Sp Tryz.prog gl 56 [i6 k,u n,i6 e] (toldV k (n,e)).av:=by
 refine s56 rfl rfl ?_
 unfold toldV
 by_cases c:e=0
 ·subst c
  rw [if_pos rfl]
  unfold TV.av
  simp -implicitDefEqProofs [c56]
 ·have c1:(e !=0)=true:=bne_iff_ne.2 c
  have c2:(e==0)=false:=beq_eq_false_iff_ne.2 c
  rw [if_neg c]
  unfold TV.av
  simp -implicitDefEqProofs [c56,c1,c2,c]
def dgsF (s:List UInt8):Bool:=s.all isDig&&decide (0<s.length)
theorem same13_spec (fs:List Tk) (hl:fs.length≤1000000):Sp Tryz.prog gl 19 [.sl (fs.map Tk.row),.sl (fs.map Tk.row)] (.bool true):=by
 refine s19 rfl rfl ?_
 have rl:(fs.map Tk.row).length=fs.length:=by simp
 have rat: ∀i (h:i<fs.length),∀h2,(fs.map Tk.row)[i]'h2=[i6 fs[i].k,.str fs[i].t,u fs[i].n,i6 fs[i].ln,i6 fs[i].co]:=fun i h h2=>by simp [Tk.row]
 generalize fs.map Tk.row=RR at *
 simp -implicitDefEqProofs [c19]
 refine wp_lpk (α:=Nat) (fun i=>⟨[(0,.sl RR),(1,.sl RR),(5,i6 i)],[],[]⟩)
  (fun i=>i≤fs.length) (fun i=>fs.length - i) ?_ 0 ?_ ?_
 ·rintro K i hK h1
  by_cases g:i<fs.length
  ·have t1:IntKind.i64.wrap ((i:Int)+1)=(i+1:Nat):=by rw [wrap_i64]<;>omega
   have gR:i<RR.length:=by omega
   have ra:=rat i g gR
   have fin: ∀σ',Weak σ' ⟨[(0,.sl RR),(1,.sl RR),(5,i6 (i+1:Nat))],[],[]⟩→K σ':=
    fun σ' hσ=>hK (i+1) σ' (by omega) (by omega) hσ
   clear hK rat
   generalize fs[i]=x at *
   simp -implicitDefEqProofs [g,gR,ra,rl]
   refine fin _ ?_
   refine weak_mk ?_ ?_ ?_ ?_ ?_ ?_<;>simp -implicitDefEqProofs [t1]
  ·obtain rfl:i=fs.length:=by omega
   clear hK
   simp -implicitDefEqProofs [rl]
 ·exact Nat.zero_le _
 ·refine weak_mk ?_ ?_ ?_ ?_ ?_ ?_<;>simp -implicitDefEqProofs
open Go.Proofs
def unitZ (r:Int):Nat:=if r=119 then 604800 else if r=100 then 86400 else if r=104 then 3600 else if r=109 then 60 else if r=115 then 1 else 0
theorem unitZ_le (r:Int):unitZ r≤604800:=by
 unfold unitZ
 repeat' split
 all_goals omega
theorem sunit_spec (r:Int):Sp Tryz.prog gl 105 [i3 r] (i6 (unitZ r)):=by
 refine s105 rfl rfl ?_
 unfold unitZ
 have ne: ∀z:Int,¬r=z→(r==z)=false:=fun z h=>beq_eq_false_iff_ne.2 h
 by_cases c1:r=119
 ·subst c1
  simp -implicitDefEqProofs [c105]
 rw [if_neg c1]
 by_cases c2:r=100
 ·subst c2
  simp -implicitDefEqProofs [c105]
 rw [if_neg c2]
 by_cases c3:r=104
 ·subst c3
  simp -implicitDefEqProofs [c105]
 rw [if_neg c3]
 by_cases c4:r=109
 ·subst c4
  simp -implicitDefEqProofs [c105]
 rw [if_neg c4]
 by_cases c5:r=115
 ·subst c5
  simp -implicitDefEqProofs [c105]
 rw [if_neg c5]
 simp -implicitDefEqProofs [c105,c1,c2,c3,c4,c5,ne _ c1,ne _ c2,ne _ c3,ne _ c4,ne _ c5]
def spR:List UInt8→Bool→Nat→Nat→Nat→Bool→Nat×Int
 |[],dg,n,la,sm,fr=>if dg=true then (0,5) else if fr=true then (0,8) else (sm,0)
 |c::l,dg,n,la,sm,fr=>
  if isDig c=true then spR l true (if n≤253402300799 then 10*n+(c.toNat - 48) else n) la sm fr
  else if dg=false∨unitZ c.toNat=0∨la≤unitZ c.toNat then (0,5)
  else if 253402300799 / unitZ c.toNat<n then spR l false 0 (unitZ c.toNat) sm true
  else if 253402300799<sm+n*unitZ c.toNat then spR l false 0 (unitZ c.toNat) 0 true
  else spR l false 0 (unitZ c.toNat) (sm+n*unitZ c.toNat) fr
def spanR (s:List UInt8):Nat×Int:=if s=[] then (0,5) else spR s false 0 1000000 0 false
open Go.Proofs
end Go.Ai
namespace Go.Ai
open Go.Proofs
def sufB (s t:List UInt8):Bool:=decide (t.length≤s.length)&&(s.drop (s.length - t.length)==t)
theorem hasSuf_spec (s t:List UInt8) (hl:s.length≤1000000) (ht:t.length≤1000000):Sp Tryz.prog gl 74 [.str s,.str t] (.bool (sufB s t)):=by
 refine s74 rfl rfl ?_
 unfold sufB
 by_cases g:t.length≤s.length
 ·have g':(t.length:Int)≤s.length:=by omega
  have w:IntKind.i64.wrap ((s.length:Int) - (t.length:Int))=(s.length - t.length:Nat):=by rw [wrap_i64]<;>omega
  have gm:s.length - t.length≤s.length:=Nat.sub_le _ _
  rw [decide_eq_true g,Bool.true_and]
  generalize s.length - t.length=m at *
  simp -implicitDefEqProofs [c74,g,g',w,gm]
 ·have g': ¬(t.length:Int)≤s.length:=by omega
  rw [decide_eq_false g,Bool.false_and]
  simp -implicitDefEqProofs [c74,g,g']
theorem hasSufP_spec (s t:List UInt8) (hl:s.length≤1000000) (ht:t.length≤1000000):Sp Tryz.prog gl 57 [.str s,.str t] (.bool (sufB s t)):=by
 refine s57 rfl rfl ?_
 have H:=hasSuf_spec s t hl ht
 generalize sufB s t=b at *
 simp -implicitDefEqProofs [c57]
 refine onC_mk _ (H) ?_
 simp -implicitDefEqProofs
def cutSuf (s t:List UInt8):List UInt8:=if sufB s t=true then s.take (s.length - t.length) else s
theorem cutSufL_spec (s t:List UInt8) (hl:s.length≤1000000) (ht:t.length≤1000000):Sp Tryz.prog gl 95 [.str s,.str t] (.tup [.str (cutSuf s t),.bool (sufB s t)]):=by
 refine s95 rfl rfl ?_
 have H:=hasSuf_spec s t hl ht
 have k:sufB s t=true→t.length≤s.length:=fun h=>by
  unfold sufB at h
  rw [Bool.and_eq_true,decide_eq_true_iff] at h
  exact h.1
 unfold cutSuf
 have w:t.length≤s.length→IntKind.i64.wrap ((s.length:Int) - (t.length:Int))=(s.length - t.length:Nat):=fun h=>by rw [wrap_i64]<;>omega
 have gm:s.length - t.length≤s.length:=Nat.sub_le _ _
 cases hb:sufB s t
 ·rw [hb] at H
  simp -implicitDefEqProofs [c95]
  refine onC_mk _ (H) ?_
  simp -implicitDefEqProofs
 ·rw [hb] at H
  have w':=w (k hb)
  generalize s.length - t.length=m at *
  simp -implicitDefEqProofs [c95]
  refine onC_mk _ (H) ?_
  simp -implicitDefEqProofs [w',gm]
theorem cutSuf_spec (s t:List UInt8) (hl:s.length≤1000000) (ht:t.length≤1000000):Sp Tryz.prog gl 75 [.str s,.str t] (.tup [.str (cutSuf s t),.bool (sufB s t)]):=by
 refine s75 rfl rfl ?_
 have H:=cutSufL_spec s t hl ht
 generalize cutSuf s t=a at *
 generalize sufB s t=b at *
 simp -implicitDefEqProofs [c75]
 refine onC_mk _ (H) ?_
 simp -implicitDefEqProofs
end Go.Ai
