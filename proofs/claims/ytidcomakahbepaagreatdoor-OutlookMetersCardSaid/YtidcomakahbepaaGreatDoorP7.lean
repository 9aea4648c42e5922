/- P7: a part of the proof: the rules, or what functions compute. Conditions: as each theorem says. -/
import Derived.Test.YtidcomakahbepaaGreatDoorP6
import Derived.Lib.TrimUEq
import Derived.Lib.ValidU
import Derived.Lib.MapLaws
import Derived.Test.YtidcomakahbepaaGreatDoorCode
import Derived.Test.YtidcomakahbepaaGreatDoorAiShelf2
import Derived.Shelf.Lays
import Derived.Shelf.LaysM
import Derived.Shelf.Small.Wraps
import Derived.Shelf.Strings.BuilderX
import Derived.Shelf.Strings.SplitCore
import Derived.Shelf.Unicode.ValidAny
set_option linter.unusedSimpArgs false
set_option linter.unusedVariables false
set_option maxRecDepth 20000
namespace Go.Ai
open Go.Proofs
def btw (n lo hi:Int):Bool:=decide (lo≤n∧n≤hi)
theorem btw_and (n lo hi:Int):btw n lo hi=(decide (lo≤n)&&decide (n≤hi)):=by simp [btw]
theorem btwI_spec (n lo hi:Int):Sp Tryz.prog gl 116 [i6 n,i6 lo,i6 hi] (.bool (btw n lo hi)):=by
 refine s116 rfl rfl ?_
 rw [btw_and]
 simp -implicitDefEqProofs [c116]
 refine onB_dec (fun h=>?_) (fun h=>?_)<;>simp -implicitDefEqProofs [h]
theorem between6_spec (n lo hi:Int):Sp Tryz.prog gl 115 [i6 n,i6 lo,i6 hi] (.bool (btw n lo hi)):=by
 refine s115 rfl rfl ?_
 rw [btw_and]
 simp -implicitDefEqProofs [c115]
 refine onB_dec (fun h=>?_) (fun h=>?_)<;>simp -implicitDefEqProofs [h]
theorem betweenU_spec (n lo hi:Nat):Sp Tryz.prog gl 195 [u n,u lo,u hi] (.bool (btw n lo hi)):=by
 refine s195 rfl rfl ?_
 rw [btw_and]
 simp -implicitDefEqProofs [c195]
 refine onB_dec (fun h=>?_) (fun h=>?_)<;>simp -implicitDefEqProofs [h]
theorem between3_spec (n lo hi:Nat):Sp Tryz.prog gl 114 [.int .u32 n,.int .u32 lo,.int .u32 hi] (.bool (btw n lo hi)):=by
 refine s114 rfl rfl ?_
 rw [btw_and]
 simp -implicitDefEqProofs [c114]
 refine onB_dec (fun h=>?_) (fun h=>?_)<;>simp -implicitDefEqProofs [h]
theorem rin_spec (n lo hi:Int):Sp Tryz.prog gl 53 [i6 n,i6 lo,i6 hi] (.bool (btw n lo hi)):=by
 refine s53 rfl rfl ?_
 rw [btw_and]
 simp -implicitDefEqProofs [c53]
 refine onB_dec (fun h=>?_) (fun h=>?_)<;>simp -implicitDefEqProofs [h]
def ruP (r:Ru) (g:Int):Bool:=decide (0<g)&&(btw r.s 1 r.l&&(btw r.l 1 34560000&&(nameT r.n&&(r.l.tmod g==0&&(r.s.tmod g==0&&(btw r.f 1 1000000&&(btw r.w 0 604800&&btw r.k 0 604800)))))))
theorem rru_spec (r:Ru) (g:Int) (hn:r.n.length≤900000):Sp Tryz.prog gl 170 [.agg r.row,i6 g] (.bool (ruP r g)):=by
 refine s170 rfl rfl ?_
 have N:=tname_spec r.n hn
 obtain ⟨nm,p,l,s,f,w,k⟩:=r
 have hR:ruP ⟨nm,p,l,s,f,w,k⟩ g=(decide (0<g)&&(btw s 1 l&&(btw l 1 34560000&&(nameT nm&&(l.tmod g==0&&(s.tmod g==0&&(btw f 1 1000000&&(btw w 0 604800&&btw k 0 604800)))))))):=rfl
 simp only [Ru.row] at N ⊢
 generalize ruP ⟨nm,p,l,s,f,w,k⟩ g=R at *
 generalize nameT nm=T at *
 have B1:=between6_spec s 1 l
 have B2:=between6_spec l 1 34560000
 have B3:Sp Tryz.prog gl 195 [u f,.int .u64 1,.int .u64 1000000] (.bool (btw f 1 1000000)):=betweenU_spec f 1 1000000
 have B4:=between6_spec w 0 604800
 have B5:=between6_spec k 0 604800
 generalize x1:btw s 1 l=b1 at *
 generalize x2:btw l 1 34560000=b2 at *
 generalize x3:btw (f:Int) 1 1000000=b3 at *
 generalize x4:btw w 0 604800=b4 at *
 generalize x5:btw k 0 604800=b5 at *
 by_cases g0:0<g
 ·have g1: ¬g=0:=by omega
  rw [decide_eq_true g0] at hR
  clear x1 x2 x3 x4 x5
  simp -implicitDefEqProofs [c170,g0,g1]
  repeat' first
   |(refine onC_mk _ (B1) ?_;simp -implicitDefEqProofs [g1])
   |(refine onC_mk _ (B2) ?_;simp -implicitDefEqProofs [g1])
   |(refine onC_mk _ (N) ?_;simp -implicitDefEqProofs [g1])
   |(refine onC_mk _ (B3) ?_;simp -implicitDefEqProofs [g1])
   |(refine onC_mk _ (B4) ?_;simp -implicitDefEqProofs [g1])
   |(refine onC_mk _ (B5) ?_;simp -implicitDefEqProofs [g1])
   |(refine onB_mk (fun h=>?_) (fun h=>?_)<;>(try simp only [Bool.not_eq_true',Bool.not_eq_false',decide_eq_true_eq,decide_eq_false_iff_not] at h)<;>simp -implicitDefEqProofs [h,g1])
  all_goals (rw [hR];simp [*])
 ·rw [decide_eq_false g0] at hR
  simp -implicitDefEqProofs [c170,g0]
  rw [hR];simp
open Go.Proofs
theorem stepF_bad (s:List UInt8) (i n r0 least:Nat) (h:(stepF s i n r0 least).1= -1):(stepF s i n r0 least).2=1:=by
 unfold stepF at h ⊢
 split
 ·rename_i hc
  rw [if_pos hc] at h
  simp only at h
  omega
 ·rfl
theorem stepR_bad (s:List UInt8) (i:Nat) (h:(stepR s i).1= -1):(stepR s i).2=1:=by
 unfold stepR at h ⊢
 simp only at h ⊢
 repeat' split
 all_goals first
  |rfl
  |(simp_all;done)
  |(simp_all;exact stepF_bad _ _ _ _ _ (by assumption))
theorem stepF_one (s:List UInt8) (i n r0 least:Nat) (hn:1≤n) (h:(stepF s i n r0 least).1≠ -1):(stepF s i n r0 least).2≠1:=by
 unfold stepF at h ⊢
 split
 ·simp only;omega
 ·rename_i hc
  rw [if_neg hc] at h
  exact absurd rfl h
theorem stepR_one (s:List UInt8) (i:Nat) (h:(stepR s i).1≠ -1) (h1:(stepR s i).2=1):(stepR s i).1<128:=by
 by_cases hb:byt s i<128
 ·unfold stepR
  simp only [hb,if_true];omega
 ·exfalso
  unfold stepR at h h1
  simp only [hb,if_false] at h h1
  split at h
  ·rename_i q;rw [if_pos q] at h1;exact stepF_one _ _ _ _ _ (by omega) h h1
  ·rename_i q;rw [if_neg q] at h1
   split at h
   ·rename_i q;rw [if_pos q] at h1;exact stepF_one _ _ _ _ _ (by omega) h h1
   ·rename_i q;rw [if_neg q] at h1
    split at h
    ·rename_i q;rw [if_pos q] at h1;exact stepF_one _ _ _ _ _ (by omega) h h1
    ·exact absurd rfl h
theorem rune_w (s:List UInt8) (i:Nat) (h:i<s.length):(runeAt s i).2=(stepR s i).2:=by
 rw [step_rune s i h]
 split
 ·rename_i hb;rw [stepR_bad s i hb]
 ·rfl
def goodR (l:List Int):Bool:=l.all fun r=>decide (0≤r)
theorem stepF_nn (s:List UInt8) (i n r0 least:Nat):(stepF s i n r0 least).1= -1∨0≤(stepF s i n r0 least).1:=by
 unfold stepF
 split
 ·right;simp only;omega
 ·left;rfl
theorem stepR_nn (s:List UInt8) (i:Nat):(stepR s i).1= -1∨0≤(stepR s i).1:=by
 unfold stepR
 simp only
 repeat' split
 all_goals first
  |exact stepF_nn _ _ _ _ _
  |(left;rfl)
  |(right;simp only;omega)
theorem decodeL_at (s:List UInt8) (i:Nat):runeAt s i=(((Lib.decodeL (s.drop i)).1:Int),(Lib.decodeL (s.drop i)).2):=by
 have:=Lib.decodeL_drop ⟨s.toArray⟩ i
 simp only at this
 rw [this]
 rfl
theorem good_go (s:List UInt8): ∀(n i:Nat),s.length - i≤n→Lib.validGoD n (s.drop i)=goodR (runesL s i)
 |0,i,h=>by
  rw [runesL_out (by omega)];rfl
 |n+1,i,h=>by
  by_cases g:i<s.length
  ·have hne:s.drop i≠[]:=by
    intro e
    have:=congrArg List.length e
    rw [List.length_drop] at this
    simp at this;omega
   have sr:=step_rune s i g
   have da:=decodeL_at s i
   rw [da] at sr
   simp only [Lib.validGoD,if_neg hne]
   rw [runesL_in g]
   have pos:=stepR_pos s i
   by_cases hb:(stepR s i).1= -1
   ·rw [if_pos hb] at sr
    simp only [Prod.mk.injEq] at sr
    rw [if_pos ⟨by omega,sr.2⟩]
    simp [goodR,hb]
   ·rw [if_neg hb] at sr
    have e1:((Lib.decodeL (s.drop i)).1:Int)=(stepR s i).1:=congrArg Prod.fst sr
    have e2:(Lib.decodeL (s.drop i)).2=(stepR s i).2:=congrArg Prod.snd sr
    rw [if_neg (by
     rintro ⟨q1,q2⟩
     have:=stepR_one s i hb (by omega)
     omega)]
    rw [List.drop_drop,e2,good_go s n (i+(stepR s i).2) (by omega)]
    have h0:0≤(stepR s i).1:=by rcases stepR_nn s i with h|h;exact absurd h hb;exact h
    simp [goodR,h0]
  ·have e:s.drop i=[]:=List.drop_eq_nil_of_le (by omega)
   simp only [Lib.validGoD,e,if_true]
   rw [runesL_out g];rfl
theorem validD_good (s:List UInt8):Lib.validD s=goodR (runesL s 0):=by
 have:=good_go s s.length 0 (by omega)
 rwa [List.drop_zero] at this
theorem rgood_spec (s:List UInt8) (hl:s.length≤900000):Sp Tryz.prog gl 54 [.str s] (.bool (goodR (runesL s 0))):=by
 refine s54 rfl rfl ?_
 have R:=runes_spec s hl
 have len:=runesL_len s s.length 0 (by omega)
 have rl:=runeRows_len (runesL s 0)
 have rat: ∀i (h:i<(runesL s 0).length),(runeRows (runesL s 0))[i]?=some [.int .i32 (runesL s 0)[i]]:=by intro i h;simp [runeRows,i3,h]
 generalize runesL s 0=L at *
 obtain ⟨G,hG⟩: ∃G,G=goodR L:=⟨_,rfl⟩
 rw [←hG]
 generalize runeRows L=RR at *
 simp -implicitDefEqProofs [c54]
 refine onC_mk _ (R) ?_
 simp -implicitDefEqProofs
 refine wp_lpk (α:=Nat) (fun i=>⟨[(3,.sl RR),(4,i6 i)],[],[]⟩) (fun i=>i≤L.length∧goodR (L.drop i)=G) (fun i=>L.length - i) ?_ 0 ?_ ?_
 ·rintro K i hK ⟨h1,h2⟩
  by_cases g:i<L.length
  ·have t1:IntKind.i64.wrap ((i:Int)+1)=(i+1:Nat):=by rw [wrap_i64]<;>omega
   have ra:=rat i g
   rw [List.drop_eq_getElem_cons g] at h2
   simp only [goodR,List.all_cons] at h2
   have gR:i<RR.length:=by omega
   have ra': ∀h,RR[i]'h=[.int .i32 L[i]]:=fun h=>by rw [List.getElem?_eq_getElem h] at ra;exact Option.some.inj ra
   have fin:decide (0≤L[i])=true→ ∀σ',Weak σ' ⟨[(3,.sl RR),(4,i6 (i+1:Nat))],[],[]⟩→K σ':=fun hd σ' hσ=>hK (i+1) σ' ⟨by omega,by rw [hd,Bool.true_and] at h2;exact h2⟩ (by omega) hσ
   generalize L[i]=r at *
   by_cases hr:r<0
   ·rw [decide_eq_false (by omega),Bool.false_and] at h2
    subst h2
    simp -implicitDefEqProofs [rl,g,gR,ra',hr]
   ·have fin:=fin (decide_eq_true (by omega))
    clear hK
    simp -implicitDefEqProofs [rl,g,gR,ra',hr]
    refine fin _ (weak_mk ?_ ?_ ?_ ?_ ?_ ?_)<;>simp -implicitDefEqProofs [t1]
  ·obtain rfl:i=L.length:=by omega
   rw [List.drop_length] at h2
   have:G=true:=by rw [←h2];rfl
   subst this
   simp -implicitDefEqProofs [rl]
 ·exact ⟨Nat.zero_le _,hG.symm⟩
 ·refine weak_mk ?_ ?_ ?_ ?_ ?_ ?_<;>simp -implicitDefEqProofs
theorem tcount_spec (s:List UInt8) (hl:s.length≤900000):Sp Tryz.prog gl 167 [.str s] (i6 (runesL s 0).length):=by
 refine s167 rfl rfl ?_
 obtain ⟨R,hR⟩: ∃R,R=(runesL s 0).length:=⟨_,rfl⟩
 rw [←hR]
 simp -implicitDefEqProofs [c167]
 refine wp_lpk (α:=Nat×Nat) (fun x=>⟨[(3,i6 x.2),(5,.itp 5)],[(.it 5,[.itr s x.1])],[]⟩)
  (fun x=>x.2≤x.1∧x.2+(runesL s x.1).length=R∧x.1≤s.length+3) (fun x=>s.length+4 - x.1) ?_ (0,0) ?_ ?_
 ·rintro K ⟨i,n⟩ hK ⟨h1,h2,h3⟩
  simp only at h1 h2 h3
  by_cases g:i<s.length
  ·rw [runesL_in g] at h2
   simp only [List.length_cons] at h2
   have sw:=rune_w s i g
   have sl:=stepR_lt g
   have sp:=stepR_pos s i
   have fin: ∀σ',Weak σ' ⟨[(3,i6 (n+1:Nat)),(5,.itp 5)],[(.it 5,[.itr s (i+(stepR s i).2)])],[]⟩→K σ':=
    fun σ' hσ=>hK (i+(stepR s i).2,n+1) σ' ⟨by simp only;omega,by simp only;omega,by simp only;omega⟩ (by simp only;omega) hσ
   have t1:IntKind.i64.wrap ((n:Int)+1)=(n+1:Nat):=by rw [wrap_i64]<;>omega
   clear hK hR h2
   simp -implicitDefEqProofs [g,sw]
   refine fin _ (weak_mk ?_ ?_ ?_ ?_ ?_ ?_)<;>simp -implicitDefEqProofs [t1]
  ·rw [runesL_out g] at h2
   have:n=R:=by simpa using h2
   subst this
   simp -implicitDefEqProofs [g]
 ·exact ⟨Nat.le_refl _,by simp [hR],by simp⟩
 ·refine weak_mk ?_ ?_ ?_ ?_ ?_ ?_<;>simp -implicitDefEqProofs
end Go.Ai
namespace Go.Ai
open Go.Proofs Go.Shelf
def ren_laysValid:Ren:={
 f:=fun x=>match x with
  |196=>194
  |259=>213
  |n=>n
 t:=fun x=>match x with
  |9=>9
  |4=>4
  |3=>3
  |5=>5
  |12=>12
  |119=>263
  |0=>0
  |46=>145
  |139=>266
  |138=>265
  |53=>37
  |n=>n
 g:=fun x=>match x with
  |3=>2
  |4=>3
  |n=>n}
set_option maxRecDepth 100000 in
theorem laysValid:Lays.n196 Tryz.prog ren_laysValid where
 mixed:=by kernel_rfl
 f196:=Eq.trans Tryz.func194 (congrArg some (show Tryz.f194=Body.n196 ren_laysValid by kernel_rfl))
 f259:=Eq.trans Tryz.func213 (congrArg some (show Tryz.f213=Body.n259 ren_laysValid by kernel_rfl))
 t0:=Tryz.underlying0
 a0:=Tryz.isAgg0
 z0:=Tryz.sizeOf0
 v0:=Tryz.zeroValue0
 t3:=Tryz.underlying3
 a3:=Tryz.isAgg3
 z3:=Tryz.sizeOf3
 v3:=Tryz.zeroValue3
 t4:=Tryz.underlying4
 a4:=Tryz.isAgg4
 z4:=Tryz.sizeOf4
 v4:=Tryz.zeroValue4
 t5:=Tryz.underlying5
 a5:=Tryz.isAgg5
 z5:=Tryz.sizeOf5
 v5:=Tryz.zeroValue5
 t9:=Tryz.underlying9
 a9:=Tryz.isAgg9
 z9:=Tryz.sizeOf9
 v9:=Tryz.zeroValue9
 t12:=Tryz.underlying12
 a12:=Tryz.isAgg12
 z12:=Tryz.sizeOf12
 v12:=Tryz.zeroValue12
 t46:=Tryz.underlying145
 a46:=Tryz.isAgg145
 z46:=Tryz.sizeOf145
 v46:=Tryz.zeroValue145
 t53:=Tryz.underlying37
 a53:=Tryz.isAgg37
 z53:=Tryz.sizeOf37
 v53:=Tryz.zeroValue37
 t119:=Tryz.underlying263
 a119:=Tryz.isAgg263
 z119:=Tryz.sizeOf263
 t138:=Tryz.underlying265
 a138:=Tryz.isAgg265
 z138:=Tryz.sizeOf265
 v138:=Tryz.zeroValue265
 t139:=Tryz.underlying266
 a139:=Tryz.isAgg266
 z139:=Tryz.sizeOf266
 v139:=Tryz.zeroValue266
 g3:=by kernel_rfl
 g4:=by kernel_rfl
open Go.Proofs
theorem first_gl:List.lookup 2 gl=some ((List.range 256).map fun c=>Value.int .u8 (Lib.firstT c)):=by kernel_rfl
theorem accept_gl:List.lookup 3 gl=some ((List.range 32).map fun c=>Value.int .u8 (if c%2=0 then Lib.accLo (c / 2) else Lib.accHi (c / 2))):=by kernel_rfl
theorem utf8_tabs {w:World} (h: ∀i us,List.lookup i gl=some us→ ∀(o:Nat) (u:Value),us[o]?=some u→w.cell? ⟨i,o,none⟩=some u):Lib.Utf8Tabs 2 3 w:=by
 refine ⟨fun c hc=>?_,fun i hi=>⟨?_,?_⟩⟩
 ·exact h _ _ first_gl c _ (by simp [hc])
 ·refine h _ _ accept_gl (2*i) _ ?_
  have h1:2*i<32:=by omega
  have h2:2*i%2=0:=by omega
  have h3:2*i / 2=i:=by omega
  simp [h1,h2,h3]
 ·refine h _ _ accept_gl (2*i+1) _ ?_
  have h1:2*i+1<32:=by omega
  have h2: ¬(2*i+1)%2=0:=by omega
  have h3:(2*i+1) / 2=i:=by omega
  simp only [List.getElem?_map,List.getElem?_range h1,Option.map_some,if_neg h2,h3]
theorem valid_spec (s:List UInt8) (hl:s.length≤900000):Sp Tryz.prog gl 194 [.str s] (.bool (Lib.validD s)):=by
 refine shelf_specG Tryz.func194 (by kernel_rfl) (by kernel_rfl) ?_
 intro S gb w vs hvs hag hgl
 simp only [PRlist,PR] at hvs
 obtain ⟨_,_,rfl,rfl,rfl⟩:=hvs
 have hs:(ByteArray.mk s.toArray).size≤9223372036854775807:=by
  have:(ByteArray.mk s.toArray).size=s.length:=rfl
  omega
 exact (Any.utf8_ValidString laysValid ⟨s.toArray⟩ w hs (utf8_tabs hgl)).mono fun e w' ⟨he,hw⟩=>⟨_,he,hw,by simp [PR]⟩
theorem tgood_spec (s:List UInt8) (hl:s.length≤900000):Sp Tryz.prog gl 166 [.str s] (.bool (goodR (runesL s 0))):=by
 refine s166 rfl rfl ?_
 have V:=valid_spec s hl
 rw [validD_good] at V
 generalize goodR (runesL s 0)=b at *
 simp -implicitDefEqProofs [c166]
 refine onC_mk _ (V) ?_
 simp -implicitDefEqProofs
open Go.Proofs
def lbOk (x:Lb):Bool:=nameT x.n&&(goodR (runesL x.t 0)&&decide ((runesL x.t 0).length≤120))
def lbFit (x:Lb):Prop:=x.n.length≤2000∧x.t.length≤2000
def ruFit (x:Ru):Prop:=x.n.length≤2000
structure Gl.Fit (x:Gl):Prop where
 n:x.n.length≤2000
 lb:x.lb.length≤10
 ru:x.ru.length≤10
 lbs: ∀y∈x.lb,lbFit y
 rus: ∀y∈x.ru,ruFit y
structure Cf.Fit (x:Cf):Prop where
 n:x.gs.length≤10
 gs: ∀y∈x.gs,y.Fit
def labelsP (l:List Lb):Bool:=l.all lbOk&&(decide (l.length≤4)&&uniq (l.map Lb.n))
def rulesP (l:List Ru) (g:Int):Bool:=l.all (fun r=>ruP r g)&&(btw l.length 1 4&&uniq (l.map Ru.n))
def goalP (x:Gl):Bool:=nameT x.n&&(btw x.t 1 999999&&(btw x.g 1 86400&&(btw x.a 0 86400&&(btw x.o 0 34560000&&(x.o.tmod x.g==0&&(btw x.c 0 2&&(labelsP x.lb&&rulesP x.ru x.g)))))))
theorem rows_atF {α:Type} (f:α→List AV) (l:List α) (i:Nat) (h:i<l.length): ∀h2,(l.map f)[i]'h2=f l[i]:=fun _=>by simp
theorem labels_spec (l:List Lb) (hl:l.length≤10) (hf: ∀x∈l,lbFit x):Sp Tryz.prog gl 117 [.sl (l.map Lb.row)] (.bool (labelsP l)):=by
 refine s117 rfl rfl ?_
 obtain ⟨R,hR⟩: ∃R,R=labelsP l:=⟨_,rfl⟩
 rw [←hR]
 unfold labelsP at hR
 have U:=Sp.h (d:=33) (unlL_spec l (by omega))
 have rat:=rows_atF Lb.row l
 have rl:(l.map Lb.row).length=l.length:=by simp
 have fin0:l.all lbOk=true→ ∀e,lk e 0= .sl (l.map Lb.row)→wpA (SpH Tryz.prog gl) (AC.tl 2 c117) (postA [.t 2] (.bool R)) ⟨e,[],[]⟩:=by
  intro ha e l0
  rw [ha,Bool.true_and] at hR
  generalize uniq (l.map Lb.n)=U0 at *
  generalize l.map Lb.row=RR at *
  simp only [c117,AC.tl]
  by_cases g:l.length≤4
  ·have g':(l.length:Int)≤4:=by omega
   rw [decide_eq_true g] at hR
   simp -implicitDefEqProofs [l0,rl,g',g]
   refine onH_mk _ _ (U) ⟨?_,?_,?_,?_,?_,?_,?_⟩ ?_
   iterate 7 (· simp)
   simp -implicitDefEqProofs [hR]
  ·have g': ¬(l.length:Int)≤4:=by omega
   rw [decide_eq_false g] at hR
   simp -implicitDefEqProofs [l0,rl,g',g,hR]
 have ec:c117=AC.cutAt 2 (AC.tl 2 c117) c117:=rfl
 rw [ec]
 generalize AC.tl 2 c117=T at fin0 ⊢
 generalize uniq (l.map Lb.n)=U0 at *
 generalize l.map Lb.row=RR at *
 simp only [c117,AC.cutAt]
 simp -implicitDefEqProofs [rl]
 refine wp_lpk (α:=Nat) (fun i=>⟨[(0,.sl RR),(5,.sl RR),(6,i6 l.length),(7,i6 i)],[],[]⟩) (fun i=>i≤l.length∧(l.drop i).all lbOk=l.all lbOk) (fun i=>l.length - i) ?_ 0 ?_ ?_
 ·rintro K i hK ⟨h1,h2⟩
  by_cases g:i<l.length
  ·have t1:IntKind.i64.wrap ((i:Int)+1)=(i+1:Nat):=by rw [wrap_i64]<;>omega
   have ra:=rat i g
   have gR:i<RR.length:=by omega
   rw [List.drop_eq_getElem_cons g,List.all_cons] at h2
   have fin:lbOk l[i]=true→ ∀σ',Weak σ' ⟨[(0,.sl RR),(5,.sl RR),(6,i6 l.length),(7,i6 (i+1:Nat))],[],[]⟩→K σ':=fun hd σ' hσ=>hK (i+1) σ' ⟨by omega,by rw [hd,Bool.true_and] at h2;exact h2⟩ (by omega) hσ
   have hfi:=hf l[i] (List.getElem_mem _)
   have N:=tname_spec l[i].n (by have:=hfi.1;omega)
   have G:=tgood_spec l[i].t (by have:=hfi.2;omega)
   have C:=tcount_spec l[i].t (by have:=hfi.2;omega)
   have hno:lbOk l[i]=false→R=false:=fun h=>by rw [h,Bool.false_and] at h2;rw [hR,←h2];rfl
   unfold lbOk at fin hno
   clear hK h2 hR fin0 rat hf U
   generalize l[i]=x at *
   obtain ⟨xn,xt⟩:=x
   simp only [Lb.row] at *
   generalize nameT xn=b1 at *
   generalize goodR (runesL xt 0)=b2 at *
   generalize (runesL xt 0).length=c at *
   by_cases hc:c≤120
   ·have hc': ¬(120:Int)<c:=by omega
    have hc2: ¬120<c:=by omega
    rw [decide_eq_true hc] at fin hno
    simp -implicitDefEqProofs [g,gR,ra]
    repeat' first
     |(refine onC_mk _ (N) ?_;simp -implicitDefEqProofs [hc',hc2])
     |(refine onC_mk _ (G) ?_;simp -implicitDefEqProofs [hc',hc2])
     |(refine onC_mk _ (C) ?_;simp -implicitDefEqProofs [hc',hc2])
     |(refine onB_mk (fun h=>?_) (fun h=>?_)<;>(try simp only [Bool.not_eq_true',Bool.not_eq_false',decide_eq_true_eq,decide_eq_false_iff_not] at h)<;>simp -implicitDefEqProofs [h,hc',hc2])
    all_goals first
     |(refine fin (by simp [*]) _ (weak_mk ?_ ?_ ?_ ?_ ?_ ?_)<;>simp -implicitDefEqProofs [t1])
     |(rw [hno (by simp [*])])
   ·have hc':(120:Int)<c:=by omega
    have hc2:120<c:=by omega
    rw [decide_eq_false hc] at fin hno
    simp -implicitDefEqProofs [g,gR,ra]
    repeat' first
     |(refine onC_mk _ (N) ?_;simp -implicitDefEqProofs [hc',hc2])
     |(refine onC_mk _ (G) ?_;simp -implicitDefEqProofs [hc',hc2])
     |(refine onC_mk _ (C) ?_;simp -implicitDefEqProofs [hc',hc2])
     |(refine onB_mk (fun h=>?_) (fun h=>?_)<;>(try simp only [Bool.not_eq_true',Bool.not_eq_false',decide_eq_true_eq,decide_eq_false_iff_not] at h)<;>simp -implicitDefEqProofs [h,hc',hc2])
    all_goals (rw [hno (by simp [*])])
  ·obtain rfl:i=l.length:=by omega
   rw [List.drop_length] at h2
   have fin0:=fin0 (by rw [←h2];rfl)
   clear hK
   simp -implicitDefEqProofs
   refine fin0 _ ?_
   simp -implicitDefEqProofs
 ·exact ⟨Nat.zero_le _,rfl⟩
 ·refine weak_mk ?_ ?_ ?_ ?_ ?_ ?_<;>simp -implicitDefEqProofs [rl]
open Go.Proofs
theorem rules_spec (l:List Ru) (gr:Int) (hl:l.length≤10) (hf: ∀x∈l,ruFit x):Sp Tryz.prog gl 118 [.sl (l.map Ru.row),i6 gr] (.bool (rulesP l gr)):=by
 refine s118 rfl rfl ?_
 obtain ⟨R,hR⟩: ∃R,R=rulesP l gr:=⟨_,rfl⟩
 rw [←hR]
 unfold rulesP at hR
 have U:=Sp.h (d:=23) (unlR_spec l (by omega))
 have B:=btwI_spec l.length 1 4
 have rat:=rows_atF Ru.row l
 have rl:(l.map Ru.row).length=l.length:=by simp
 have fin0:(l.all fun r=>ruP r gr)=true→ ∀e,lk e 0= .sl (l.map Ru.row)→wpA (SpH Tryz.prog gl) (AC.tl 2 c118) (postA [.t 4] (.bool R)) ⟨e,[],[]⟩:=by
  intro ha e l0
  rw [ha,Bool.true_and] at hR
  generalize uniq (l.map Ru.n)=U0 at *
  generalize l.map Ru.row=RR at *
  generalize btw l.length 1 4=b at *
  simp only [c118,AC.tl]
  cases b
  ·simp [l0,rl]
   refine onC_mk _ (B) ?_
   simp -implicitDefEqProofs [hR]
  ·simp [l0,rl]
   refine onC_mk _ (B) ?_
   simp -implicitDefEqProofs [l0]
   refine onH_mk _ _ (U) ⟨?_,?_,?_,?_,?_,?_,?_⟩ ?_
   iterate 7 (· simp)
   simp -implicitDefEqProofs [hR]
 have ec:c118=AC.cutAt 2 (AC.tl 2 c118) c118:=rfl
 rw [ec]
 generalize AC.tl 2 c118=T at fin0 ⊢
 generalize uniq (l.map Ru.n)=U0 at *
 generalize l.map Ru.row=RR at *
 simp only [c118,AC.cutAt]
 simp -implicitDefEqProofs [rl]
 refine wp_lpk (α:=Nat) (fun i=>⟨[(0,.sl RR),(1,i6 gr),(7,.sl RR),(8,i6 l.length),(9,i6 i)],[],[]⟩) (fun i=>i≤l.length∧((l.drop i).all fun r=>ruP r gr)=l.all fun r=>ruP r gr) (fun i=>l.length - i) ?_ 0 ?_ ?_
 ·rintro K i hK ⟨h1,h2⟩
  by_cases g:i<l.length
  ·have t1:IntKind.i64.wrap ((i:Int)+1)=(i+1:Nat):=by rw [wrap_i64]<;>omega
   have ra:=rat i g
   have gR:i<RR.length:=by omega
   rw [List.drop_eq_getElem_cons g,List.all_cons] at h2
   have fin:ruP l[i] gr=true→ ∀σ',Weak σ' ⟨[(0,.sl RR),(1,i6 gr),(7,.sl RR),(8,i6 l.length),(9,i6 (i+1:Nat))],[],[]⟩→K σ':=fun hd σ' hσ=>hK (i+1) σ' ⟨by omega,by rw [hd,Bool.true_and] at h2;exact h2⟩ (by omega) hσ
   have hfi:=hf l[i] (List.getElem_mem _)
   have Q:=rru_spec l[i] gr (by have:l[i].n.length≤2000:=hfi;omega)
   have hno:ruP l[i] gr=false→R=false:=fun h=>by rw [h,Bool.false_and] at h2;rw [hR,←h2];rfl
   have hrl:(l[i].row).length=7:=rfl
   have hs:shutL l[i].row=some l[i].row:=rfl
   clear hK h2 hR fin0 rat hf U B
   generalize ruP l[i] gr=b1 at *
   generalize l[i].row=x at *
   have e7:List.take 7 x=x:=List.take_of_length_le (by omega)
   cases b1
   ·rw [hno rfl]
    simp -implicitDefEqProofs [g,gR,ra,hrl,e7,hs]
    refine onC_mk _ (Q) ?_
    simp -implicitDefEqProofs
   ·have fin:=fin rfl
    simp -implicitDefEqProofs [g,gR,ra,hrl,e7,hs]
    refine onC_mk _ (Q) ?_
    simp -implicitDefEqProofs
    refine fin _ ?_
    refine weak_mk ?_ ?_ ?_ ?_ ?_ ?_<;>simp -implicitDefEqProofs [t1]
  ·obtain rfl:i=l.length:=by omega
   rw [List.drop_length] at h2
   have fin0:=fin0 (by rw [←h2];rfl)
   clear hK
   simp -implicitDefEqProofs
   refine fin0 _ ?_
   simp -implicitDefEqProofs
 ·exact ⟨Nat.zero_le _,rfl⟩
 ·refine weak_mk ?_ ?_ ?_ ?_ ?_ ?_<;>simp -implicitDefEqProofs [rl]
theorem goal_spec (x:Gl) (hf:x.Fit):Sp Tryz.prog gl 71 [.agg x.row] (.bool (goalP x)):=by
 refine s71 rfl rfl ?_
 have N:=tname_spec x.n (by have:=hf.n;omega)
 have L:=labels_spec x.lb hf.lb hf.lbs
 have Q:=rules_spec x.ru x.g hf.ru hf.rus
 obtain ⟨nm,t,g,a,o,c,lb,ru⟩:=x
 have hR:goalP ⟨nm,t,g,a,o,c,lb,ru⟩=(nameT nm&&(btw t 1 999999&&(btw g 1 86400&&(btw a 0 86400&&(btw o 0 34560000&&(o.tmod g==0&&(btw c 0 2&&(labelsP lb&&rulesP ru g)))))))):=rfl
 simp only [Gl.row] at N L Q ⊢
 clear hf
 have B1:Sp Tryz.prog gl 114 [.int .u32 t,.int .u32 1,.int .u32 999999] (.bool (btw t 1 999999)):=between3_spec t 1 999999
 have B2:=between6_spec g 1 86400
 have B3:=between6_spec a 0 86400
 have B4:=between6_spec o 0 34560000
 have B5:=btwI_spec c 0 2
 generalize goalP ⟨nm,t,g,a,o,c,lb,ru⟩=R at *
 generalize nameT nm=b0 at *
 generalize labelsP lb=b6 at *
 generalize rulesP ru g=b7 at *
 generalize lb.map Lb.row=LB at *
 generalize ru.map Ru.row=RU at *
 generalize x1:btw (t:Int) 1 999999=b1 at *
 generalize x3:btw a 0 86400=b3 at *
 generalize x4:btw o 0 34560000=b4 at *
 generalize x5:btw c 0 2=b5 at *
 by_cases g0:1≤g∧g≤86400
 ·have e2:btw g 1 86400=true:=decide_eq_true g0
  have g1: ¬g=0:=by omega
  rw [e2] at B2 hR
  clear x1 x3 x4 x5 e2
  simp -implicitDefEqProofs [c71]
  repeat' first
   |(refine onC_mk _ (N) ?_;simp -implicitDefEqProofs [g1])
   |(refine onC_mk _ (B1) ?_;simp -implicitDefEqProofs [g1])
   |(refine onC_mk _ (B2) ?_;simp -implicitDefEqProofs [g1])
   |(refine onC_mk _ (B3) ?_;simp -implicitDefEqProofs [g1])
   |(refine onC_mk _ (B4) ?_;simp -implicitDefEqProofs [g1])
   |(refine onC_mk _ (B5) ?_;simp -implicitDefEqProofs [g1])
   |(refine onC_mk _ (L) ?_;simp -implicitDefEqProofs [g1])
   |(refine onC_mk _ (Q) ?_;simp -implicitDefEqProofs [g1])
   |(refine onB_mk (fun h=>?_) (fun h=>?_)<;>(try simp only [Bool.not_eq_true',Bool.not_eq_false',decide_eq_true_eq,decide_eq_false_iff_not] at h)<;>simp -implicitDefEqProofs [h,g1])
  all_goals first
   |(rw [hR];simp [*];done)
   |(rw [hR];simp_all)
 ·have e2:btw g 1 86400=false:=decide_eq_false g0
  rw [e2] at B2 hR
  clear x1 x3 x4 x5 e2
  simp -implicitDefEqProofs [c71]
  repeat' first
   |(refine onC_mk _ (N) ?_;simp -implicitDefEqProofs [])
   |(refine onC_mk _ (B1) ?_;simp -implicitDefEqProofs [])
   |(refine onC_mk _ (B2) ?_;simp -implicitDefEqProofs [])
   |(refine onB_mk (fun h=>?_) (fun h=>?_)<;>(try simp only [Bool.not_eq_true',Bool.not_eq_false',decide_eq_true_eq,decide_eq_false_iff_not] at h)<;>simp -implicitDefEqProofs [h])
  all_goals (rw [hR];simp [*])
end Go.Ai
