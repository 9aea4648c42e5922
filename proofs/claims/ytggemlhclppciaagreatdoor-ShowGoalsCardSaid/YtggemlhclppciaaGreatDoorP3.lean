/- P3: a part of the proof: the rules, or what functions compute. Conditions: as each theorem says. -/
import Derived.Test.YtggemlhclppciaaGreatDoorP2
import Derived.Lib.TrimUEq
import Derived.Lib.ValidU
import Derived.Lib.MapLaws
import Derived.Test.YtggemlhclppciaaGreatDoorP1
import Derived.Test.YtggemlhclppciaaGreatDoorLib11
import Derived.Test.YtggemlhclppciaaGreatDoorLib7
import Derived.Test.YtggemlhclppciaaGreatDoorLib10
set_option linter.unusedSimpArgs false
set_option linter.unusedVariables false
set_option maxRecDepth 20000
namespace Go.Ai
open Go.Proofs
def btw (n lo hi:Int):Bool:=decide (lo≤n∧n≤hi)
theorem btw_and (n lo hi:Int):btw n lo hi=(decide (lo≤n)&&decide (n≤hi)):=by simp [btw]
theorem btwI_spec (n lo hi:Int):Sp Tryz.prog gl 54 [i6 n,i6 lo,i6 hi] (.bool (btw n lo hi)):=by
 refine s54 rfl rfl ?_
 rw [btw_and]
 simp -implicitDefEqProofs [c54]
 refine onB_dec (fun h=>?_) (fun h=>?_)<;>simp -implicitDefEqProofs [h]
theorem between6_spec (n lo hi:Int):Sp Tryz.prog gl 53 [i6 n,i6 lo,i6 hi] (.bool (btw n lo hi)):=by
 refine s53 rfl rfl ?_
 rw [btw_and]
 simp -implicitDefEqProofs [c53]
 refine onB_dec (fun h=>?_) (fun h=>?_)<;>simp -implicitDefEqProofs [h]
theorem betweenU_spec (n lo hi:Nat):Sp Tryz.prog gl 61 [u n,u lo,u hi] (.bool (btw n lo hi)):=by
 refine s61 rfl rfl ?_
 rw [btw_and]
 simp -implicitDefEqProofs [c61]
 refine onB_dec (fun h=>?_) (fun h=>?_)<;>simp -implicitDefEqProofs [h]
theorem between3_spec (n lo hi:Nat):Sp Tryz.prog gl 52 [.int .u32 n,.int .u32 lo,.int .u32 hi] (.bool (btw n lo hi)):=by
 refine s52 rfl rfl ?_
 rw [btw_and]
 simp -implicitDefEqProofs [c52]
 refine onB_dec (fun h=>?_) (fun h=>?_)<;>simp -implicitDefEqProofs [h]
theorem rin_spec (n lo hi:Int):Sp Tryz.prog gl 58 [i6 n,i6 lo,i6 hi] (.bool (btw n lo hi)):=by
 refine s58 rfl rfl ?_
 rw [btw_and]
 simp -implicitDefEqProofs [c58]
 refine onB_dec (fun h=>?_) (fun h=>?_)<;>simp -implicitDefEqProofs [h]
def ruP (r:Ru) (g:Int):Bool:=decide (0<g)&&(btw r.s 1 r.l&&(btw r.l 1 34560000&&(nameT r.n&&(r.l.tmod g==0&&(r.s.tmod g==0&&(btw r.f 1 1000000&&(btw r.w 0 604800&&btw r.k 0 604800)))))))
theorem rru_spec (r:Ru) (g:Int) (hn:r.n.length≤900000):Sp Tryz.prog gl 29 [.agg r.row,i6 g] (.bool (ruP r g)):=by
 refine s29 rfl rfl ?_
 have N:=tname_spec r.n hn
 obtain ⟨nm,p,l,s,f,w,k⟩:=r
 have hR:ruP ⟨nm,p,l,s,f,w,k⟩ g=(decide (0<g)&&(btw s 1 l&&(btw l 1 34560000&&(nameT nm&&(l.tmod g==0&&(s.tmod g==0&&(btw f 1 1000000&&(btw w 0 604800&&btw k 0 604800)))))))):=rfl
 simp only [Ru.row] at N ⊢
 generalize ruP ⟨nm,p,l,s,f,w,k⟩ g=R at *
 generalize nameT nm=T at *
 have B1:=between6_spec s 1 l
 have B2:=between6_spec l 1 34560000
 have B3:Sp Tryz.prog gl 61 [u f,.int .u64 1,.int .u64 1000000] (.bool (btw f 1 1000000)):=betweenU_spec f 1 1000000
 have B4:=between6_spec w 0 604800
 have B5:=between6_spec k 0 604800
 generalize x1:btw s 1 l=b1 at *
 generalize x2:btw l 1 34560000=b2 at *
 generalize x3:btw (f:Int) 1 1000000=b3 at *
 generalize x4:btw w 0 604800=b4 at *
 generalize x5:btw k 0 604800=b5 at *
 by_cases g0:0<g
 ·have g1: ¬g=0:=by omega
  rw [decide_eq_true g0] at hR
  clear x1 x2 x3 x4 x5
  simp -implicitDefEqProofs [c29,g0,g1]
  repeat' first
   |(refine onC_mk _ (B1) ?_;simp -implicitDefEqProofs [g1])
   |(refine onC_mk _ (B2) ?_;simp -implicitDefEqProofs [g1])
   |(refine onC_mk _ (N) ?_;simp -implicitDefEqProofs [g1])
   |(refine onC_mk _ (B3) ?_;simp -implicitDefEqProofs [g1])
   |(refine onC_mk _ (B4) ?_;simp -implicitDefEqProofs [g1])
   |(refine onC_mk _ (B5) ?_;simp -implicitDefEqProofs [g1])
   |(refine onB_mk (fun h=>?_) (fun h=>?_)<;>(try simp only [Bool.not_eq_true',Bool.not_eq_false',decide_eq_true_eq,decide_eq_false_iff_not] at h)<;>simp -implicitDefEqProofs [h,g1])
  all_goals (rw [hR];simp [*])
 ·rw [decide_eq_false g0] at hR
  simp -implicitDefEqProofs [c29,g0]
  rw [hR];simp
open Go.Proofs
theorem stepF_bad (s:List UInt8) (i n r0 least:Nat) (h:(stepF s i n r0 least).1= -1):(stepF s i n r0 least).2=1:=by
 unfold stepF at h ⊢
 split
 ·rename_i hc
  rw [if_pos hc] at h
  simp only at h
  omega
 ·rfl
theorem stepR_bad (s:List UInt8) (i:Nat) (h:(stepR s i).1= -1):(stepR s i).2=1:=by
 unfold stepR at h ⊢
 simp only at h ⊢
 repeat' split
 all_goals first
  |rfl
  |(simp_all;done)
  |(simp_all;exact stepF_bad _ _ _ _ _ (by assumption))
theorem stepF_one (s:List UInt8) (i n r0 least:Nat) (hn:1≤n) (h:(stepF s i n r0 least).1≠ -1):(stepF s i n r0 least).2≠1:=by
 unfold stepF at h ⊢
 split
 ·simp only;omega
 ·rename_i hc
  rw [if_neg hc] at h
  exact absurd rfl h
theorem stepR_one (s:List UInt8) (i:Nat) (h:(stepR s i).1≠ -1) (h1:(stepR s i).2=1):(stepR s i).1<128:=by
 by_cases hb:byt s i<128
 ·unfold stepR
  simp only [hb,if_true];omega
 ·exfalso
  unfold stepR at h h1
  simp only [hb,if_false] at h h1
  split at h
  ·rename_i q;rw [if_pos q] at h1;exact stepF_one _ _ _ _ _ (by omega) h h1
  ·rename_i q;rw [if_neg q] at h1
   split at h
   ·rename_i q;rw [if_pos q] at h1;exact stepF_one _ _ _ _ _ (by omega) h h1
   ·rename_i q;rw [if_neg q] at h1
    split at h
    ·rename_i q;rw [if_pos q] at h1;exact stepF_one _ _ _ _ _ (by omega) h h1
    ·exact absurd rfl h
theorem rune_w (s:List UInt8) (i:Nat) (h:i<s.length):(runeAt s i).2=(stepR s i).2:=by
 rw [step_rune s i h]
 split
 ·rename_i hb;rw [stepR_bad s i hb]
 ·rfl
def goodR (l:List Int):Bool:=l.all fun r=>decide (0≤r)
theorem stepF_nn (s:List UInt8) (i n r0 least:Nat):(stepF s i n r0 least).1= -1∨0≤(stepF s i n r0 least).1:=by
 unfold stepF
 split
 ·right;simp only;omega
 ·left;rfl
theorem stepR_nn (s:List UInt8) (i:Nat):(stepR s i).1= -1∨0≤(stepR s i).1:=by
 unfold stepR
 simp only
 repeat' split
 all_goals first
  |exact stepF_nn _ _ _ _ _
  |(left;rfl)
  |(right;simp only;omega)
theorem decodeL_at (s:List UInt8) (i:Nat):runeAt s i=(((Lib.decodeL (s.drop i)).1:Int),(Lib.decodeL (s.drop i)).2):=by
 have:=Lib.decodeL_drop ⟨s.toArray⟩ i
 simp only at this
 rw [this]
 rfl
theorem good_go (s:List UInt8): ∀(n i:Nat),s.length - i≤n→Lib.validGoD n (s.drop i)=goodR (runesL s i)
 |0,i,h=>by
  rw [runesL_out (by omega)];rfl
 |n+1,i,h=>by
  by_cases g:i<s.length
  ·have hne:s.drop i≠[]:=by
    intro e
    have:=congrArg List.length e
    rw [List.length_drop] at this
    simp at this;omega
   have sr:=step_rune s i g
   have da:=decodeL_at s i
   rw [da] at sr
   simp only [Lib.validGoD,if_neg hne]
   rw [runesL_in g]
   have pos:=stepR_pos s i
   by_cases hb:(stepR s i).1= -1
   ·rw [if_pos hb] at sr
    simp only [Prod.mk.injEq] at sr
    rw [if_pos ⟨by omega,sr.2⟩]
    simp [goodR,hb]
   ·rw [if_neg hb] at sr
    have e1:((Lib.decodeL (s.drop i)).1:Int)=(stepR s i).1:=congrArg Prod.fst sr
    have e2:(Lib.decodeL (s.drop i)).2=(stepR s i).2:=congrArg Prod.snd sr
    rw [if_neg (by
     rintro ⟨q1,q2⟩
     have:=stepR_one s i hb (by omega)
     omega)]
    rw [List.drop_drop,e2,good_go s n (i+(stepR s i).2) (by omega)]
    have h0:0≤(stepR s i).1:=by rcases stepR_nn s i with h|h;exact absurd h hb;exact h
    simp [goodR,h0]
  ·have e:s.drop i=[]:=List.drop_eq_nil_of_le (by omega)
   simp only [Lib.validGoD,e,if_true]
   rw [runesL_out g];rfl
theorem validD_good (s:List UInt8):Lib.validD s=goodR (runesL s 0):=by
 have:=good_go s s.length 0 (by omega)
 rwa [List.drop_zero] at this
theorem rgood_spec (s:List UInt8) (hl:s.length≤900000):Sp Tryz.prog gl 59 [.str s] (.bool (goodR (runesL s 0))):=by
 refine s59 rfl rfl ?_
 have R:=runes_spec s hl
 have len:=runesL_len s s.length 0 (by omega)
 have rl:=runeRows_len (runesL s 0)
 have rat: ∀i (h:i<(runesL s 0).length),(runeRows (runesL s 0))[i]?=some [.int .i32 (runesL s 0)[i]]:=by intro i h;simp [runeRows,i3,h]
 generalize runesL s 0=L at *
 obtain ⟨G,hG⟩: ∃G,G=goodR L:=⟨_,rfl⟩
 rw [←hG]
 generalize runeRows L=RR at *
 simp -implicitDefEqProofs [c59]
 refine onC_mk _ (R) ?_
 simp -implicitDefEqProofs
 refine wp_lpk (α:=Nat) (fun i=>⟨[(3,.sl RR),(4,i6 i)],[],[]⟩) (fun i=>i≤L.length∧goodR (L.drop i)=G) (fun i=>L.length - i) ?_ 0 ?_ ?_
 ·rintro K i hK ⟨h1,h2⟩
  by_cases g:i<L.length
  ·have t1:IntKind.i64.wrap ((i:Int)+1)=(i+1:Nat):=by rw [wrap_i64]<;>omega
   have ra:=rat i g
   rw [List.drop_eq_getElem_cons g] at h2
   simp only [goodR,List.all_cons] at h2
   have gR:i<RR.length:=by omega
   have ra': ∀h,RR[i]'h=[.int .i32 L[i]]:=fun h=>by rw [List.getElem?_eq_getElem h] at ra;exact Option.some.inj ra
   have fin:decide (0≤L[i])=true→ ∀σ',Weak σ' ⟨[(3,.sl RR),(4,i6 (i+1:Nat))],[],[]⟩→K σ':=fun hd σ' hσ=>hK (i+1) σ' ⟨by omega,by rw [hd,Bool.true_and] at h2;exact h2⟩ (by omega) hσ
   generalize L[i]=r at *
   by_cases hr:r<0
   ·rw [decide_eq_false (by omega),Bool.false_and] at h2
    subst h2
    simp -implicitDefEqProofs [rl,g,gR,ra',hr]
   ·have fin:=fin (decide_eq_true (by omega))
    clear hK
    simp -implicitDefEqProofs [rl,g,gR,ra',hr]
    refine fin _ (weak_mk ?_ ?_ ?_ ?_ ?_ ?_)<;>simp -implicitDefEqProofs [t1]
  ·obtain rfl:i=L.length:=by omega
   rw [List.drop_length] at h2
   have:G=true:=by rw [←h2];rfl
   subst this
   simp -implicitDefEqProofs [rl]
 ·exact ⟨Nat.zero_le _,hG.symm⟩
 ·refine weak_mk ?_ ?_ ?_ ?_ ?_ ?_<;>simp -implicitDefEqProofs
theorem tcount_spec (s:List UInt8) (hl:s.length≤900000):Sp Tryz.prog gl 86 [.str s] (i6 (runesL s 0).length):=by
 refine s86 rfl rfl ?_
 obtain ⟨R,hR⟩: ∃R,R=(runesL s 0).length:=⟨_,rfl⟩
 rw [←hR]
 simp -implicitDefEqProofs [c86]
 refine wp_lpk (α:=Nat×Nat) (fun x=>⟨[(3,i6 x.2),(5,.itp 5)],[(.it 5,[.itr s x.1])],[]⟩)
  (fun x=>x.2≤x.1∧x.2+(runesL s x.1).length=R∧x.1≤s.length+3) (fun x=>s.length+4 - x.1) ?_ (0,0) ?_ ?_
 ·rintro K ⟨i,n⟩ hK ⟨h1,h2,h3⟩
  simp only at h1 h2 h3
  by_cases g:i<s.length
  ·rw [runesL_in g] at h2
   simp only [List.length_cons] at h2
   have sw:=rune_w s i g
   have sl:=stepR_lt g
   have sp:=stepR_pos s i
   have fin: ∀σ',Weak σ' ⟨[(3,i6 (n+1:Nat)),(5,.itp 5)],[(.it 5,[.itr s (i+(stepR s i).2)])],[]⟩→K σ':=
    fun σ' hσ=>hK (i+(stepR s i).2,n+1) σ' ⟨by simp only;omega,by simp only;omega,by simp only;omega⟩ (by simp only;omega) hσ
   have t1:IntKind.i64.wrap ((n:Int)+1)=(n+1:Nat):=by rw [wrap_i64]<;>omega
   clear hK hR h2
   simp -implicitDefEqProofs [g,sw]
   refine fin _ (weak_mk ?_ ?_ ?_ ?_ ?_ ?_)<;>simp -implicitDefEqProofs [t1]
  ·rw [runesL_out g] at h2
   have:n=R:=by simpa using h2
   subst this
   simp -implicitDefEqProofs [g]
 ·exact ⟨Nat.le_refl _,by simp [hR],by simp⟩
 ·refine weak_mk ?_ ?_ ?_ ?_ ?_ ?_<;>simp -implicitDefEqProofs
open Go.Proofs
theorem first_gl:List.lookup 0 gl=some ((List.range 256).map fun c=>Value.int .u8 (Lib.firstT c)):=by kernel_rfl
theorem accept_gl:List.lookup 1 gl=some ((List.range 32).map fun c=>Value.int .u8 (if c%2=0 then Lib.accLo (c / 2) else Lib.accHi (c / 2))):=by kernel_rfl
theorem utf8_tabs {w:World} (h: ∀i us,List.lookup i gl=some us→ ∀(o:Nat) (u:Value),us[o]?=some u→w.cell? ⟨i,o,none⟩=some u):Lib.Utf8Tabs 0 1 w:=by
 refine ⟨fun c hc=>?_,fun i hi=>⟨?_,?_⟩⟩
 ·exact h _ _ first_gl c _ (by simp [hc])
 ·refine h _ _ accept_gl (2*i) _ ?_
  have h1:2*i<32:=by omega
  have h2:2*i%2=0:=by omega
  have h3:2*i / 2=i:=by omega
  simp [h1,h2,h3]
 ·refine h _ _ accept_gl (2*i+1) _ ?_
  have h1:2*i+1<32:=by omega
  have h2: ¬(2*i+1)%2=0:=by omega
  have h3:(2*i+1) / 2=i:=by omega
  simp only [List.getElem?_map,List.getElem?_range h1,Option.map_some,if_neg h2,h3]
theorem valid_spec (s:List UInt8) (hl:s.length≤900000):Sp Tryz.prog gl 123 [.str s] (.bool (Lib.validD s)):=by
 refine shelf_specG Tryz.func123 (by kernel_rfl) (by kernel_rfl) ?_
 intro S gb w vs hvs hag hgl
 simp only [PRlist,PR] at hvs
 obtain ⟨_,_,rfl,rfl,rfl⟩:=hvs
 have hs:(ByteArray.mk s.toArray).size≤9223372036854775807:=by
  have:(ByteArray.mk s.toArray).size=s.length:=rfl
  omega
 exact (Any.utf8_ValidString laysValid ⟨s.toArray⟩ w hs (utf8_tabs hgl)).mono fun e w' ⟨he,hw⟩=>⟨_,he,hw,by simp [PR]⟩
theorem tgood_spec (s:List UInt8) (hl:s.length≤900000):Sp Tryz.prog gl 85 [.str s] (.bool (goodR (runesL s 0))):=by
 refine s85 rfl rfl ?_
 have V:=valid_spec s hl
 rw [validD_good] at V
 generalize goodR (runesL s 0)=b at *
 simp -implicitDefEqProofs [c85]
 refine onC_mk _ (V) ?_
 simp -implicitDefEqProofs
open Go.Proofs
def tkR (k:Int) (s:List UInt8) (n:Nat):Bool:=
 if k=1 then nameT s&&decide (n=0)
 else if k=2 then goodR (runesL s 0)&&(decide ((runesL s 0).length≤120)&&decide (n=0))
 else if k=3∨k=4 then s==[]
 else if k=5 then (s==[])&&decide (n≤1000000)
 else if k=6 then (s==[])&&decide (n≤253402300799)
 else if k=0∨k=7∨k=8∨k=9 then (s==[])&&decide (n=0)
 else false
def tkA (k:Int) (s:List UInt8) (n:Nat) (l c:Int):AV:= .agg [i6 k,.str s,u n,i6 l,i6 c]
theorem sright_1 (s:List UInt8) (n:Nat) (l c:Int) (hl:s.length≤900000):Sp Tryz.prog gl 66 [tkA 1 s n l c] (.bool (nameT s&&decide (n=0))):=by
 refine s66 rfl rfl ?_
 have NM:=tname_spec s hl
 unfold tkA
 cases hb:nameT s
 ·rw [hb] at NM
  rw [Bool.false_and]
  simp -implicitDefEqProofs [c66]
  refine onC_mk _ (NM) ?_
  simp -implicitDefEqProofs
 ·rw [hb] at NM
  rw [Bool.true_and]
  by_cases n0:n=0
  ·subst n0
   rw [decide_eq_true (rfl:(0:Nat)=0)]
   simp -implicitDefEqProofs [c66]
   refine onC_mk _ (NM) ?_
   simp -implicitDefEqProofs
  ·have n1:((n:Int)==0)=false:=beq_eq_false_iff_ne.2 (by omega)
   have n2: ¬(n:Int)=0:=by omega
   rw [decide_eq_false n0]
   simp -implicitDefEqProofs [c66]
   refine onC_mk _ (NM) ?_
   simp -implicitDefEqProofs [n1,n2]
theorem sright_2 (s:List UInt8) (n:Nat) (l c:Int) (hl:s.length≤900000):Sp Tryz.prog gl 66 [tkA 2 s n l c] (.bool (goodR (runesL s 0)&&(decide ((runesL s 0).length≤120)&&decide (n=0)))):=by
 refine s66 rfl rfl ?_
 have GD:=tgood_spec s hl
 have RS:=tcount_spec s hl
 unfold tkA
 generalize (runesL s 0).length=rn at *
 cases hb:goodR (runesL s 0)
 ·rw [hb] at GD
  rw [Bool.false_and]
  simp -implicitDefEqProofs [c66]
  refine onC_mk _ (GD) ?_
  simp -implicitDefEqProofs
 rw [hb] at GD
 rw [Bool.true_and]
 by_cases hr:rn≤120
 ·have hr':(rn:Int)≤120:=by omega
  rw [decide_eq_true hr,Bool.true_and]
  by_cases n0:n=0
  ·subst n0
   rw [decide_eq_true (rfl:(0:Nat)=0)]
   simp -implicitDefEqProofs [c66]
   refine onC_mk _ (GD) ?_
   simp -implicitDefEqProofs
   refine onC_mk _ (RS) ?_
   simp -implicitDefEqProofs [hr,hr']
  ·have n1:((n:Int)==0)=false:=beq_eq_false_iff_ne.2 (by omega)
   have n2: ¬(n:Int)=0:=by omega
   rw [decide_eq_false n0]
   simp -implicitDefEqProofs [c66]
   refine onC_mk _ (GD) ?_
   simp -implicitDefEqProofs
   refine onC_mk _ (RS) ?_
   simp -implicitDefEqProofs [hr,hr',n1,n2]
 ·have hr': ¬(rn:Int)≤120:=by omega
  rw [decide_eq_false hr,Bool.false_and]
  simp -implicitDefEqProofs [c66]
  refine onC_mk _ (GD) ?_
  simp -implicitDefEqProofs
  refine onC_mk _ (RS) ?_
  simp -implicitDefEqProofs [hr,hr']
theorem sright_3 (k:Int) (hk:k=3) (s:List UInt8) (n:Nat) (l c:Int):Sp Tryz.prog gl 66 [tkA k s n l c] (.bool (s==[])):=by
 refine s66 rfl rfl ?_
 unfold tkA
 have d1:(k==1)=false:=by subst hk;decide
 have d2:(k==2)=false:=by subst hk;decide
 have d3:(k==3)=true:=by subst hk;decide
 clear hk
 by_cases e:s=[]
 ·subst e
  rw [show (([]:List UInt8)==[])=true from rfl]
  simp -implicitDefEqProofs [c66,d1,d2]
  refine onB_mk (fun _=>?_) (fun h=>by rw [d3] at h;cases h)
  simp -implicitDefEqProofs
  refine onB_mk (fun _=>?_) (fun h=>by rw [d3] at h;cases h)
  simp -implicitDefEqProofs
 ·have en:(s==[])=false:=beq_eq_false_iff_ne.2 e
  rw [en]
  simp -implicitDefEqProofs [c66,d1,d2]
  refine onB_mk (fun _=>?_) (fun h=>by rw [d3] at h;cases h)
  simp -implicitDefEqProofs
  refine onB_mk (fun _=>?_) (fun h=>by rw [d3] at h;cases h)
  simp -implicitDefEqProofs [e,en]
theorem sright_4 (k:Int) (hk:k=4) (s:List UInt8) (n:Nat) (l c:Int):Sp Tryz.prog gl 66 [tkA k s n l c] (.bool (s==[])):=by
 refine s66 rfl rfl ?_
 unfold tkA
 have d1:(k==1)=false:=by subst hk;decide
 have d2:(k==2)=false:=by subst hk;decide
 have d3:(k==3)=false:=by subst hk;decide
 have d4:(k==4)=true:=by subst hk;decide
 clear hk
 by_cases e:s=[]
 ·subst e
  rw [show (([]:List UInt8)==[])=true from rfl]
  simp -implicitDefEqProofs [c66,d1,d2,d3,d4]
 ·have en:(s==[])=false:=beq_eq_false_iff_ne.2 e
  rw [en]
  simp -implicitDefEqProofs [c66,d1,d2,d3,d4,e,en]
theorem sright_5 (k:Int) (hk:k=5) (s:List UInt8) (n:Nat) (l c:Int):Sp Tryz.prog gl 66 [tkA k s n l c] (.bool ((s==[])&&decide (n≤1000000))):=by
 refine s66 rfl rfl ?_
 unfold tkA
 have d1:(k==1)=false:=by subst hk;decide
 have d2:(k==2)=false:=by subst hk;decide
 have d3:(k==3)=false:=by subst hk;decide
 have d4:(k==4)=false:=by subst hk;decide
 have d5:(k==5)=true:=by subst hk;decide
 clear hk
 by_cases e:s=[]
 ·subst e
  rw [show (([]:List UInt8)==[])=true from rfl,Bool.true_and]
  by_cases h:n≤1000000
  ·have h':(n:Int)≤1000000:=by omega
   rw [decide_eq_true h]
   simp -implicitDefEqProofs [c66,d1,d2,d3,d4,d5,h,h']
  ·have h': ¬(n:Int)≤1000000:=by omega
   rw [decide_eq_false h]
   simp -implicitDefEqProofs [c66,d1,d2,d3,d4,d5,h,h']
 ·have en:(s==[])=false:=beq_eq_false_iff_ne.2 e
  rw [en,Bool.false_and]
  simp -implicitDefEqProofs [c66,d1,d2,d3,d4,d5,e,en]
theorem sright_6 (k:Int) (hk:k=6) (s:List UInt8) (n:Nat) (l c:Int):Sp Tryz.prog gl 66 [tkA k s n l c] (.bool ((s==[])&&decide (n≤253402300799))):=by
 refine s66 rfl rfl ?_
 unfold tkA
 have d1:(k==1)=false:=by subst hk;decide
 have d2:(k==2)=false:=by subst hk;decide
 have d3:(k==3)=false:=by subst hk;decide
 have d4:(k==4)=false:=by subst hk;decide
 have d5:(k==5)=false:=by subst hk;decide
 have d6:(k==6)=true:=by subst hk;decide
 clear hk
 by_cases e:s=[]
 ·subst e
  rw [show (([]:List UInt8)==[])=true from rfl,Bool.true_and]
  by_cases h:n≤253402300799
  ·have h':(n:Int)≤253402300799:=by omega
   rw [decide_eq_true h]
   simp -implicitDefEqProofs [c66,d1,d2,d3,d4,d5,d6,h,h']
  ·have h': ¬(n:Int)≤253402300799:=by omega
   rw [decide_eq_false h]
   simp -implicitDefEqProofs [c66,d1,d2,d3,d4,d5,d6,h,h']
 ·have en:(s==[])=false:=beq_eq_false_iff_ne.2 e
  rw [en,Bool.false_and]
  simp -implicitDefEqProofs [c66,d1,d2,d3,d4,d5,d6,e,en]
theorem sright_0 (k:Int) (hk:k=0) (s:List UInt8) (n:Nat) (l c:Int):Sp Tryz.prog gl 66 [tkA k s n l c] (.bool ((s==[])&&decide (n=0))):=by
 refine s66 rfl rfl ?_
 unfold tkA
 have d1:(k==1)=false:=by subst hk;decide
 have d2:(k==2)=false:=by subst hk;decide
 have d3:(k==3)=false:=by subst hk;decide
 have d4:(k==4)=false:=by subst hk;decide
 have d5:(k==5)=false:=by subst hk;decide
 have d6:(k==6)=false:=by subst hk;decide
 have d0:(k==0)=true:=by subst hk;decide
 clear hk
 by_cases e:s=[]
 ·subst e
  rw [show (([]:List UInt8)==[])=true from rfl,Bool.true_and]
  by_cases n0:n=0
  ·subst n0
   rw [decide_eq_true (rfl:(0:Nat)=0)]
   simp -implicitDefEqProofs [c66,d1,d2,d3,d4,d5,d6,d0]
  ·have n1:((n:Int)==0)=false:=beq_eq_false_iff_ne.2 (by omega)
   have n2: ¬(n:Int)=0:=by omega
   rw [decide_eq_false n0]
   simp -implicitDefEqProofs [c66,d1,d2,d3,d4,d5,d6,d0,n1,n2]
 ·have en:(s==[])=false:=beq_eq_false_iff_ne.2 e
  rw [en,Bool.false_and]
  simp -implicitDefEqProofs [c66,d1,d2,d3,d4,d5,d6,d0,e,en]
theorem sright_7 (k:Int) (hk:k=7) (s:List UInt8) (n:Nat) (l c:Int):Sp Tryz.prog gl 66 [tkA k s n l c] (.bool ((s==[])&&decide (n=0))):=by
 refine s66 rfl rfl ?_
 unfold tkA
 have d1:(k==1)=false:=by subst hk;decide
 have d2:(k==2)=false:=by subst hk;decide
 have d3:(k==3)=false:=by subst hk;decide
 have d4:(k==4)=false:=by subst hk;decide
 have d5:(k==5)=false:=by subst hk;decide
 have d6:(k==6)=false:=by subst hk;decide
 have d0:(k==0)=false:=by subst hk;decide
 have d7:(k==7)=true:=by subst hk;decide
 clear hk
 by_cases e:s=[]
 ·subst e
  rw [show (([]:List UInt8)==[])=true from rfl,Bool.true_and]
  by_cases n0:n=0
  ·subst n0
   rw [decide_eq_true (rfl:(0:Nat)=0)]
   simp -implicitDefEqProofs [c66,d1,d2,d3,d4,d5,d6,d0,d7]
  ·have n1:((n:Int)==0)=false:=beq_eq_false_iff_ne.2 (by omega)
   have n2: ¬(n:Int)=0:=by omega
   rw [decide_eq_false n0]
   simp -implicitDefEqProofs [c66,d1,d2,d3,d4,d5,d6,d0,d7,n1,n2]
 ·have en:(s==[])=false:=beq_eq_false_iff_ne.2 e
  rw [en,Bool.false_and]
  simp -implicitDefEqProofs [c66,d1,d2,d3,d4,d5,d6,d0,d7,e,en]
theorem sright_8 (k:Int) (hk:k=8) (s:List UInt8) (n:Nat) (l c:Int):Sp Tryz.prog gl 66 [tkA k s n l c] (.bool ((s==[])&&decide (n=0))):=by
 refine s66 rfl rfl ?_
 unfold tkA
 have d1:(k==1)=false:=by subst hk;decide
 have d2:(k==2)=false:=by subst hk;decide
 have d3:(k==3)=false:=by subst hk;decide
 have d4:(k==4)=false:=by subst hk;decide
 have d5:(k==5)=false:=by subst hk;decide
 have d6:(k==6)=false:=by subst hk;decide
 have d0:(k==0)=false:=by subst hk;decide
 have d7:(k==7)=false:=by subst hk;decide
 have d8:(k==8)=true:=by subst hk;decide
 clear hk
 by_cases e:s=[]
 ·subst e
  rw [show (([]:List UInt8)==[])=true from rfl,Bool.true_and]
  by_cases n0:n=0
  ·subst n0
   rw [decide_eq_true (rfl:(0:Nat)=0)]
   simp -implicitDefEqProofs [c66,d1,d2,d3,d4,d5,d6,d0,d7,d8]
  ·have n1:((n:Int)==0)=false:=beq_eq_false_iff_ne.2 (by omega)
   have n2: ¬(n:Int)=0:=by omega
   rw [decide_eq_false n0]
   simp -implicitDefEqProofs [c66,d1,d2,d3,d4,d5,d6,d0,d7,d8,n1,n2]
 ·have en:(s==[])=false:=beq_eq_false_iff_ne.2 e
  rw [en,Bool.false_and]
  simp -implicitDefEqProofs [c66,d1,d2,d3,d4,d5,d6,d0,d7,d8,e,en]
theorem sright_9 (k:Int) (hk:k=9) (s:List UInt8) (n:Nat) (l c:Int):Sp Tryz.prog gl 66 [tkA k s n l c] (.bool ((s==[])&&decide (n=0))):=by
 refine s66 rfl rfl ?_
 unfold tkA
 have d1:(k==1)=false:=by subst hk;decide
 have d2:(k==2)=false:=by subst hk;decide
 have d3:(k==3)=false:=by subst hk;decide
 have d4:(k==4)=false:=by subst hk;decide
 have d5:(k==5)=false:=by subst hk;decide
 have d6:(k==6)=false:=by subst hk;decide
 have d0:(k==0)=false:=by subst hk;decide
 have d7:(k==7)=false:=by subst hk;decide
 have d8:(k==8)=false:=by subst hk;decide
 have d9:(k==9)=true:=by subst hk;decide
 clear hk
 by_cases e:s=[]
 ·subst e
  rw [show (([]:List UInt8)==[])=true from rfl,Bool.true_and]
  by_cases n0:n=0
  ·subst n0
   rw [decide_eq_true (rfl:(0:Nat)=0)]
   simp -implicitDefEqProofs [c66,d1,d2,d3,d4,d5,d6,d0,d7,d8,d9]
  ·have n1:((n:Int)==0)=false:=beq_eq_false_iff_ne.2 (by omega)
   have n2: ¬(n:Int)=0:=by omega
   rw [decide_eq_false n0]
   simp -implicitDefEqProofs [c66,d1,d2,d3,d4,d5,d6,d0,d7,d8,d9,n1,n2]
 ·have en:(s==[])=false:=beq_eq_false_iff_ne.2 e
  rw [en,Bool.false_and]
  simp -implicitDefEqProofs [c66,d1,d2,d3,d4,d5,d6,d0,d7,d8,d9,e,en]
theorem sright_x (k:Int) (s:List UInt8) (n:Nat) (l c:Int) (h: ¬k=0∧ ¬k=1∧ ¬k=2∧ ¬k=3∧ ¬k=4∧ ¬k=5∧ ¬k=6∧ ¬k=7∧ ¬k=8∧ ¬k=9):Sp Tryz.prog gl 66 [tkA k s n l c] (.bool false):=by
 refine s66 rfl rfl ?_
 unfold tkA
 obtain ⟨c0,c1,c2,c3,c4,c5,c6,c7,c8,c9⟩:=h
 have ne: ∀z:Int,¬k=z→(k==z)=false:=fun z h=>beq_eq_false_iff_ne.2 h
 have d0:=ne _ c0
 have d1:=ne _ c1
 have d2:=ne _ c2
 have d3:=ne _ c3
 have d4:=ne _ c4
 have d5:=ne _ c5
 have d6:=ne _ c6
 have d7:=ne _ c7
 have d8:=ne _ c8
 have d9:=ne _ c9
 simp -implicitDefEqProofs [c66,d0,d1,d2,d3,d4,d5,d6,d7,d8,d9]
theorem sright_spec (k:Int) (s:List UInt8) (n:Nat) (l c:Int) (hl:s.length≤900000):Sp Tryz.prog gl 66 [tkA k s n l c] (.bool (tkR k s n)):=by
 unfold tkR
 by_cases c1:k=1
 ·subst c1;rw [if_pos rfl];exact sright_1 s n l c hl
 rw [if_neg c1]
 by_cases c2:k=2
 ·subst c2;rw [if_pos rfl];exact sright_2 s n l c hl
 rw [if_neg c2]
 by_cases c3:k=3
 ·subst c3;rw [if_pos (.inl rfl)];exact sright_3 3 rfl s n l c
 by_cases c4:k=4
 ·subst c4;rw [if_pos (.inr rfl)];exact sright_4 4 rfl s n l c
 rw [if_neg (by rintro (h|h);exact c3 h;exact c4 h)]
 by_cases c5:k=5
 ·subst c5;rw [if_pos rfl];exact sright_5 5 rfl s n l c
 rw [if_neg c5]
 by_cases c6:k=6
 ·subst c6;rw [if_pos rfl];exact sright_6 6 rfl s n l c
 rw [if_neg c6]
 by_cases c0:k=0
 ·subst c0;rw [if_pos (.inl rfl)];exact sright_0 0 rfl s n l c
 by_cases c7:k=7
 ·subst c7;rw [if_pos (.inr (.inl rfl))];exact sright_7 7 rfl s n l c
 by_cases c8:k=8
 ·subst c8;rw [if_pos (.inr (.inr (.inl rfl)))];exact sright_8 8 rfl s n l c
 by_cases c9:k=9
 ·subst c9;rw [if_pos (.inr (.inr (.inr rfl)))];exact sright_9 9 rfl s n l c
 rw [if_neg (by rintro (h|h|h|h);exact c0 h;exact c7 h;exact c8 h;exact c9 h)]
 exact sright_x k s n l c ⟨c0,c1,c2,c3,c4,c5,c6,c7,c8,c9⟩
open Go.Proofs
def wordT (t:Tk):Bool:=decide (1≤t.k)&&(decide (t.k≤6)&&tkR t.k t.t t.n)
theorem tk_agg (t:Tk):AV.agg t.row=tkA t.k t.t t.n t.ln t.co:=rfl
theorem lword_spec (t:Tk) (hl:t.t.length≤900000):Sp Tryz.prog gl 42 [.agg t.row] (.bool (wordT t)):=by
 refine s42 rfl rfl ?_
 have R:=sright_spec t.k t.t t.n t.ln t.co hl
 unfold wordT
 obtain ⟨k,s,n,l,c⟩:=t
 simp only at R ⊢
 unfold tkA at R
 unfold Tk.row
 simp only
 by_cases c1:(1:Int)≤k
 ·by_cases c2:k≤(6:Int)
  ·simp [c42,c1,c2]
   refine onC_mk _ (R) ?_
   simp -implicitDefEqProofs [c1,c2]
  ·simp [c42,c1,c2]
 ·simp [c42,c1]
theorem lbad_spec (t:Tk) (hl:t.t.length≤900000):Sp Tryz.prog gl 41 [.agg t.row] (.bool (!wordT t)):=by
 refine s41 rfl rfl ?_
 have R:=lword_spec t hl
 generalize wordT t=b at *
 unfold Tk.row at *
 simp -implicitDefEqProofs [c41]
 refine onC_mk _ (R) ?_
 simp -implicitDefEqProofs
open Go.Proofs
def ixW:List Tk→Nat→Int
 |[],_=> -1
 |a::r,i=>if (!wordT a)=true then (i:Int) else ixW r (i+1)
theorem ixW_ge: ∀(l:List Tk) (i:Nat),decide (0≤ixW l i)=!l.all wordT
 |[],i=>rfl
 |a::r,i=>by
  rw [List.all_cons]
  by_cases h:wordT a=true
  ·have e:ixW (a::r) i=ixW r (i+1):=if_neg (by simp [h])
   rw [e,ixW_ge r (i+1),h,Bool.true_and]
  ·have e:ixW (a::r) i=i:=if_pos (by simpa using h)
   have h0:wordT a=false:=by simpa using h
   rw [e,h0,Bool.false_and,decide_eq_true (by omega)]
   rfl
theorem wIx_spec (l:List Tk) (hl:l.length≤1000000) (ht: ∀t∈l,t.t.length≤900000) (d:Nat):
  SpH Tryz.prog gl 69 d ⟨[.sl (l.map Tk.row),.fn 41 []],[],[]⟩ ⟨i6 (ixW l 0),[],[]⟩:=by
 refine h69 rfl ?_
 have rl:(l.map Tk.row).length=l.length:=by simp
 have rat: ∀i (h:i<l.length),∀h2,(l.map Tk.row)[i]'h2=[i6 l[i].k,.str l[i].t,u l[i].n,i6 l[i].ln,i6 l[i].co]:=fun i h h2=>by simp [Tk.row]
 obtain ⟨R,hR⟩: ∃R,R=ixW l 0:=⟨_,rfl⟩
 rw [←hR]
 generalize l.map Tk.row=RR at *
 simp only [inSt,mpB,mpL,AV.mp,mpP,Pl.mp]
 simp -implicitDefEqProofs [c69,rl]
 refine wp_lpk (α:=Nat) (fun i=>⟨[(0,.sl RR),(1,.fn 41 []),(7,i6 l.length),(8,i6 i)],[],[]⟩) (fun i=>i≤l.length∧R=ixW (l.drop i) i) (fun i=>l.length - i) ?_ 0 ?_ ?_
 ·rintro K i hK ⟨h1,h2⟩
  by_cases g:i<l.length
  ·have t1:IntKind.i64.wrap ((i:Int)+1)=(i+1:Nat):=by rw [wrap_i64]<;>omega
   have gR:i<RR.length:=by omega
   have ra:=rat i g gR
   rw [List.drop_eq_getElem_cons g] at h2
   simp only [ixW] at h2
   have C:=lbad_spec l[i] (ht _ (List.getElem_mem g))
   unfold Tk.row at C
   have fin:(!wordT l[i])=false→ ∀σ',Weak σ' ⟨[(0,.sl RR),(1,.fn 41 []),(7,i6 l.length),(8,i6 (i+1:Nat))],[],[]⟩→K σ':=
    fun hg σ' hσ=>hK (i+1) σ' ⟨by omega,by rw [hg] at h2;simpa using h2⟩ (by omega) hσ
   have hpos:(!wordT l[i])=true→R=i:=fun hg=>by rw [if_pos hg] at h2;exact h2.symm▸rfl
   clear hK hR rat h2
   generalize (!wordT l[i])=q at *
   generalize l[i]=x at *
   have C:=fun d=>Sp.h (d:=d) C
   simp -implicitDefEqProofs [g,gR,ra,rl]
   refine onH_mk _ _ (C _) ⟨?_,?_,?_,?_,?_,?_,?_⟩ ?_
   iterate 7 (· simp)
   cases q
   ·have fin:=fin rfl
    simp -implicitDefEqProofs [t1]
    refine fin _ ?_
    refine weak_mk ?_ ?_ ?_ ?_ ?_ ?_<;>simp -implicitDefEqProofs [t1]
   ·have h2:=hpos rfl
    subst h2
    simp -implicitDefEqProofs
    refine postH_r ⟨?_,?_,?_,?_,?_,?_⟩<;>simp -implicitDefEqProofs
  ·obtain rfl:i=l.length:=by omega
   rw [List.drop_length] at h2
   simp only [ixW] at h2
   subst h2
   clear hK
   simp -implicitDefEqProofs
   refine postH_r ⟨?_,?_,?_,?_,?_,?_⟩<;>simp -implicitDefEqProofs
 ·exact ⟨Nat.zero_le _,hR⟩
 ·refine weak_mk ?_ ?_ ?_ ?_ ?_ ?_<;>simp -implicitDefEqProofs
theorem wHas_spec (l:List Tk) (hl:l.length≤1000000) (ht: ∀t∈l,t.t.length≤900000) (d:Nat):
  SpH Tryz.prog gl 44 d ⟨[.sl (l.map Tk.row),.fn 41 []],[],[]⟩ ⟨.bool (!l.all wordT),[],[]⟩:=by
 refine h44 rfl ?_
 have Q:=wIx_spec l hl ht 7
 rw [←ixW_ge l 0]
 generalize l.map Tk.row=RR at *
 generalize ixW l 0=R at *
 simp only [inSt,mpB,mpL,AV.mp,mpP,Pl.mp]
 simp -implicitDefEqProofs [c44]
 refine onH_mk _ _ (Q) ⟨?_,?_,?_,?_,?_,?_,?_⟩ ?_
 iterate 7 (· simp)
 simp -implicitDefEqProofs
 refine postH_r ⟨?_,?_,?_,?_,?_,?_⟩<;>simp -implicitDefEqProofs
open Go.Proofs
mutual
def flatI:It→Nat→List (Nat×It)
 | .mk n ws b ks ln co,d=>(d,.mk n ws b ks ln co)::flatL ks (d+1)
def flatL:List It→Nat→List (Nat×It)
 |[],_=>[]
 |x::r,d=>flatI x d++flatL r d
end
def encF (p:Nat×It):List AV:=[i6 p.1,.agg p.2.row]
mutual
theorem toldI_flat: ∀(x:It) (d:Nat),toldI x d=(flatI x d).map encF
 | .mk n ws b ks ln co,d=>by
  rw [toldI,flatI,List.map_cons,toldL_flat ks (d+1)]
  rfl
theorem toldL_flat: ∀(L:List It) (d:Nat),toldL L d=(flatL L d).map encF
 |[],d=>rfl
 |x::r,d=>by rw [toldL,flatL,List.map_append,toldI_flat x d,toldL_flat r d]
end
mutual
theorem flatI_len: ∀(x:It) (d:Nat),(flatI x d).length=cntI x
 | .mk n ws b ks ln co,d=>by rw [flatI,cntI,List.length_cons,flatL_len ks (d+1)];omega
theorem flatL_len: ∀(L:List It) (d:Nat),(flatL L d).length=cntL L
 |[],d=>rfl
 |x::r,d=>by rw [flatL,cntL,List.length_append,flatI_len x d,flatL_len r d]
end
def okIt (k:Nat) (p:Nat×It):Bool:=match p with
 |(d,.mk n ws b ks _ _)=>decide (k≤300)&&decide (d≤4)&&nameT n&&decide (ws.length≤6)&&ws.all wordT&&(b||ks.length==0)
def okAll:Nat→List (Nat×It)→Bool
 |_,[]=>true
 |k,p::r=>okIt (k+1) p&&okAll (k+1) r
def txIt (x:It):Prop:=match x with
 | .mk n ws _ ks _ _=>n.length≤900000∧ws.length≤1000000∧(∀t∈ws,t.t.length≤900000)∧ks.length≤1000000
def lrAsg:AC:=match c19 with
 | .sq _ (.sq _ (.sq (.sq _ (.bl _ (.rf _ _ _ _ a _))) _))=>a
 |_=> .no
def lrBd:AC:=match c19 with
 | .sq _ (.sq _ (.sq (.sq _ (.bl _ (.rf _ _ _ _ _ b))) _))=>b
 |_=> .no
def rdST (RR:List (List AV)) (k:Nat):St:=⟨[(9,.undef),(8,.fn 62 [.ptr (.nw 8 (.n 1)) 0]),(7,.sl RR),(3,.ptr (.n 3) 0),(2,.ptr (.n 2) 0),(0,.sl RR)],[(.nw 8 (.n 1),[.sl RR]),(.n 3,[i6 k]),(.n 2,[.bool false])],[]⟩
set_option maxHeartbeats 2000000 in
theorem lright_round (RR:List (List AV)) (j:Nat) (hj:j≤100000) (dd:Nat) (hdd:dd≤100000) (x:It) (hx:txIt x) (K:AE→St→Prop) (h1:okIt (j+1) (dd,x)=true→K .n (rdST RR (j+1))) (h2:okIt (j+1) (dd,x)=false→K .r (rdST RR (j+1))):
  wpRd (SpH Tryz.prog gl) 9 [9,10] [2,3] lrAsg lrBd (encF (dd,x)) K (rdST RR j):=by
 have t1:IntKind.i64.wrap ((j:Int)+1)=(j+1:Nat):=by rw [wrap_i64]<;>omega
 refine ⟨⟨[.ptr (.n 2) 0,.ptr (.n 3) 0],[(.nw 8 (.n 1),[.sl RR]),(.n 3,[i6 j]),(.n 2,[.bool false])],[]⟩,⟨⟨?_,?_,?_,?_,?_,?_,?_⟩,?_,?_⟩,?_⟩
 iterate 8 (· simp [rdST])
 ·refine noIt_of ?_
  simp -implicitDefEqProofs
 obtain ⟨nm,ws,b,ks,ln,co⟩:=x
 obtain ⟨x1,x2,x3,x4⟩:=hx
 have NM:=tname_spec nm x1
 have HW:=wHas_spec ws x2 x3
 unfold okIt at h1 h2
 simp only [encF,It.row,rdSt,zipE,mpL,mpB,AV.mp,mpP,List.cons_append,List.nil_append,lrAsg,c19]
 have fin: ∀e:AE,K e (rdST RR (j+1))→ ∀σ':St,lkB σ'.bx (.up (.nw 8 (.n 1)))=some [.sl RR]→lkB σ'.bx (.up (.n 3))=some [i6 (j+1:Nat)]→lkB σ'.bx (.up (.n 2))=some [.bool false]→(∀p∈σ'.bx,p.1.isIt=false)→
   rdPost 9 (rdST RR j) [2,3] ⟨[.ptr (.n 2) 0,.ptr (.n 3) 0],[(.nw 8 (.n 1),[.sl RR]),(.n 3,[i6 j]),(.n 2,[.bool false])],[]⟩ K e σ':=by
  intro e hk σ' b1 b2 b3 hi
  refine ⟨⟨.tup [],[(.nw 8 (.n 1),[.sl RR]),(.n 3,[i6 (j+1:Nat)]),(.n 2,[.bool false])],[]⟩,⟨_,.z _,?_,?_,?_,?_,?_,?_⟩,⟨?_,?_,?_,?_,?_,?_,?_⟩,hi,hk⟩
  ·simp
  ·simp
  ·simp [obx,b1,b2,b3]
  ·simp
  ·simp
  ·simp
  iterate 7 (· simp [rdST])
 simp -implicitDefEqProofs [c19]
 simp only [lrBd,c19]
 refine ⟨by rintro a c (⟨rfl,_⟩|⟨rfl,_⟩|⟨rfl,_⟩|⟨rfl,_⟩)<;>rfl,?_⟩
 have wl:(ws.map Tk.row).length=ws.length:=List.length_map _
 have kl:=itRows_len ks
 generalize List.map Tk.row ws=WR at *
 generalize itRows ks=KR at *
 by_cases c1:j+1≤300
 ·have c1': ¬(300:Int)<((j+1:Nat):Int):=by omega
  have c1'': ¬(300:Int)<(j:Int)+1:=by omega
  by_cases c2:dd≤4
  ·have c2': ¬(4:Int)<(dd:Int):=by omega
   cases hn:nameT nm with
   |false=>
    rw [hn] at NM
    simp -implicitDefEqProofs [t1,c1',c1'',c2']
    refine onC_mk _ (NM) ?_
    simp -implicitDefEqProofs
    refine fin _ (h2 (by simp [c1,c2,hn])) _ rfl rfl rfl ?_
    simp -implicitDefEqProofs
   |true=>
    rw [hn] at NM
    by_cases c4:ws.length≤6
    ·have c4': ¬(6:Int)<(ws.length:Int):=by omega
     cases hw:ws.all wordT with
     |false=>
      rw [hw] at HW
      simp -implicitDefEqProofs [t1,c1',c1'',c2']
      refine onC_mk _ (NM) ?_
      simp -implicitDefEqProofs [wl,c4,c4']
      refine onH_mk _ _ (HW _) ⟨?_,?_,?_,?_,?_,?_,?_⟩ ?_
      iterate 7 (· simp)
      simp -implicitDefEqProofs
      refine fin _ (h2 (by simp only [c1,c2,hn,c4,hw];simp)) _ rfl rfl rfl ?_
      simp -implicitDefEqProofs
     |true=>
      rw [hw] at HW
      cases b with
      |true=>
       simp -implicitDefEqProofs [t1,c1',c1'',c2']
       refine onC_mk _ (NM) ?_
       simp -implicitDefEqProofs [wl,c4,c4']
       refine onH_mk _ _ (HW _) ⟨?_,?_,?_,?_,?_,?_,?_⟩ ?_
       iterate 7 (· simp)
       simp -implicitDefEqProofs
       refine fin _ (h1 (by simp only [c1,c2,hn,c4,hw];simp)) _ rfl rfl rfl ?_
       simp -implicitDefEqProofs
      |false=>
       by_cases c6:0<ks.length
       ·have c6':(0:Int)<(ks.length:Int):=by omega
        have c6'':(ks.length==0)=false:=beq_eq_false_iff_ne.2 (by omega)
        simp -implicitDefEqProofs [t1,c1',c1'',c2']
        refine onC_mk _ (NM) ?_
        simp -implicitDefEqProofs [wl,c4,c4']
        refine onH_mk _ _ (HW _) ⟨?_,?_,?_,?_,?_,?_,?_⟩ ?_
        iterate 7 (· simp)
        simp -implicitDefEqProofs [kl,c6,c6']
        refine fin _ (h2 (by simp only [c1,c2,hn,c4,hw,c6''];simp)) _ rfl rfl rfl ?_
        simp -implicitDefEqProofs
       ·have c6': ¬(0:Int)<(ks.length:Int):=by omega
        have c6'':(ks.length==0)=true:=beq_iff_eq.2 (by omega)
        simp -implicitDefEqProofs [t1,c1',c1'',c2']
        refine onC_mk _ (NM) ?_
        simp -implicitDefEqProofs [wl,c4,c4']
        refine onH_mk _ _ (HW _) ⟨?_,?_,?_,?_,?_,?_,?_⟩ ?_
        iterate 7 (· simp)
        simp -implicitDefEqProofs [kl,c6,c6']
        refine fin _ (h1 (by simp only [c1,c2,hn,c4,hw,c6''];simp)) _ rfl rfl rfl ?_
        simp -implicitDefEqProofs
    ·have c4':(6:Int)<(ws.length:Int):=by omega
     simp -implicitDefEqProofs [t1,c1',c1'',c2']
     refine onC_mk _ (NM) ?_
     simp -implicitDefEqProofs [wl,c4,c4']
     refine fin _ (h2 (by simp [c1,c2,hn,c4])) _ rfl rfl rfl ?_
     simp -implicitDefEqProofs
  ·have c2':(4:Int)<(dd:Int):=by omega
   simp -implicitDefEqProofs [t1,c1',c1'',c2']
   refine fin _ (h2 (by simp [c1,c2])) _ rfl rfl rfl ?_
   simp -implicitDefEqProofs
 ·have c1':(300:Int)<((j+1:Nat):Int):=by omega
  have c1'':(300:Int)<(j:Int)+1:=by omega
  simp -implicitDefEqProofs [t1,c1',c1'']
  refine fin _ (h2 (by simp [c1])) _ rfl rfl rfl ?_
  simp -implicitDefEqProofs
open Go.Proofs
set_option maxHeartbeats 2000000 in
theorem lright_spec (L:List It) (hc:cntL L≤90000) (hd:depL L≤90000) (htx: ∀p∈flatL L 1,txIt p.2∧p.1≤100000) (D:Nat):SpH Tryz.prog gl 19 D ⟨[.sl (itRows L)],[],[]⟩ ⟨.bool (okAll 0 (flatL L 1)),[],[]⟩:=by
 refine h19 rfl ?_
 have W:=fun d=>walk_spec L d
 have IT:=walk_iter L (.nw 8 (.n 1)) rfl (by omega) hd
 have fl:=flatL_len L 1
 rw [toldL_flat] at IT
 have hfl:(flatL L 1).length≤90000:=by omega
 generalize flatL L 1=FL at *
 generalize itRows L=RR at *
 simp only [inSt,mpB,mpL,AV.mp,mpP,Pl.mp,c19,wpF_sq,wpF_c,wpF_bl]
 simp -implicitDefEqProofs [wpF_sq,wpF_c,wpF_bl]
 refine onH_mk _ _ (W _) ⟨?_,?_,?_,?_,?_,?_,?_⟩ ?_
 iterate 7 (· simp)
 simp -implicitDefEqProofs [wpF_sq,wpF_c,wpF_bl]
 refine ⟨by simp -implicitDefEqProofs,62,[.ptr (.nw 8 (.n 1)) 0],[(.nw 8 (.n 1),[.sl RR])],FL.map encF,rfl,?_,IT,?_,?_⟩
 ·intro d cs h
  simp only [lkB] at h
  split at h
  ·rename_i e
   subst e
   cases h
   simp -implicitDefEqProofs [wkB]
  ·cases h
 ·intro x hx
  obtain ⟨p,_,rfl⟩:=List.mem_map.1 hx
  rfl
 ·refine wpRs_inv (fun k τ=>τ=rdST RR k∧okAll 0 FL=okAll k (FL.drop k)∧k≤FL.length) (FL.map encF) 0 _ ⟨rfl,by rw [List.drop_zero],Nat.zero_le _⟩ ?_ ?_
  ·rintro j x τ hx ⟨rfl,h2,h3⟩
   rw [Nat.zero_add] at h2 h3 ⊢
   rw [List.getElem?_map] at hx
   cases hp:FL[j]? with
   |none=>rw [hp] at hx;cases hx
   |some p=>
    rw [hp] at hx
    cases hx
    obtain ⟨hj,he⟩:=List.getElem?_eq_some_iff.1 hp
    obtain ⟨dd,y⟩:=p
    have hq:=htx _ (List.mem_of_getElem? hp)
    have ho:okAll 0 FL=(okIt (j+1) (dd,y)&&okAll (j+1) (FL.drop (j+1))):=by
     rw [h2,List.drop_eq_getElem_cons hj,he];rfl
    refine lright_round RR j (by omega) dd hq.2 y hq.1 _ (fun h=>?_) (fun h=>?_)
    ·refine ⟨rfl,?_,by omega⟩
     rw [ho,h,Bool.true_and]
    ·rw [h,Bool.false_and] at ho
     rw [ho]
     simp only [rdST]
     simp -implicitDefEqProofs [postRF]
     refine postH_r ⟨?_,?_,?_,?_,?_,?_⟩<;>simp -implicitDefEqProofs
  ·rintro τ ⟨rfl,h2,h3⟩
   rw [Nat.zero_add,List.length_map,List.drop_length] at h2
   have h2:okAll 0 FL=true:=h2
   rw [h2]
   simp only [rdST]
   simp -implicitDefEqProofs [wpF_c,postRF]
   refine postH_r ⟨?_,?_,?_,?_,?_,?_⟩<;>simp -implicitDefEqProofs
end Go.Ai
namespace Go.Ai
open Go.Proofs Go.Shelf Go.RowKit Go.Sort Go.Lib
theorem holds_zero0 (w:World) (T:TypeId) (nd:Nat) (hs:nd≤24):Holds (fun (b:UInt8)=>Value.int .u8 (b.toNat:Int)) (w.alloc (.cells Lib.zeros24 T)) w.heap.size 0 (Array.replicate nd (0:UInt8)):=fun j hj=>by
 have hj':j<nd:=by simpa using hj
 refine ⟨?_,World.frozen?_alloc_new _ _ _ _⟩
 rw [World.cell?_alloc_new,zeros24_at _ (by omega),getElem!_pos _ j hj]
 simp
theorem below_grow (w:World) (os:Array Obj) (k:Nat):Below w.heap.size w ((grow w os).drewN k):=by
 refine ⟨rfl,rfl,rfl,?_,fun i hi=>?_⟩
 ·show w.heap.size≤(w.heap++os).size
  simp
 ·show (w.heap++os)[i]?=w.heap[i]?
  exact Array.getElem?_append_left hi
set_option maxHeartbeats 6400000 in
set_option maxRecDepth 100000 in
theorem fmtUint_calls (u:Nat) (hu1:100≤u) (hu64:u<18446744073709551616) (w:World) (htab: ∀q,q<20→w.cell? ⟨2,q,none⟩=some (.int .u64 ((10^q:Nat):Int))):
  Calls Tryz.prog 126 #[.int .u64 u,.int .i64 10] w fun e w'=>e= .returned (.string ⟨(Lib.decDigits u).toArray⟩)∧Below w.heap.size w w':=by
 have hnd20:Lib.nDigits u≤20:=by have:=Lib.numDigits_eq u (by omega) hu64;split at this<;>omega
 have hal:Tryz.prog.arrayLen 206=24:=by kernel_rfl
 have hsl: ∀W,(Instr.sliceAt 206 (.pointer (some ⟨w.heap.size,0,none⟩)) none (some (.int .i64 (Lib.nDigits u:Int))) none).run Tryz.prog W= .ok (.slice (some ⟨w.heap.size,0,none⟩) (Lib.nDigits u) 24) W:=fun W=>by
  rw [run_sliceAt_array_h W 206 ⟨w.heap.size,0,none⟩ (by kernel_rfl) .i64 (Lib.nDigits u:Int) (by omega) (by rw [hal];omega)]
  go_simp
 have hH0:=holds_zero0 w 206 (Lib.nDigits u) (by omega)
 have hfmt:=Any.internal_strconv_formatBase10 laysFmt w.heap.size 0 24 u (Array.replicate (Lib.nDigits u) 0) (w.alloc (.cells Lib.zeros24 206)) hH0 (by rw [Array.size_replicate];exact Lib.lt_pow_nDigits u) hu64 (by rw [Array.size_replicate];omega)
 rw [Array.size_replicate] at hfmt
 have HH0:=Lib.hid hH0
 clear hH0 hal
 have hnd:Calls Tryz.prog 166 #[.int .u64 u] (w.alloc (.cells Lib.zeros24 206)) fun e w'=>e= .returned (.int .i64 (Lib.nDigits u))∧w'=(w.alloc (.cells Lib.zeros24 206)):=
  numDigits_cells laysDig u (by omega) hu64 _ (fun q hq=>by
   have h1:=htab q hq
   have h2:=World.block_lt_of_cell? w _ h1
   exact (World.cell?_alloc_lt w _ _ h2).trans h1)
 go_enter Tryz.func126,Tryz.ntmps126
 go_wp2_with (first
  |(go_at_call 166;refine hnd.mono ?_;rintro e w' ⟨rfl,rfl⟩))
 go_at_call 167
 refine hfmt.mono ?_
 rintro e w' ⟨rfl,k,v',dk,rfl,hF⟩
 have hcv:(convert 67 9 (.slice (some ⟨w.heap.size,0,none⟩) (Lib.nDigits u) 24)).run Tryz.prog ((putRow (fun (b:UInt8)=>Value.int .u8 (b.toNat:Int)) (w.alloc (.cells Lib.zeros24 206)) w.heap.size 0 dk).drewN k)= .ok (.string ⟨(Lib.decDigits u).toArray⟩) ((putRow (fun (b:UInt8)=>Value.int .u8 (b.toNat:Int)) (w.alloc (.cells Lib.zeros24 206)) w.heap.size 0 dk).drewN k):=by
  have h:=run_convert_bytes_back (P:=Tryz.prog) ((putRow (fun (b:UInt8)=>Value.int .u8 (b.toNat:Int)) (w.alloc (.cells Lib.zeros24 206)) w.heap.size 0 dk).drewN k) 67 9 5 ⟨w.heap.size,0,none⟩ 24 (Lib.decDigits u) Tryz.underlying67 Tryz.underlying5 Tryz.underlying9 (fun j hj=>by
   rw [Lib.row_is_numeral hF j hj,Lib.add_plain,World.cell?_drewN]
   exact cell?_putRow (fun (b:UInt8)=>Value.int .u8 (b.toNat:Int)) _ w.heap.size 0 _ dk HH0.out (by rw [hF.size,Array.size_replicate]) j (by rw [hF.size];rw [Lib.decDigits_length] at hj;exact hj))
  rw [Lib.decDigits_length] at h
  exact h
 go_wp2
 go_ret
 refine ⟨rfl,?_⟩
 rw [alloc_eq_grow]
 obtain ⟨os',_,eg⟩:=putRow_grow_new (fun (b:UInt8)=>Value.int .u8 (b.toNat:Int)) w #[.cells Lib.zeros24 206] w.heap.size 0 dk (Nat.le_refl _)
 rw [eg]
 exact below_grow w os' k

theorem small_spec (n:Nat) (h:n<100):Sp Tryz.prog gl 165 [i6 n] (.str (Lib.decDigits n)):=by
 refine shelf_spec Tryz.func165 (by kernel_rfl) (by kernel_rfl) ?_
 intro S gb w vs hvs hag
 simp only [PRlist,PR] at hvs
 obtain ⟨_,_,rfl,rfl,rfl⟩:=hvs
 exact (Any.internal_strconv_small laysSmall n h w).mono fun e w' ⟨he,hw⟩=>⟨_,he,hw▸Below.refl _ _,by simp [PR]⟩
theorem tab_gl:List.lookup 2 gl=some ((List.range 20).map fun q=>Value.int .u64 ((10^q:Nat):Int)):=by kernel_rfl
theorem tab_cells {w:World} (h: ∀i us,List.lookup i gl=some us→ ∀(o:Nat) (u:Value),us[o]?=some u→w.cell? ⟨i,o,none⟩=some u) (q:Nat) (hq:q<20):w.cell? ⟨2,q,none⟩=some (.int .u64 ((10^q:Nat):Int)):=
 h 2 _ tab_gl q _ (by simp [hq])
theorem ifmt_spec (n:Nat) (h:n<18446744073709551616):Sp Tryz.prog gl 126 [u n,i6 10] (.str (Lib.decDigits n)):=by
 by_cases g:n<100
 ·refine s126 rfl rfl ?_
  have S:=small_spec n g
  generalize Lib.decDigits n=R at *
  have t1:IntKind.i64.wrap (n:Int)=n:=by rw [wrap_i64]<;>omega
  have g':(n:Int)<100:=by omega
  simp -implicitDefEqProofs [c126,t1,g,g']
  refine onC_mk _ S ?_
  simp -implicitDefEqProofs
 ·refine shelf_specG Tryz.func126 (by kernel_rfl) (by kernel_rfl) ?_
  intro S gb w vs hvs hag hgl
  simp only [PRlist,PR] at hvs
  obtain ⟨_,_,rfl,rfl,_,_,rfl,rfl,rfl⟩:=hvs
  exact (fmtUint_calls n (by omega) h w (tab_cells hgl)).mono fun e w' ⟨he,hw⟩=>⟨_,he,hw,by simp [PR]⟩
theorem fmt_spec (n:Nat) (h:n<18446744073709551616):Sp Tryz.prog gl 93 [u n,i6 10] (.str (Lib.decDigits n)):=by
 refine s93 rfl rfl ?_
 have S:=ifmt_spec n h
 generalize Lib.decDigits n=R at *
 simp -implicitDefEqProofs [c93]
 refine onC_mk _ S ?_
 simp -implicitDefEqProofs
end Go.Ai
namespace Go.Ai
def dec (n:Nat):List UInt8:=if h:n<10 then [UInt8.ofNat (48+n)] else dec (n / 10)++[UInt8.ofNat (48+n%10)]
termination_by n
decreasing_by omega
def undec (s:List UInt8):Nat:=s.foldl (fun a b=>10*a+(b.toNat - 48)) 0
def isDig (b:UInt8):Bool:=decide (48≤b.toNat∧b.toNat≤57)
def okDec (s:List UInt8):Bool:=!s.isEmpty&&s.all isDig&&(s.headD 0 !=48||s.length==1)
theorem dec_lt {n:Nat} (h:n<10):dec n=[UInt8.ofNat (48+n)]:=by rw [dec,dif_pos h]
theorem dec_ge {n:Nat} (h: ¬n<10):dec n=dec (n / 10)++[UInt8.ofNat (48+n%10)]:=by rw [dec,dif_neg h]
theorem dig_nat {k:Nat} (h:k<10):(UInt8.ofNat (48+k)).toNat=48+k:=by simp;omega
theorem dec_ne (n:Nat):dec n≠[]:=by
 by_cases h:n<10
 ·rw [dec_lt h];simp
 ·rw [dec_ge h];simp
theorem dec_dig (n:Nat):(dec n).all isDig=true:=by
 induction n using Nat.strongRecOn with
 |_ n ih=>
  by_cases h:n<10
  ·rw [dec_lt h];simp [isDig,dig_nat h];omega
  ·rw [dec_ge h,List.all_append,ih _ (by omega)];simp [isDig,dig_nat (show n%10<10 by omega)];omega
theorem dec_len (k n:Nat) (h:n<10^(k+1)):(dec n).length≤k+1:=by
 induction k generalizing n with
 |zero=>rw [dec_lt (by simpa using h)];simp
 |succ k ih=>
  by_cases g:n<10
  ·rw [dec_lt g];simp
  ·rw [dec_ge g]
   have:=ih (n / 10) (by rw [Nat.pow_succ] at h;omega)
   simp;omega
open Go.Proofs

def bl (l:List Bool):AV:= .sl (l.map fun b=>[.bool b])
open Go.Proofs
end Go.Ai
