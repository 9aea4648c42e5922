/- P6: a part of the proof: the rules, or what functions compute. Conditions: as each theorem says. -/
import Derived.Test.YthonkjadcpdphaaGreatDoorP5
import Derived.Test.YthonkjadcpdphaaGreatDoorP2
import Derived.Lib.TrimUEq
import Derived.Lib.ValidU
import Derived.Lib.MapLaws
import Derived.Test.YthonkjadcpdphaaGreatDoorCode
import Derived.Test.YthonkjadcpdphaaGreatDoorAiShelf2
import Derived.Shelf.Lays
import Derived.Shelf.LaysM
import Derived.Shelf.Small.Wraps
import Derived.Shelf.Strings.BuilderX
import Derived.Shelf.Strings.SplitCore
import Derived.Shelf.Unicode.ValidAny
set_option linter.unusedSimpArgs false
set_option linter.unusedVariables false
set_option maxRecDepth 20000
namespace Go.Ai
open Go.Proofs
structure En where
 k:Ky
 b:Int
 nx:Int
 tr:Int
 ak:Bool
structure Si where
 n:List UInt8
 g:List UInt8
 wh:Int
 fr:Int
 tl:Int
structure Vw where
 now:Int
 ep:Nat
 gs:List GV
 r:Int
 v:Int
 i:Int
 x:Int
 y:Int
 es:List En
 dr:Nat
 ss:List Si
def En.row (x:En):List AV:=[.str x.k.g,.str x.k.r,.bool x.k.p,u x.k.e,.bool x.k.f,i6 x.b,i6 x.nx,i6 x.tr,.bool x.ak]
def Si.row (x:Si):List AV:=[.str x.n,.str x.g,i6 x.wh,i6 x.fr,i6 x.tl]
def Vw.row (x:Vw):List AV:=[i6 x.now,u x.ep,.sl (x.gs.map GV.row),i6 x.r,i6 x.v,i6 x.i,i6 x.x,i6 x.y,.sl (x.es.map En.row),u x.dr,.sl (x.ss.map Si.row)]
theorem en_at (l:List En) (i:Nat) (h:i<l.length) (h2:i<(l.map En.row).length):(l.map En.row)[i]=[.str l[i].k.g,.str l[i].k.r,.bool l[i].k.p,u l[i].k.e,.bool l[i].k.f,i6 l[i].b,i6 l[i].nx,i6 l[i].tr,.bool l[i].ak]:=by simp [En.row]
theorem gv_at (l:List GV) (i:Nat) (h:i<l.length) (h2:i<(l.map GV.row).length):(l.map GV.row)[i]=l[i].row:=by simp
open Go.Proofs
def cUnlike (sz:Nat) (z:List AV):AC:=
 (.sq (.rg [.mv 4 (.c (.bool false))])
  (.sq (.rg [.mkp 8,
   .mv 5 (.s 8)])
  (.sq (.sq (.rg [.mv 9 (.s 0),
   .ln 10 (.s 9),
   .mv 11 (.c (.int .i64 0))])
  (.bl 0 (.lp (.sq (.rg [.bi 12 .lss (.s 11) (.s 10)])
  (.sq (.cd (.s 12) .sk (.ex 0))
  (.sq (.bl 1 (.sq (.rg [.ia 13 sz (.s 9) (.s 11),
   .lda 14 sz (.s 13),
   .al 7 z,
   .st sz (.s 7) (.s 14)])
  (.rg [.mv 15 (.s 5),
   .mv 16 (.s 1),
   .lda 17 sz (.s 7),
   .cd 18 (.s 16) [(.s 17)],
   .mlk 19 .s (.i .i64 0) (.s 15) (.s 18) false,
   .bi 20 .add (.s 19) (.c (.int .i64 1)),
   .mup .s (.s 15) (.s 18) (.s 20)])))
  (.rg [.bi 21 .add (.s 11) (.c (.int .i64 1)),
   .mv 11 (.s 21)])))))))
  (.sq (.rg [.mv 22 (.s 5),
   .mpl 23 (.s 22),
   .mv 24 (.s 0),
   .ln 25 (.s 24),
   .bi 26 .eql (.s 23) (.s 25),
   .mv 4 (.s 26)])
  .rt))))
theorem unl_eq1:c85=cUnlike 8 [(.str []),(.int .u32 0),(.int .i64 0),(.int .i64 0),(.int .i64 0),(.int .i64 0),.nils,.nils]:=rfl
theorem unl_eq2:c194=cUnlike 2 [(.str []),(.str [])]:=rfl
theorem unl_eq3:c197=cUnlike 7 [(.str []),(.bool false),(.int .i64 0),(.int .i64 0),(.int .u64 0),(.int .i64 0),(.int .i64 0)]:=rfl
theorem nameG_spec (x:Gl):Sp Tryz.prog gl 86 [.agg x.row] (.str x.n):=by
  refine s86 rfl rfl ?_
  unfold Gl.row
  simp -implicitDefEqProofs [c86]
theorem nameL_spec (x:Lb):Sp Tryz.prog gl 195 [.agg x.row] (.str x.n):=by
  refine s195 rfl rfl ?_
  unfold Lb.row
  simp -implicitDefEqProofs [c195]
theorem nameR_spec (x:Ru):Sp Tryz.prog gl 198 [.agg x.row] (.str x.n):=by
  refine s198 rfl rfl ?_
  unfold Ru.row
  simp -implicitDefEqProofs [c198]
theorem unlike_code (sz:Nat) (z:List AV) (f:Nat) (rows:List (List AV)) (names:List (List UInt8)) (hz:z.length=sz) (hl:names.length=rows.length) (hn:rows.length≤1000000)
    (hr: ∀i (h:i<rows.length),rows[i].length=sz∧idsL rows[i]=[]∧Sp Tryz.prog gl f [.agg rows[i]] (.str (names[i]'(by omega)))):
    wpA (SpH Tryz.prog gl) (cUnlike sz z) (postA [.t 4] (.bool (uniq names))) ⟨initE 0 [.sl rows,.fn f []],[],[]⟩:=by
  unfold cUnlike
  have w1:IntKind.i64.wrap 1=1:=by rw [wrap_i64]<;>omega
  simp -implicitDefEqProofs
  refine wp_lpk (α:=Nat×List (List UInt8×Nat)) (fun x=>⟨[(0,.sl rows),(1,.fn f []),(5,.mref (.it 8)),(9,.sl rows),(10,i6 rows.length),(11,i6 x.1)],[(.it 8,[.mpv (cntV x.2)])],[]⟩)
    (fun x=>x.1≤rows.length∧x.2.length=distR (names.take x.1).reverse∧(∀n,n∈x.2.map Prod.fst↔n∈names.take x.1)∧ ∀p∈x.2,p.2≤x.1) (fun x=>rows.length - x.1) ?_ (0,[]) ?_ ?_
  · rintro K ⟨i,l⟩ hK ⟨h1,h2,h3,h4⟩
    simp only at h1 h2 h3 h4
    by_cases g:i<rows.length
    · obtain ⟨r1,r2,r3⟩:=hr i g
      have r3:=Sp.h (d:=18) r3
      have hi:i<names.length:=by omega
      have et:names.take (i+1)=names.take i++[names[i]]:=by rw [List.take_succ_eq_append_getElem hi]
      have fin: ∀σ',Weak σ' ⟨[(0,.sl rows),(1,.fn f []),(5,.mref (.it 8)),(9,.sl rows),(10,i6 rows.length),(11,i6 (i+1:Nat))],[(.it 8,[.mpv (cntV (bump l names[i]))])],[]⟩→K σ':=
        fun σ' hσ=>hK (i+1,bump l names[i]) σ' ⟨by simp only;omega,by
          simp only
          rw [bump_len,et,List.reverse_append,h2]
          simp only [List.reverse_cons,List.reverse_nil,List.nil_append,List.singleton_append,distR,h3,List.mem_reverse],by
          intro n
          rw [bump_mem,et,List.mem_append,h3]
          simp only [List.mem_singleton]
          exact Or.comm,bump_le _ _ _ h4⟩ (by simp only;omega) hσ
      have t1:IntKind.i64.wrap ((i:Int)+1)=(i+1:Nat):=by rw [wrap_i64]<;>omega
      obtain ⟨row,hrow⟩: ∃row,row=rows[i]:=⟨_,rfl⟩
      rw [←hrow] at r1 r2 r3
      have e1:List.take sz row=row:=List.take_of_length_le (by omega)
      have e2:List.drop sz z=[]:=List.drop_eq_nil_of_le (by omega)
      have hat: ∀h,rows[i]'h=row:=fun _=>hrow.symm
      rcases cnt_find names[i] l 0 with ⟨q1,q2⟩|⟨j,c,q0,q1,q2⟩
      · rw [q2] at fin
        generalize names[i]=nm at *
        clear hK hr hrow h2 h3 h4 et
        simp -implicitDefEqProofs [g,hat,r1,e1,hz,e2]
        refine onH_mk _ _ r3 ⟨?_,?_,?_,?_,?_,?_,?_⟩ ?_
        iterate 7 (· simp)
        simp -implicitDefEqProofs [q1]
        refine fin _ (weak_mk ?_ ?_ ?_ ?_ ?_ ?_)<;>simp -implicitDefEqProofs [t1,w1]
      · rw [←q2] at fin
        have w2:IntKind.i64.wrap ((c:Int)+1)=((c+1:Nat):Int):=by have:=h4 _ q0;simp only at this;rw [wrap_i64]<;>omega
        generalize names[i]=nm at *
        clear hK hr hrow h2 h3 h4 et
        rw [Nat.zero_add] at q1
        simp -implicitDefEqProofs [g,hat,r1,e1,hz,e2]
        refine onH_mk _ _ r3 ⟨?_,?_,?_,?_,?_,?_,?_⟩ ?_
        iterate 7 (· simp)
        simp -implicitDefEqProofs [q1]
        refine fin _ (weak_mk ?_ ?_ ?_ ?_ ?_ ?_)<;>simp -implicitDefEqProofs [t1,w2]
    · obtain rfl:i=rows.length:=by omega
      have ud:=uniq_dist names
      rw [List.take_of_length_le (by omega)] at h2
      rw [←h2,hl] at ud
      have cl:(cntV l).length=l.length:=by simp [cntV]
      clear hK hr h3 h4
      generalize uniq names=R at *
      simp -implicitDefEqProofs [cl,ud]
  · exact ⟨Nat.zero_le _,by simp [distR],by simp,by simp⟩
  · refine weak_mk ?_ ?_ ?_ ?_ ?_ ?_<;>simp -implicitDefEqProofs [cntV]
theorem unlG_spec (l:List Gl) (hn:l.length≤1000000):Sp Tryz.prog gl 85 [.sl (l.map Gl.row),.fn 86 []] (.bool (uniq (l.map Gl.n))):=by
  refine s85 rfl rfl ?_
  rw [unl_eq1]
  refine unlike_code 8 _ _ (l.map Gl.row) (l.map Gl.n) rfl (by simp) (by simpa using hn) (fun i h=>?_)
  simp only [List.getElem_map]
  exact ⟨rfl,rfl,nameG_spec _⟩
theorem unlL_spec (l:List Lb) (hn:l.length≤1000000):Sp Tryz.prog gl 194 [.sl (l.map Lb.row),.fn 195 []] (.bool (uniq (l.map Lb.n))):=by
  refine s194 rfl rfl ?_
  rw [unl_eq2]
  refine unlike_code 2 _ _ (l.map Lb.row) (l.map Lb.n) rfl (by simp) (by simpa using hn) (fun i h=>?_)
  simp only [List.getElem_map]
  exact ⟨rfl,rfl,nameL_spec _⟩
theorem unlR_spec (l:List Ru) (hn:l.length≤1000000):Sp Tryz.prog gl 197 [.sl (l.map Ru.row),.fn 198 []] (.bool (uniq (l.map Ru.n))):=by
  refine s197 rfl rfl ?_
  rw [unl_eq3]
  refine unlike_code 7 _ _ (l.map Ru.row) (l.map Ru.n) rfl (by simp) (by simpa using hn) (fun i h=>?_)
  simp only [List.getElem_map]
  exact ⟨rfl,rfl,nameR_spec _⟩
open Go.Proofs
def btw (n lo hi:Int):Bool:=decide (lo≤n∧n≤hi)
theorem btw_and (n lo hi:Int):btw n lo hi=(decide (lo≤n)&&decide (n≤hi)):=by simp [btw]
theorem btwI_spec (n lo hi:Int):Sp Tryz.prog gl 83 [i6 n,i6 lo,i6 hi] (.bool (btw n lo hi)):=by
 refine s83 rfl rfl ?_
 rw [btw_and]
 simp -implicitDefEqProofs [c83]
 refine onB_dec (fun h=>?_) (fun h=>?_)<;>simp -implicitDefEqProofs [h]
theorem between6_spec (n lo hi:Int):Sp Tryz.prog gl 84 [i6 n,i6 lo,i6 hi] (.bool (btw n lo hi)):=by
 refine s84 rfl rfl ?_
 rw [btw_and]
 simp -implicitDefEqProofs [c84]
 refine onB_dec (fun h=>?_) (fun h=>?_)<;>simp -implicitDefEqProofs [h]
theorem betweenU_spec (n lo hi:Nat):Sp Tryz.prog gl 236 [u n,u lo,u hi] (.bool (btw n lo hi)):=by
 refine s236 rfl rfl ?_
 rw [btw_and]
 simp -implicitDefEqProofs [c236]
 refine onB_dec (fun h=>?_) (fun h=>?_)<;>simp -implicitDefEqProofs [h]
theorem between3_spec (n lo hi:Nat):Sp Tryz.prog gl 140 [.int .u32 n,.int .u32 lo,.int .u32 hi] (.bool (btw n lo hi)):=by
 refine s140 rfl rfl ?_
 rw [btw_and]
 simp -implicitDefEqProofs [c140]
 refine onB_dec (fun h=>?_) (fun h=>?_)<;>simp -implicitDefEqProofs [h]
theorem rin_spec (n lo hi:Int):Sp Tryz.prog gl 96 [i6 n,i6 lo,i6 hi] (.bool (btw n lo hi)):=by
 refine s96 rfl rfl ?_
 rw [btw_and]
 simp -implicitDefEqProofs [c96]
 refine onB_dec (fun h=>?_) (fun h=>?_)<;>simp -implicitDefEqProofs [h]
def ruP (r:Ru) (g:Int):Bool:=decide (0<g)&&(btw r.s 1 r.l&&(btw r.l 1 34560000&&(nameT r.n&&(r.l.tmod g==0&&(r.s.tmod g==0&&(btw r.f 1 1000000&&(btw r.w 0 604800&&btw r.k 0 604800)))))))
theorem rru_spec (r:Ru) (g:Int) (hn:r.n.length≤900000):Sp Tryz.prog gl 196 [.agg r.row,i6 g] (.bool (ruP r g)):=by
 refine s196 rfl rfl ?_
 have N:=tname_spec r.n hn
 obtain ⟨nm,p,l,s,f,w,k⟩:=r
 have hR:ruP ⟨nm,p,l,s,f,w,k⟩ g=(decide (0<g)&&(btw s 1 l&&(btw l 1 34560000&&(nameT nm&&(l.tmod g==0&&(s.tmod g==0&&(btw f 1 1000000&&(btw w 0 604800&&btw k 0 604800)))))))):=rfl
 simp only [Ru.row] at N ⊢
 generalize ruP ⟨nm,p,l,s,f,w,k⟩ g=R at *
 generalize nameT nm=T at *
 have B1:=between6_spec s 1 l
 have B2:=between6_spec l 1 34560000
 have B3:Sp Tryz.prog gl 236 [u f,.int .u64 1,.int .u64 1000000] (.bool (btw f 1 1000000)):=betweenU_spec f 1 1000000
 have B4:=between6_spec w 0 604800
 have B5:=between6_spec k 0 604800
 generalize x1:btw s 1 l=b1 at *
 generalize x2:btw l 1 34560000=b2 at *
 generalize x3:btw (f:Int) 1 1000000=b3 at *
 generalize x4:btw w 0 604800=b4 at *
 generalize x5:btw k 0 604800=b5 at *
 by_cases g0:0<g
 ·have g1: ¬g=0:=by omega
  rw [decide_eq_true g0] at hR
  clear x1 x2 x3 x4 x5
  simp -implicitDefEqProofs [c196,g0,g1]
  repeat' first
   |(refine onC_mk _ (B1) ?_;simp -implicitDefEqProofs [g1])
   |(refine onC_mk _ (B2) ?_;simp -implicitDefEqProofs [g1])
   |(refine onC_mk _ (N) ?_;simp -implicitDefEqProofs [g1])
   |(refine onC_mk _ (B3) ?_;simp -implicitDefEqProofs [g1])
   |(refine onC_mk _ (B4) ?_;simp -implicitDefEqProofs [g1])
   |(refine onC_mk _ (B5) ?_;simp -implicitDefEqProofs [g1])
   |(refine onB_mk (fun h=>?_) (fun h=>?_)<;>(try simp only [Bool.not_eq_true',Bool.not_eq_false',decide_eq_true_eq,decide_eq_false_iff_not] at h)<;>simp -implicitDefEqProofs [h,g1])
  all_goals (rw [hR];simp [*])
 ·rw [decide_eq_false g0] at hR
  simp -implicitDefEqProofs [c196,g0]
  rw [hR];simp
open Go.Proofs
theorem stepF_bad (s:List UInt8) (i n r0 least:Nat) (h:(stepF s i n r0 least).1= -1):(stepF s i n r0 least).2=1:=by
 unfold stepF at h ⊢
 split
 ·rename_i hc
  rw [if_pos hc] at h
  simp only at h
  omega
 ·rfl
theorem stepR_bad (s:List UInt8) (i:Nat) (h:(stepR s i).1= -1):(stepR s i).2=1:=by
 unfold stepR at h ⊢
 simp only at h ⊢
 repeat' split
 all_goals first
  |rfl
  |(simp_all;done)
  |(simp_all;exact stepF_bad _ _ _ _ _ (by assumption))
theorem stepF_one (s:List UInt8) (i n r0 least:Nat) (hn:1≤n) (h:(stepF s i n r0 least).1≠ -1):(stepF s i n r0 least).2≠1:=by
 unfold stepF at h ⊢
 split
 ·simp only;omega
 ·rename_i hc
  rw [if_neg hc] at h
  exact absurd rfl h
theorem stepR_one (s:List UInt8) (i:Nat) (h:(stepR s i).1≠ -1) (h1:(stepR s i).2=1):(stepR s i).1<128:=by
 by_cases hb:byt s i<128
 ·unfold stepR
  simp only [hb,if_true];omega
 ·exfalso
  unfold stepR at h h1
  simp only [hb,if_false] at h h1
  split at h
  ·rename_i q;rw [if_pos q] at h1;exact stepF_one _ _ _ _ _ (by omega) h h1
  ·rename_i q;rw [if_neg q] at h1
   split at h
   ·rename_i q;rw [if_pos q] at h1;exact stepF_one _ _ _ _ _ (by omega) h h1
   ·rename_i q;rw [if_neg q] at h1
    split at h
    ·rename_i q;rw [if_pos q] at h1;exact stepF_one _ _ _ _ _ (by omega) h h1
    ·exact absurd rfl h
theorem rune_w (s:List UInt8) (i:Nat) (h:i<s.length):(runeAt s i).2=(stepR s i).2:=by
 rw [step_rune s i h]
 split
 ·rename_i hb;rw [stepR_bad s i hb]
 ·rfl
def goodR (l:List Int):Bool:=l.all fun r=>decide (0≤r)
theorem stepF_nn (s:List UInt8) (i n r0 least:Nat):(stepF s i n r0 least).1= -1∨0≤(stepF s i n r0 least).1:=by
 unfold stepF
 split
 ·right;simp only;omega
 ·left;rfl
theorem stepR_nn (s:List UInt8) (i:Nat):(stepR s i).1= -1∨0≤(stepR s i).1:=by
 unfold stepR
 simp only
 repeat' split
 all_goals first
  |exact stepF_nn _ _ _ _ _
  |(left;rfl)
  |(right;simp only;omega)
theorem decodeL_at (s:List UInt8) (i:Nat):runeAt s i=(((Lib.decodeL (s.drop i)).1:Int),(Lib.decodeL (s.drop i)).2):=by
 have:=Lib.decodeL_drop ⟨s.toArray⟩ i
 simp only at this
 rw [this]
 rfl
theorem good_go (s:List UInt8): ∀(n i:Nat),s.length - i≤n→Lib.validGoD n (s.drop i)=goodR (runesL s i)
 |0,i,h=>by
  rw [runesL_out (by omega)];rfl
 |n+1,i,h=>by
  by_cases g:i<s.length
  ·have hne:s.drop i≠[]:=by
    intro e
    have:=congrArg List.length e
    rw [List.length_drop] at this
    simp at this;omega
   have sr:=step_rune s i g
   have da:=decodeL_at s i
   rw [da] at sr
   simp only [Lib.validGoD,if_neg hne]
   rw [runesL_in g]
   have pos:=stepR_pos s i
   by_cases hb:(stepR s i).1= -1
   ·rw [if_pos hb] at sr
    simp only [Prod.mk.injEq] at sr
    rw [if_pos ⟨by omega,sr.2⟩]
    simp [goodR,hb]
   ·rw [if_neg hb] at sr
    have e1:((Lib.decodeL (s.drop i)).1:Int)=(stepR s i).1:=congrArg Prod.fst sr
    have e2:(Lib.decodeL (s.drop i)).2=(stepR s i).2:=congrArg Prod.snd sr
    rw [if_neg (by
     rintro ⟨q1,q2⟩
     have:=stepR_one s i hb (by omega)
     omega)]
    rw [List.drop_drop,e2,good_go s n (i+(stepR s i).2) (by omega)]
    have h0:0≤(stepR s i).1:=by rcases stepR_nn s i with h|h;exact absurd h hb;exact h
    simp [goodR,h0]
  ·have e:s.drop i=[]:=List.drop_eq_nil_of_le (by omega)
   simp only [Lib.validGoD,e,if_true]
   rw [runesL_out g];rfl
theorem validD_good (s:List UInt8):Lib.validD s=goodR (runesL s 0):=by
 have:=good_go s s.length 0 (by omega)
 rwa [List.drop_zero] at this
theorem rgood_spec (s:List UInt8) (hl:s.length≤900000):Sp Tryz.prog gl 58 [.str s] (.bool (goodR (runesL s 0))):=by
 refine s58 rfl rfl ?_
 have R:=runes_spec s hl
 have len:=runesL_len s s.length 0 (by omega)
 have rl:=runeRows_len (runesL s 0)
 have rat: ∀i (h:i<(runesL s 0).length),(runeRows (runesL s 0))[i]?=some [.int .i32 (runesL s 0)[i]]:=by intro i h;simp [runeRows,i3,h]
 generalize runesL s 0=L at *
 obtain ⟨G,hG⟩: ∃G,G=goodR L:=⟨_,rfl⟩
 rw [←hG]
 generalize runeRows L=RR at *
 simp -implicitDefEqProofs [c58]
 refine onC_mk _ (R) ?_
 simp -implicitDefEqProofs
 refine wp_lpk (α:=Nat) (fun i=>⟨[(3,.sl RR),(4,i6 i)],[],[]⟩) (fun i=>i≤L.length∧goodR (L.drop i)=G) (fun i=>L.length - i) ?_ 0 ?_ ?_
 ·rintro K i hK ⟨h1,h2⟩
  by_cases g:i<L.length
  ·have t1:IntKind.i64.wrap ((i:Int)+1)=(i+1:Nat):=by rw [wrap_i64]<;>omega
   have ra:=rat i g
   rw [List.drop_eq_getElem_cons g] at h2
   simp only [goodR,List.all_cons] at h2
   have gR:i<RR.length:=by omega
   have ra': ∀h,RR[i]'h=[.int .i32 L[i]]:=fun h=>by rw [List.getElem?_eq_getElem h] at ra;exact Option.some.inj ra
   have fin:decide (0≤L[i])=true→ ∀σ',Weak σ' ⟨[(3,.sl RR),(4,i6 (i+1:Nat))],[],[]⟩→K σ':=fun hd σ' hσ=>hK (i+1) σ' ⟨by omega,by rw [hd,Bool.true_and] at h2;exact h2⟩ (by omega) hσ
   generalize L[i]=r at *
   by_cases hr:r<0
   ·rw [decide_eq_false (by omega),Bool.false_and] at h2
    subst h2
    simp -implicitDefEqProofs [rl,g,gR,ra',hr]
   ·have fin:=fin (decide_eq_true (by omega))
    clear hK
    simp -implicitDefEqProofs [rl,g,gR,ra',hr]
    refine fin _ (weak_mk ?_ ?_ ?_ ?_ ?_ ?_)<;>simp -implicitDefEqProofs [t1]
  ·obtain rfl:i=L.length:=by omega
   rw [List.drop_length] at h2
   have:G=true:=by rw [←h2];rfl
   subst this
   simp -implicitDefEqProofs [rl]
 ·exact ⟨Nat.zero_le _,hG.symm⟩
 ·refine weak_mk ?_ ?_ ?_ ?_ ?_ ?_<;>simp -implicitDefEqProofs
theorem tcount_spec (s:List UInt8) (hl:s.length≤900000):Sp Tryz.prog gl 80 [.str s] (i6 (runesL s 0).length):=by
 refine s80 rfl rfl ?_
 obtain ⟨R,hR⟩: ∃R,R=(runesL s 0).length:=⟨_,rfl⟩
 rw [←hR]
 simp -implicitDefEqProofs [c80]
 refine wp_lpk (α:=Nat×Nat) (fun x=>⟨[(3,i6 x.2),(5,.itp 5)],[(.it 5,[.itr s x.1])],[]⟩)
  (fun x=>x.2≤x.1∧x.2+(runesL s x.1).length=R∧x.1≤s.length+3) (fun x=>s.length+4 - x.1) ?_ (0,0) ?_ ?_
 ·rintro K ⟨i,n⟩ hK ⟨h1,h2,h3⟩
  simp only at h1 h2 h3
  by_cases g:i<s.length
  ·rw [runesL_in g] at h2
   simp only [List.length_cons] at h2
   have sw:=rune_w s i g
   have sl:=stepR_lt g
   have sp:=stepR_pos s i
   have fin: ∀σ',Weak σ' ⟨[(3,i6 (n+1:Nat)),(5,.itp 5)],[(.it 5,[.itr s (i+(stepR s i).2)])],[]⟩→K σ':=
    fun σ' hσ=>hK (i+(stepR s i).2,n+1) σ' ⟨by simp only;omega,by simp only;omega,by simp only;omega⟩ (by simp only;omega) hσ
   have t1:IntKind.i64.wrap ((n:Int)+1)=(n+1:Nat):=by rw [wrap_i64]<;>omega
   clear hK hR h2
   simp -implicitDefEqProofs [g,sw]
   refine fin _ (weak_mk ?_ ?_ ?_ ?_ ?_ ?_)<;>simp -implicitDefEqProofs [t1]
  ·rw [runesL_out g] at h2
   have:n=R:=by simpa using h2
   subst this
   simp -implicitDefEqProofs [g]
 ·exact ⟨Nat.le_refl _,by simp [hR],by simp⟩
 ·refine weak_mk ?_ ?_ ?_ ?_ ?_ ?_<;>simp -implicitDefEqProofs
end Go.Ai
namespace Go.Ai
open Go.Proofs Go.Shelf
def ren_laysJoin:Ren:={
 f:=fun x=>match x with
  |156=>155
  |165=>207
  |166=>129
  |169=>130
  |240=>185
  |241=>241
  |276=>229
  |277=>272
  |n=>n
 t:=fun x=>match x with
  |31=>194
  |9=>9
  |3=>3
  |4=>4
  |0=>0
  |20=>20
  |72=>173
  |76=>176
  |70=>171
  |37=>47
  |75=>175
  |127=>232
  |164=>267
  |5=>5
  |80=>179
  |n=>n
 g:=fun x=>x}
set_option maxRecDepth 100000 in
theorem laysJoin:Lays.n156 Tryz.prog ren_laysJoin where
 mixed:=by kernel_rfl
 f156:=Eq.trans Tryz.func155 (congrArg some (show Tryz.f155=Body.n156 ren_laysJoin by kernel_rfl))
 f165:=Eq.trans Tryz.func207 (congrArg some (show Tryz.f207=Body.n165 ren_laysJoin by kernel_rfl))
 f166:=Eq.trans Tryz.func129 (congrArg some (show Tryz.f129=Body.n166 ren_laysJoin by kernel_rfl))
 f169:=Eq.trans Tryz.func130 (congrArg some (show Tryz.f130=Body.n169 ren_laysJoin by kernel_rfl))
 f240:=Eq.trans Tryz.func185 (congrArg some (show Tryz.f185=Body.n240 ren_laysJoin by kernel_rfl))
 f241:=Eq.trans Tryz.func241 (congrArg some (show Tryz.f241=Body.n241 ren_laysJoin by kernel_rfl))
 f276:=Eq.trans Tryz.func229 (congrArg some (show Tryz.f229=Body.n276 ren_laysJoin by kernel_rfl))
 f277:=Eq.trans Tryz.func272 (congrArg some (show Tryz.f272=Body.n277 ren_laysJoin by kernel_rfl))
 t0:=Tryz.underlying0
 a0:=Tryz.isAgg0
 z0:=Tryz.sizeOf0
 v0:=Tryz.zeroValue0
 t3:=Tryz.underlying3
 a3:=Tryz.isAgg3
 z3:=Tryz.sizeOf3
 v3:=Tryz.zeroValue3
 t4:=Tryz.underlying4
 a4:=Tryz.isAgg4
 z4:=Tryz.sizeOf4
 v4:=Tryz.zeroValue4
 t9:=Tryz.underlying9
 a9:=Tryz.isAgg9
 z9:=Tryz.sizeOf9
 v9:=Tryz.zeroValue9
 t20:=Tryz.underlying20
 a20:=Tryz.isAgg20
 z20:=Tryz.sizeOf20
 v20:=Tryz.zeroValue20
 t31:=Tryz.underlying194
 a31:=Tryz.isAgg194
 z31:=Tryz.sizeOf194
 v31:=Tryz.zeroValue194
 t37:=Tryz.underlying47
 a37:=Tryz.isAgg47
 z37:=Tryz.sizeOf47
 v37:=Tryz.zeroValue47
 t70:=Tryz.underlying171
 a70:=Tryz.isAgg171
 z70:=Tryz.sizeOf171
 v70:=Tryz.zeroValue171
 t72:=Tryz.underlying173
 a72:=Tryz.isAgg173
 z72:=Tryz.sizeOf173
 v72:=Tryz.zeroValue173
 t75:=Tryz.underlying175
 a75:=Tryz.isAgg175
 z75:=Tryz.sizeOf175
 v75:=Tryz.zeroValue175
 t76:=Tryz.underlying176
 a76:=Tryz.isAgg176
 z76:=Tryz.sizeOf176
 v76:=Tryz.zeroValue176
 t127:=Tryz.underlying232
 a127:=Tryz.isAgg232
 z127:=Tryz.sizeOf232
 v127:=Tryz.zeroValue232
 t164:=Tryz.underlying267
 a164:=Tryz.isAgg267
 z164:=Tryz.sizeOf267
 v164:=Tryz.zeroValue267
def ren_laysSmall:Ren:={
 f:=fun x=>match x with
  |283=>187
  |n=>n
 t:=fun x=>match x with
  |3=>3
  |9=>9
  |4=>4
  |n=>n
 g:=fun x=>x}
set_option maxRecDepth 100000 in
theorem laysSmall:Lays.n283 Tryz.prog ren_laysSmall where
 mixed:=by kernel_rfl
 f283:=Eq.trans Tryz.func187 (congrArg some (show Tryz.f187=Body.n283 ren_laysSmall by kernel_rfl))
 t3:=Tryz.underlying3
 a3:=Tryz.isAgg3
 z3:=Tryz.sizeOf3
 v3:=Tryz.zeroValue3
 t4:=Tryz.underlying4
 a4:=Tryz.isAgg4
 z4:=Tryz.sizeOf4
 v4:=Tryz.zeroValue4
 t9:=Tryz.underlying9
 a9:=Tryz.isAgg9
 z9:=Tryz.sizeOf9
 v9:=Tryz.zeroValue9
def ren_laysDig:Ren:={
 f:=fun x=>match x with
  |284=>188
  |129=>232
  |317=>231
  |318=>233
  |n=>n
 t:=fun x=>match x with
  |53=>22
  |3=>3
  |212=>271
  |0=>0
  |4=>4
  |46=>207
  |5=>5
  |9=>9
  |n=>n
 g:=fun x=>match x with
  |17=>2
  |n=>n}
set_option maxRecDepth 100000 in
theorem laysDig:LaysM.n284 Tryz.prog ren_laysDig where
 mixed:=by kernel_rfl
 f129:=Eq.trans Tryz.func232 (congrArg some (show Tryz.f232=Body.n129 ren_laysDig by kernel_rfl))
 f284:=Eq.trans Tryz.func188 (congrArg some (show Tryz.f188=Body.n284 ren_laysDig by kernel_rfl))
 f317:=Eq.trans Tryz.func231 (congrArg some (show Tryz.f231=Body.n317 ren_laysDig by kernel_rfl))
 f318:=Eq.trans Tryz.func233 (congrArg some (show Tryz.f233=Body.n318 ren_laysDig by kernel_rfl))
 t0:=Tryz.underlying0
 a0:=Tryz.isAgg0
 z0:=Tryz.sizeOf0
 v0:=Tryz.zeroValue0
 t3:=Tryz.underlying3
 a3:=Tryz.isAgg3
 z3:=Tryz.sizeOf3
 v3:=Tryz.zeroValue3
 t4:=Tryz.underlying4
 a4:=Tryz.isAgg4
 z4:=Tryz.sizeOf4
 v4:=Tryz.zeroValue4
 t5:=Tryz.underlying5
 a5:=Tryz.isAgg5
 z5:=Tryz.sizeOf5
 v5:=Tryz.zeroValue5
 t9:=Tryz.underlying9
 a9:=Tryz.isAgg9
 z9:=Tryz.sizeOf9
 v9:=Tryz.zeroValue9
 t46:=Tryz.underlying207
 a46:=Tryz.isAgg207
 z46:=Tryz.sizeOf207
 v46:=Tryz.zeroValue207
 t53:=Tryz.underlying22
 a53:=Tryz.isAgg22
 z53:=Tryz.sizeOf22
 v53:=Tryz.zeroValue22
 t212:=Tryz.underlying271
 a212:=Tryz.isAgg271
 z212:=Tryz.sizeOf271
 v212:=Tryz.zeroValue271
 g17:=by kernel_rfl
 i0:=by kernel_rfl
 i3:=by kernel_rfl
 i4:=by kernel_rfl
 i5:=by kernel_rfl
 i9:=by kernel_rfl
 i46:=by kernel_rfl
 i53:=by kernel_rfl
 i212:=by kernel_rfl
 m17:=by kernel_rfl
def ren_laysFmt:Ren:={
 f:=fun x=>match x with
  |285=>189
  |n=>n
 t:=fun x=>match x with
  |37=>47
  |53=>22
  |3=>3
  |4=>4
  |51=>66
  |9=>9
  |5=>5
  |0=>0
  |n=>n
 g:=fun x=>x}
set_option maxRecDepth 100000 in
theorem laysFmt:Lays.n285 Tryz.prog ren_laysFmt where
 mixed:=by kernel_rfl
 f285:=Eq.trans Tryz.func189 (congrArg some (show Tryz.f189=Body.n285 ren_laysFmt by kernel_rfl))
 t0:=Tryz.underlying0
 a0:=Tryz.isAgg0
 z0:=Tryz.sizeOf0
 v0:=Tryz.zeroValue0
 t3:=Tryz.underlying3
 a3:=Tryz.isAgg3
 z3:=Tryz.sizeOf3
 v3:=Tryz.zeroValue3
 t4:=Tryz.underlying4
 a4:=Tryz.isAgg4
 z4:=Tryz.sizeOf4
 v4:=Tryz.zeroValue4
 t5:=Tryz.underlying5
 a5:=Tryz.isAgg5
 z5:=Tryz.sizeOf5
 v5:=Tryz.zeroValue5
 t9:=Tryz.underlying9
 a9:=Tryz.isAgg9
 z9:=Tryz.sizeOf9
 v9:=Tryz.zeroValue9
 t37:=Tryz.underlying47
 a37:=Tryz.isAgg47
 z37:=Tryz.sizeOf47
 v37:=Tryz.zeroValue47
 t51:=Tryz.underlying66
 a51:=Tryz.isAgg66
 z51:=Tryz.sizeOf66
 v51:=Tryz.zeroValue66
 t53:=Tryz.underlying22
 a53:=Tryz.isAgg22
 z53:=Tryz.sizeOf22
 v53:=Tryz.zeroValue22
def ren_laysValid:Ren:={
 f:=fun x=>match x with
  |196=>139
  |259=>193
  |n=>n
 t:=fun x=>match x with
  |9=>9
  |4=>4
  |3=>3
  |5=>5
  |12=>12
  |119=>239
  |0=>0
  |46=>207
  |139=>242
  |138=>241
  |53=>22
  |n=>n
 g:=fun x=>match x with
  |3=>0
  |4=>1
  |n=>n}
set_option maxRecDepth 100000 in
theorem laysValid:Lays.n196 Tryz.prog ren_laysValid where
 mixed:=by kernel_rfl
 f196:=Eq.trans Tryz.func139 (congrArg some (show Tryz.f139=Body.n196 ren_laysValid by kernel_rfl))
 f259:=Eq.trans Tryz.func193 (congrArg some (show Tryz.f193=Body.n259 ren_laysValid by kernel_rfl))
 t0:=Tryz.underlying0
 a0:=Tryz.isAgg0
 z0:=Tryz.sizeOf0
 v0:=Tryz.zeroValue0
 t3:=Tryz.underlying3
 a3:=Tryz.isAgg3
 z3:=Tryz.sizeOf3
 v3:=Tryz.zeroValue3
 t4:=Tryz.underlying4
 a4:=Tryz.isAgg4
 z4:=Tryz.sizeOf4
 v4:=Tryz.zeroValue4
 t5:=Tryz.underlying5
 a5:=Tryz.isAgg5
 z5:=Tryz.sizeOf5
 v5:=Tryz.zeroValue5
 t9:=Tryz.underlying9
 a9:=Tryz.isAgg9
 z9:=Tryz.sizeOf9
 v9:=Tryz.zeroValue9
 t12:=Tryz.underlying12
 a12:=Tryz.isAgg12
 z12:=Tryz.sizeOf12
 v12:=Tryz.zeroValue12
 t46:=Tryz.underlying207
 a46:=Tryz.isAgg207
 z46:=Tryz.sizeOf207
 v46:=Tryz.zeroValue207
 t53:=Tryz.underlying22
 a53:=Tryz.isAgg22
 z53:=Tryz.sizeOf22
 v53:=Tryz.zeroValue22
 t119:=Tryz.underlying239
 a119:=Tryz.isAgg239
 z119:=Tryz.sizeOf239
 t138:=Tryz.underlying241
 a138:=Tryz.isAgg241
 z138:=Tryz.sizeOf241
 v138:=Tryz.zeroValue241
 t139:=Tryz.underlying242
 a139:=Tryz.isAgg242
 z139:=Tryz.sizeOf242
 v139:=Tryz.zeroValue242
 g3:=by kernel_rfl
 g4:=by kernel_rfl
open Go.Proofs
theorem first_gl:List.lookup 0 gl=some ((List.range 256).map fun c=>Value.int .u8 (Lib.firstT c)):=by kernel_rfl
theorem accept_gl:List.lookup 1 gl=some ((List.range 32).map fun c=>Value.int .u8 (if c%2=0 then Lib.accLo (c / 2) else Lib.accHi (c / 2))):=by kernel_rfl
theorem utf8_tabs {w:World} (h: ∀i us,List.lookup i gl=some us→ ∀(o:Nat) (u:Value),us[o]?=some u→w.cell? ⟨i,o,none⟩=some u):Lib.Utf8Tabs 0 1 w:=by
 refine ⟨fun c hc=>?_,fun i hi=>⟨?_,?_⟩⟩
 ·exact h _ _ first_gl c _ (by simp [hc])
 ·refine h _ _ accept_gl (2*i) _ ?_
  have h1:2*i<32:=by omega
  have h2:2*i%2=0:=by omega
  have h3:2*i / 2=i:=by omega
  simp [h1,h2,h3]
 ·refine h _ _ accept_gl (2*i+1) _ ?_
  have h1:2*i+1<32:=by omega
  have h2: ¬(2*i+1)%2=0:=by omega
  have h3:(2*i+1) / 2=i:=by omega
  simp only [List.getElem?_map,List.getElem?_range h1,Option.map_some,if_neg h2,h3]
theorem valid_spec (s:List UInt8) (hl:s.length≤900000):Sp Tryz.prog gl 139 [.str s] (.bool (Lib.validD s)):=by
 refine shelf_specG Tryz.func139 (by kernel_rfl) (by kernel_rfl) ?_
 intro S gb w vs hvs hag hgl
 simp only [PRlist,PR] at hvs
 obtain ⟨_,_,rfl,rfl,rfl⟩:=hvs
 have hs:(ByteArray.mk s.toArray).size≤9223372036854775807:=by
  have:(ByteArray.mk s.toArray).size=s.length:=rfl
  omega
 exact (Any.utf8_ValidString laysValid ⟨s.toArray⟩ w hs (utf8_tabs hgl)).mono fun e w' ⟨he,hw⟩=>⟨_,he,hw,by simp [PR]⟩
theorem tgood_spec (s:List UInt8) (hl:s.length≤900000):Sp Tryz.prog gl 79 [.str s] (.bool (goodR (runesL s 0))):=by
 refine s79 rfl rfl ?_
 have V:=valid_spec s hl
 rw [validD_good] at V
 generalize goodR (runesL s 0)=b at *
 simp -implicitDefEqProofs [c79]
 refine onC_mk _ (V) ?_
 simp -implicitDefEqProofs
end Go.Ai
