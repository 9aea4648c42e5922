/- CompileTurns, for every input: the law returns true, never panics, and its arguments read as they did; the listed tables are tied to the program's text. Conditions: none beyond the given statement's own. -/
import Derived.Test.YtojgeamhdkphaaaGreatDoorP18
import Derived.Lib.LaidU8
import Derived.Lib.TrailingZeros
import Derived.Test.YtojgeamhdkphaaaGreatDoorLib12
import Derived.Test.YtojgeamhdkphaaaGreatDoorRows
import Derived.Test.YtojgeamhdkphaaaGreatDoorCards
import Derived.Test.YtojgeamhdkphaaaGreatDoorTie
import Derived.ProofKit
import Derived.LaidMore
import Derived.Lay
import Derived.OpenShut
import Derived.Stop.Joined
import Derived.SevenTiedAt
import Derived.MakeChecks
import Derived.Stop.LaidErr
set_option linter.constructorNameAsVariable false
namespace Go.Proofs.YtojgeamhdkphaaaGreatDoor.compileTurns
open Go Go.ChangeShapes Go.WideShapes Go.ChangeAt Go.RowKit Go.Ai
theorem own:ownKnob Tryz.prog.godebug=none:=by kernel_rfl
theorem laid:laidOutB Tryz.prog=true:=by kernel_rfl
/-- The types of the arguments, and of what they hold. -/
def tys:List TypeId:=[9,3]
theorem tys_ok:Mg Tryz.prog tys=true:=by kernel_rfl
theorem str_of (n:Nat) (cs:List AV) (h:D2 Tryz.prog n 9 cs): ∃s:List UInt8,cs=[.str s]∧s.length≤9223372036854775807:=by
  cases n with
  |zero=>exact h.elim
  |succ n=>
    simp [D2,-Bool.exists_bool] at h
    obtain ⟨s,rfl,hs⟩:=h
    exact ⟨s,rfl,by simpa [maxLen] using hs⟩
theorem int_of (n:Nat) (cs:List AV) (h:D2 Tryz.prog n 3 cs): ∃i:Int,cs=[.int .i64 i]:=by
  cases n with
  |zero=>exact h.elim
  |succ n=>
    simp [D2,-Bool.exists_bool] at h
    obtain ⟨i,rfl,_⟩:=h
    exact ⟨i,rfl⟩
set_option maxRecDepth 100000 in
theorem law (n:Nat) (l:List AV) (h:mV Tryz.prog n Tryz.f5.params.toList l):Sp Tryz.prog gl 5 l (.bool true):=by
  rw [Tryz.params5] at h
  simp only [mV] at h
  obtain ⟨cs1,_,rfl,h1,cs2,_,rfl,h2,cs3,_,rfl,h3,cs4,_,rfl,h4,rfl⟩:=h
  obtain ⟨s1,rfl,l1⟩:=str_of n cs1 h1
  obtain ⟨z2,rfl⟩:=int_of n cs2 h2
  obtain ⟨z3,rfl⟩:=int_of n cs3 h3
  obtain ⟨z4,rfl⟩:=int_of n cs4 h4
  simp [Cw]
  exact ow s1 z2 z3 z4
theorem gl4:gl=[(0,firstCells),(1,oy),(5,(List.range 20).map fun q=>Value.int .u64 ((10^q:Nat):Int)),(7,Lib.deBruijn64tab.map fun z:Nat=>Value.int .u8 (z:Int))]:=by kernel_rfl
/-- The listed tables, as cells. -/
theorem glo (W:World) (h:laidMetH Tryz.prog Rows.compileTurnsRow.laid W): ∀i us,List.lookup i gl=some us→ ∀(o:Nat) (u:Value),us[o]?=some u→W.cell? ⟨i,o,none⟩=some u∧u.oneCell'=true:=by
  have h1:laidMet Tryz.prog Rows.compileTurnsRow.laid W:=(MakeChecks.laidMetH_plain Tryz.prog Rows.compileTurnsRow.laid W (by kernel_rfl))▸h
  have e:Rows.compileTurnsRow.laid.drop 1=[("math/bits.deBruijn64tab",Lib.tabData .u8 (Lib.deBruijn64tab.map fun z:Nat=>(z:Int))),("internal/strconv.uint64pow10",Lib.tabData .u64 Lib.pow10Tab),("unicode/utf8.acceptRanges",Lib.acceptData),("strconv.ErrRange",Rows.laid_strconv_ErrRange),("strconv.ErrSyntax",Rows.laid_strconv_ErrSyntax),("unicode/utf8.first",Lib.firstData)]:=by kernel_rfl
  have h2:laidMet Tryz.prog (Rows.compileTurnsRow.laid.drop 1) W:=laidMet.tail h1
  rw [e] at h2
  clear h1 h
  have hg:Tryz.prog.globalNamed "internal/strconv.uint64pow10"=some 5:=by kernel_rfl
  have hb:Tryz.prog.globalNamed "math/bits.deBruijn64tab"=some 7:=by kernel_rfl
  have B:=Lib.tabIs_of_head (t:=270) (e:=5) (n:=64) (zs:=Lib.deBruijn64tab.map fun z:Nat=>(z:Int)) (k:= .u8) (rest:=[("internal/strconv.uint64pow10",Lib.tabData .u64 Lib.pow10Tab),("unicode/utf8.acceptRanges",Lib.acceptData),("strconv.ErrRange",Rows.laid_strconv_ErrRange),("strconv.ErrSyntax",Rows.laid_strconv_ErrSyntax),("unicode/utf8.first",Lib.firstData)]) hb (by kernel_rfl) (by kernel_rfl) (by kernel_rfl) (by kernel_rfl) (by kernel_rfl) h2
  have T:=Lib.tabIs_of_head (t:=265) (e:=56) (n:=20) (zs:=Lib.pow10Tab) (k:= .u64) (rest:=[("unicode/utf8.acceptRanges",Lib.acceptData),("strconv.ErrRange",Rows.laid_strconv_ErrRange),("strconv.ErrSyntax",Rows.laid_strconv_ErrSyntax),("unicode/utf8.first",Lib.firstData)]) hg (by kernel_rfl) (by kernel_rfl) (by kernel_rfl) (by kernel_rfl) (by kernel_rfl) (laidMet.tail h2)
  have A:=H4 (Lib.laidMet.reads (n:= "unicode/utf8.acceptRanges") (d:=Lib.acceptData) h2 (by simp))
  have F:=BQ (Lib.laidMet.reads (n:= "unicode/utf8.first") (d:=Lib.firstData) h2 (by simp))
  intro i us hi o u hu
  rw [gl4] at hi
  simp only [List.lookup] at hi
  split at hi
  · rename_i e
    have e:=eq_of_beq e
    subst e
    obtain rfl:=Option.some.inj hi
    exact F o u hu
  · split at hi
    · rename_i e
      have e:=eq_of_beq e
      subst e
      obtain rfl:=Option.some.inj hi
      exact A o u hu
    · split at hi
      · rename_i e
        have e:=eq_of_beq e
        subst e
        obtain rfl:=Option.some.inj hi
        have ho:o<20:=by have:=(List.getElem?_eq_some_iff.1 hu).1;simpa using this
        have hu2:u= .int .u64 ((10^o:Nat):Int):=by simpa [ho] using hu.symm
        subst hu2
        refine ⟨?_,rfl⟩
        rw [T.cell hg o (by rw [Lib.pow10Tab_length];exact ho),Lib.pow10Tab_at o ho]
      · split at hi
        · rename_i e
          have e:=eq_of_beq e
          subst e
          obtain rfl:=Option.some.inj hi
          have ho:o<64:=by have:=(List.getElem?_eq_some_iff.1 hu).1;simpa [Lib.deBruijn64tab] using this
          have hl:o<(Lib.deBruijn64tab.map fun z:Nat=>(z:Int)).length:=by simpa [Lib.deBruijn64tab] using ho
          have hu2:u= .int .u8 ((Lib.deBruijn64tab.map fun z:Nat=>(z:Int)).getD o 0):=by
            have:=(List.getElem?_eq_some_iff.1 hu).2
            rw [←this,List.getD_eq_getElem?_getD,List.getElem?_eq_getElem hl,Option.getD_some,List.getElem_map,List.getElem_map]
          subst hu2
          exact ⟨B.cell hb o hl,rfl⟩
        · cases hi
set_option maxRecDepth 100000 in
theorem contract (H:Type) (enc:TypeId×Value→H) (W:World) (base:Nat) (args:Array Value) (ds gs:List (DataW H)) (before:List MemPlace) (hX:laidMetH Tryz.prog Rows.compileTurnsRow.laid W)
    (hval: ∀(j:Nat) t v,Tryz.f5.params[j]?=some t→args[j]?=some v→Value.okWide Tryz.prog W .any base t v)
    (hW:DataW.Whole enc Tryz.prog Tryz.f5.params.toList Rows.compileTurnsSpec.vars false W args.toList ds gs before):
    Calls Tryz.prog 5 args W fun e W'=> ∃v,e= .returned v∧Rows.compileTurnsSpec.post enc Tryz.prog Tryz.f5 false true false false W args v W':=by
  have hok:(Tryz.f5.params.toList.all fun t=>tys.contains t)=true:=by kernel_rfl
  refine tT (GL:=gl) (dr:=dT) (T:=tys) (af:=a5) (tb:=4) Tryz.func5 m5 laid (by kernel_rfl) tys_ok hok (by kernel_rfl) Tryz.underlying4 (by kernel_rfl) hval hW (fun ds hd=>?_) (glo W hX) (fun n hn=>law n _ hn)
  obtain ⟨d1,d2,d3,d4,rfl⟩: ∃d1 d2 d3 d4,ds=[d1,d2,d3,d4]:=by
    match ds,hd with
    |[d1,d2,d3,d4],hd=>exact ⟨d1,d2,d3,d4,rfl⟩
  exact ⟨rfl,rfl,rfl⟩
abbrev tabs:=Rows.compileTurnsRow.laid
set_option maxRecDepth 100000 in
theorem lifted (os:Os) (started:os.Started) (H:Type) (enc:TypeId×Value→H):
    ReturnsInHanded {} Tryz.checked os 5 .any (fun w args=>(Rows.compileTurnsSpec.pre enc Tryz.prog Tryz.f5 [] false w args∧laidMetH Tryz.prog tabs w)∧sizedMet enc Tryz.prog Tryz.f5 (OpenSpec.ofChange Rows.compileTurnsSpec) false w args)
      (Rows.compileTurnsSpec.post enc Tryz.prog Tryz.f5 false true false false):=by
  refine returnsInHanded_of_change_and (C:=Tryz.checked) (X:=fun w _=>laidMetH Tryz.prog tabs w) (fun _ _ _ hh h=>h.of_heap hh) own started (by kernel_rfl) Tryz.func5
    (ChangeSpec.witness_shaped (enc:=enc) (C:=Tryz.checked) (os:=os) (X:=fun w _=>laidMetH Tryz.prog tabs w) false (World.laidAll Tryz.prog os tabs) #[.string ⟨#[]⟩,.int .i64 0,.int .i64 0,.int .i64 0] 8 (World.laidAll_os _ _ _) (World.shaped_of_ZipB (by kernel_rfl) (by kernel_rfl)) (by kernel_rfl) (by kernel_rfl) (by kernel_rfl) (by rw [MakeChecks.laidMetH_plain _ _ _ (by kernel_rfl)];exact laidMet_laidAll _ (by kernel_rfl) (by kernel_rfl))) ?_
  intro W base args ds gs before hval hW _ _ hX _
  exact contract H enc W base args ds gs before hX hval hW
/-! The row's closed cells, one by one (all in one declaration is more memory than a build has). -/
theorem k_inp:Tryz.checked.prog.inPlace 5=Rows.compileTurnsRow.inPlace:=by kernel_rfl
theorem k_unf:Tryz.checked.prog.unfollowed 5=Rows.compileTurnsRow.unfollowed:=by kernel_rfl
theorem k_rec:Tryz.checked.prog.recurses 5=Rows.compileTurnsRow.recurses:=by kernel_rfl
theorem k_nam:Tryz.checked.prog.varsNamed 5=Rows.compileTurnsRow.named:=by kernel_rfl
theorem k_lay:laidOutB Tryz.checked.prog=true:=laid
theorem k_map:mapsRowed Tryz.checked.prog=true:=by kernel_rfl
theorem k_sth:Tryz.checked.prog.stopsHeard=true:=by kernel_rfl
theorem k_may:Tryz.checked.prog.mayEnter=true:=by kernel_rfl
theorem closed:joinedFacts Tryz.checked.prog 5 Tryz.f5 Rows.compileTurnsSpec Rows.compileTurnsRow=true:=by
  unfold joinedFacts
  rw [k_inp,k_unf,k_rec,k_nam,k_lay,k_map,k_sth,k_may]
  kernel_rfl
theorem row_proved:Rows.CompileTurnsSaid:=
  OpenClaim.holds_of_wide 5 Tryz.f5 rfl rfl rfl rfl rfl rfl rfl ⟨rfl,rfl,rfl,rfl,rfl⟩ rfl rfl rfl rfl rfl (by kernel_rfl) Tryz.func5 closed
    (of_decide_eq_true (by kernel_rfl)) (by unfold Func.isWrapper;first|(rw [if_pos (by decide+kernel)];kernel_rfl)|(rw [if_neg (by decide+kernel)];exact ⟨rfl,rfl⟩))
    (fun os started H enc _=>lifted os started H enc)
theorem proved:Rows.CompileTurnsCardSaid:=
  Claim7.holds_tied_plain_at .later [] [.data,.data,.data,.data,.sentinel,.sentinel,.pinned] true (true,"1db5c1dfeb179031ddc9cc0f4cc9a964dd282ff11ca27a8302056eaeeec512d1") true
    row_proved (fun _ h=>by cases h) (by kernel_rfl) (fun _ h=>by cases h) compileTurns_row_tie rfl ⟨rfl,rfl⟩ (by kernel_rfl) rfl
    (fun f fn hf hfn=>by
      obtain rfl:f=5:=Option.some.inj ((show Tryz.prog.funcNamed "firebell/firebelllaw16.CompileTurns"=some 5 by kernel_rfl).symm.trans hf) |>.symm
      obtain rfl:fn=Tryz.f5:=(Option.some.inj (Tryz.func5.symm.trans hfn)).symm
      exact ⟨by kernel_rfl,fun j t ht=>by
        have hm:t∈Tryz.f5.params.toList:=by simpa using Array.mem_of_getElem? ht
        have hall:(Tryz.f5.params.toList.all fun u=>!Tryz.prog.wantsStandIn u)=true:=by kernel_rfl
        exact (show Tryz.prog.wantsStandIn t=false by simpa using List.all_eq_true.1 hall t hm)⟩)
    (by kernel_rfl)
end Go.Proofs.YtojgeamhdkphaaaGreatDoor.compileTurns
