/- ScanPrints, for every input: the law returns true, never panics, and its arguments read as they did; the listed tables are tied to the program's text. Conditions: none beyond the given statement's own. -/
import Derived.Test.YthonkjadcpdphaaGreatDoorP21
import Derived.Lib.LaidU8
import Derived.Lib.TrailingZeros
import Derived.Test.YthonkjadcpdphaaGreatDoorAiIn
import Derived.Test.YthonkjadcpdphaaGreatDoorRows
import Derived.Test.YthonkjadcpdphaaGreatDoorCards
import Derived.Test.YthonkjadcpdphaaGreatDoorTie
import Derived.ProofKit
import Derived.LaidMore
import Derived.Lay
import Derived.OpenShut
import Derived.Stop.Joined
import Derived.SevenTiedAt
import Derived.MakeChecks
import Derived.Stop.LaidErr
set_option linter.constructorNameAsVariable false
namespace Go.Proofs.YthonkjadcpdphaaGreatDoor.scanPrints
open Go Go.ChangeShapes Go.WideShapes Go.ChangeAt Go.RowKit Go.Ai
theorem own:ownKnob Tryz.prog.godebug=none:=by kernel_rfl
theorem laid:laidOutB Tryz.prog=true:=by kernel_rfl
set_option maxRecDepth 100000 in
theorem tok_of {cs:List AV} (h:Shp Tryz.prog 4 49 cs): ∃(k:Int) (s:List UInt8) (n:Nat) (ln co:Int),cs=[.int .i64 k,.str s,.int .u64 n,.int .i64 ln,.int .i64 co]∧n<18446744073709551616:=by
  simp [Shp,shpF,-Bool.exists_bool] at h
  obtain ⟨_,_,rfl,⟨k,rfl,_⟩,_,_,rfl,⟨s,rfl,_⟩,_,_,rfl,⟨n,rfl,hn⟩,_,_,rfl,⟨ln,rfl,_⟩,co,rfl,_⟩:=h
  have be:=bounds_u64 hn
  obtain ⟨n,rfl⟩:=Int.eq_ofNat_of_zero_le be.1
  exact ⟨k,s,n,ln,co,rfl,by omega⟩
set_option maxRecDepth 100000 in
theorem law (l:List AV) (h:ShpAll Tryz.prog 4 Tryz.f7.params.toList l):Sp Tryz.prog gl 7 l (.bool true):=by
  rw [Tryz.params7] at h
  simp only [ShpAll] at h
  obtain ⟨cs1,_,rfl,h1,rfl⟩:=h
  obtain ⟨k,s,n,ln,co,rfl,hn⟩:=tok_of h1
  simp [argOf]
  exact sprints_spec k s n ln co hn
theorem gl4:gl=[(0,firstCells),(1,accCells),(2,(List.range 20).map fun q=>Value.int .u64 ((10^q:Nat):Int)),(7,Lib.deBruijn64tab.map fun z:Nat=>Value.int .u8 (z:Int))]:=by kernel_rfl
/-- The listed tables, as cells. -/
theorem glo (W:World) (h:laidMetH Tryz.prog Rows.scanPrintsRow.laid W): ∀i us,List.lookup i gl=some us→ ∀(o:Nat) (u:Value),us[o]?=some u→W.cell? ⟨i,o,none⟩=some u∧u.oneCell'=true:=by
  have h1:laidMet Tryz.prog Rows.scanPrintsRow.laid W:=(MakeChecks.laidMetH_plain Tryz.prog Rows.scanPrintsRow.laid W (by kernel_rfl))▸h
  have e:Rows.scanPrintsRow.laid.drop 1=[("math/bits.deBruijn64tab",Lib.tabData .u8 (Lib.deBruijn64tab.map fun z:Nat=>(z:Int))),("internal/strconv.uint64pow10",Lib.tabData .u64 Lib.pow10Tab),("unicode/utf8.acceptRanges",Lib.acceptData),("strconv.ErrRange",Rows.laid_strconv_ErrRange),("strconv.ErrSyntax",Rows.laid_strconv_ErrSyntax),("unicode/utf8.first",Lib.firstData)]:=by kernel_rfl
  have h2:laidMet Tryz.prog (Rows.scanPrintsRow.laid.drop 1) W:=laidMet.tail h1
  rw [e] at h2
  clear h1 h
  have hg:Tryz.prog.globalNamed "internal/strconv.uint64pow10"=some 2:=by kernel_rfl
  have hb:Tryz.prog.globalNamed "math/bits.deBruijn64tab"=some 7:=by kernel_rfl
  have B:=Lib.tabIs_of_head (t:=307) (e:=5) (n:=64) (zs:=Lib.deBruijn64tab.map fun z:Nat=>(z:Int)) (k:= .u8) (rest:=[("internal/strconv.uint64pow10",Lib.tabData .u64 Lib.pow10Tab),("unicode/utf8.acceptRanges",Lib.acceptData),("strconv.ErrRange",Rows.laid_strconv_ErrRange),("strconv.ErrSyntax",Rows.laid_strconv_ErrSyntax),("unicode/utf8.first",Lib.firstData)]) hb (by kernel_rfl) (by kernel_rfl) (by kernel_rfl) (by kernel_rfl) (by kernel_rfl) h2
  have T:=Lib.tabIs_of_head (t:=271) (e:=22) (n:=20) (zs:=Lib.pow10Tab) (k:= .u64) (rest:=[("unicode/utf8.acceptRanges",Lib.acceptData),("strconv.ErrRange",Rows.laid_strconv_ErrRange),("strconv.ErrSyntax",Rows.laid_strconv_ErrSyntax),("unicode/utf8.first",Lib.firstData)]) hg (by kernel_rfl) (by kernel_rfl) (by kernel_rfl) (by kernel_rfl) (by kernel_rfl) (laidMet.tail h2)
  have A:=acc_cell (Lib.laidMet.reads (n:= "unicode/utf8.acceptRanges") (d:=Lib.acceptData) h2 (by simp))
  have F:=first_cell (Lib.laidMet.reads (n:= "unicode/utf8.first") (d:=Lib.firstData) h2 (by simp))
  intro i us hi o u hu
  rw [gl4] at hi
  simp only [List.lookup] at hi
  split at hi
  · rename_i e
    have e:=eq_of_beq e
    subst e
    obtain rfl:=Option.some.inj hi
    exact F o u hu
  · split at hi
    · rename_i e
      have e:=eq_of_beq e
      subst e
      obtain rfl:=Option.some.inj hi
      exact A o u hu
    · split at hi
      · rename_i e
        have e:=eq_of_beq e
        subst e
        obtain rfl:=Option.some.inj hi
        have ho:o<20:=by have:=(List.getElem?_eq_some_iff.1 hu).1;simpa using this
        have hu2:u= .int .u64 ((10^o:Nat):Int):=by simpa [ho] using hu.symm
        subst hu2
        refine ⟨?_,rfl⟩
        rw [T.cell hg o (by rw [Lib.pow10Tab_length];exact ho),Lib.pow10Tab_at o ho]
      · split at hi
        · rename_i e
          have e:=eq_of_beq e
          subst e
          obtain rfl:=Option.some.inj hi
          have ho:o<64:=by have:=(List.getElem?_eq_some_iff.1 hu).1;simpa [Lib.deBruijn64tab] using this
          have hl:o<(Lib.deBruijn64tab.map fun z:Nat=>(z:Int)).length:=by simpa [Lib.deBruijn64tab] using ho
          have hu2:u= .int .u8 ((Lib.deBruijn64tab.map fun z:Nat=>(z:Int)).getD o 0):=by
            have:=(List.getElem?_eq_some_iff.1 hu).2
            rw [←this,List.getD_eq_getElem?_getD,List.getElem?_eq_getElem hl,Option.getD_some,List.getElem_map,List.getElem_map]
          subst hu2
          exact ⟨B.cell hb o hl,rfl⟩
        · cases hi
set_option maxRecDepth 100000 in
theorem contract (H:Type) (enc:TypeId×Value→H) (W:World) (base:Nat) (args:Array Value) (ds gs:List (DataW H)) (before:List MemPlace) (hX:laidMetH Tryz.prog Rows.scanPrintsRow.laid W)
    (hval: ∀(j:Nat) t v,Tryz.f7.params[j]?=some t→args[j]?=some v→Value.okWide Tryz.prog W .any base t v)
    (hW:DataW.Whole enc Tryz.prog Tryz.f7.params.toList Rows.scanPrintsSpec.vars false W args.toList ds gs before):
    Calls Tryz.prog 7 args W fun e W'=> ∃v,e= .returned v∧Rows.scanPrintsSpec.post enc Tryz.prog Tryz.f7 false true false false W args v W':=by
  have hA:=hW
  obtain ⟨p,q,hA,hrest⟩:=hA
  have hok:(Tryz.f7.params.toList.all fun t=>okT Tryz.prog 4 t)=true:=by kernel_rfl
  refine law_contract (GL:=gl) (dr:=drD) (n:=4) (af:=a7) (tb:=4) Tryz.func7 m7 laid (by kernel_rfl) hok (by kernel_rfl) Tryz.underlying4 (by kernel_rfl) hval hW (fun ds hd=>?_) (glo W hX) (law (avAll Tryz.prog 4 Tryz.f7.params.toList ds) (args_shp hok hA))
  obtain ⟨d1,rfl⟩: ∃d1,ds=[d1]:=by
    match ds,hd with
    |[d1],hd=>exact ⟨d1,rfl⟩
  exact ⟨rfl,rfl,rfl⟩
abbrev tabs:=Rows.scanPrintsRow.laid
set_option maxRecDepth 100000 in
theorem lifted (os:Os) (started:os.Started) (H:Type) (enc:TypeId×Value→H):
    ReturnsInHanded {} Tryz.checked os 7 .any (fun w args=>(Rows.scanPrintsSpec.pre enc Tryz.prog Tryz.f7 [] false w args∧laidMetH Tryz.prog tabs w)∧sizedMet enc Tryz.prog Tryz.f7 (OpenSpec.ofChange Rows.scanPrintsSpec) false w args)
      (Rows.scanPrintsSpec.post enc Tryz.prog Tryz.f7 false true false false):=by
  refine returnsInHanded_of_change_and (C:=Tryz.checked) (X:=fun w _=>laidMetH Tryz.prog tabs w) (fun _ _ _ hh h=>h.of_heap hh) own started (by kernel_rfl) Tryz.func7
    (ChangeSpec.witness_shaped (enc:=enc) (C:=Tryz.checked) (os:=os) (X:=fun w _=>laidMetH Tryz.prog tabs w) false (World.laidAll Tryz.prog os tabs) #[.agg #[.int .i64 0,.string ByteArray.empty,.int .u64 0,.int .i64 0,.int .i64 0]] 8 (World.laidAll_os _ _ _) (World.shaped_of_ZipB (by kernel_rfl) (by kernel_rfl)) (by kernel_rfl) (by kernel_rfl) (by kernel_rfl) (by rw [MakeChecks.laidMetH_plain _ _ _ (by kernel_rfl)];exact laidMet_laidAll _ (by kernel_rfl) (by kernel_rfl))) ?_
  intro W base args ds gs before hval hW _ _ hX _
  exact contract H enc W base args ds gs before hX hval hW
/-! The row's closed cells, one by one (all in one declaration is more memory than a build has). -/
theorem k_inp:Tryz.checked.prog.inPlace 7=Rows.scanPrintsRow.inPlace:=by kernel_rfl
theorem k_unf:Tryz.checked.prog.unfollowed 7=Rows.scanPrintsRow.unfollowed:=by kernel_rfl
theorem k_rec:Tryz.checked.prog.recurses 7=Rows.scanPrintsRow.recurses:=by kernel_rfl
theorem k_nam:Tryz.checked.prog.varsNamed 7=Rows.scanPrintsRow.named:=by kernel_rfl
theorem k_lay:laidOutB Tryz.checked.prog=true:=laid
theorem k_map:mapsRowed Tryz.checked.prog=true:=by kernel_rfl
theorem k_sth:Tryz.checked.prog.stopsHeard=true:=by kernel_rfl
theorem k_may:Tryz.checked.prog.mayEnter=true:=by kernel_rfl
theorem closed:joinedFacts Tryz.checked.prog 7 Tryz.f7 Rows.scanPrintsSpec Rows.scanPrintsRow=true:=by
  unfold joinedFacts
  rw [k_inp,k_unf,k_rec,k_nam,k_lay,k_map,k_sth,k_may]
  kernel_rfl
theorem row_proved:Rows.ScanPrintsSaid:=
  OpenClaim.holds_of_wide 7 Tryz.f7 rfl rfl rfl rfl rfl rfl rfl ⟨rfl,rfl,rfl,rfl,rfl⟩ rfl rfl rfl rfl rfl (by kernel_rfl) Tryz.func7 closed
    (of_decide_eq_true (by kernel_rfl)) (by unfold Func.isWrapper;first|(rw [if_pos (by decide+kernel)];kernel_rfl)|(rw [if_neg (by decide+kernel)];exact ⟨rfl,rfl⟩))
    (fun os started H enc _=>lifted os started H enc)
theorem proved:Rows.ScanPrintsCardSaid:=
  Claim7.holds_tied_plain_at .later [] [.data,.data,.data,.data,.sentinel,.sentinel,.pinned] true (true,"796412790c93638e35a5b0423ff7a9bfee5303c0baf32097814444fffb6b1097") true
    row_proved (fun _ h=>by cases h) (by kernel_rfl) (fun _ h=>by cases h) scanPrints_row_tie rfl ⟨rfl,rfl⟩ (by kernel_rfl) rfl
    (fun f fn hf hfn=>by
      obtain rfl:f=7:=Option.some.inj ((show Tryz.prog.funcNamed "firebell/firebelllaw13.ScanPrints"=some 7 by kernel_rfl).symm.trans hf) |>.symm
      obtain rfl:fn=Tryz.f7:=(Option.some.inj (Tryz.func7.symm.trans hfn)).symm
      exact ⟨by kernel_rfl,fun j t ht=>by
        have hm:t∈Tryz.f7.params.toList:=by simpa using Array.mem_of_getElem? ht
        have hall:(Tryz.f7.params.toList.all fun u=>!Tryz.prog.wantsStandIn u)=true:=by kernel_rfl
        exact (show Tryz.prog.wantsStandIn t=false by simpa using List.all_eq_true.1 hall t hm)⟩)
    (by kernel_rfl)
end Go.Proofs.YthonkjadcpdphaaGreatDoor.scanPrints
