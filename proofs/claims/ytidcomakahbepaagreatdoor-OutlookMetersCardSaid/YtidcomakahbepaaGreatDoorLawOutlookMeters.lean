/- OutlookMeters, for every input: the law returns true, never panics, and its arguments read as they did; the listed tables are tied to the program's text. Conditions: none beyond the given statement's own. -/
import Derived.Test.YtidcomakahbepaaGreatDoorP18
import Derived.Test.YtidcomakahbepaaGreatDoorAiIn
import Derived.Test.YtidcomakahbepaaGreatDoorRows
import Derived.Test.YtidcomakahbepaaGreatDoorCards
import Derived.Test.YtidcomakahbepaaGreatDoorTie
import Derived.ProofKit
import Derived.LaidMore
import Derived.Lay
import Derived.OpenShut
import Derived.Stop.Joined
import Derived.SevenTiedAt
import Derived.MakeChecks
import Derived.Stop.LaidErr
namespace Go.Proofs.YtidcomakahbepaaGreatDoor.outlookMeters
open Go Go.ChangeShapes Go.WideShapes Go.ChangeAt Go.RowKit Go.Ai
theorem own:ownKnob Tryz.prog.godebug=none:=by kernel_rfl
theorem laid:laidOutB Tryz.prog=true:=by kernel_rfl
set_option maxRecDepth 100000 in
theorem goal_ofh {cs:List AV} (h:Shp Tryz.prog 6 26 cs): ∃c:Gl,cs=c.row∧c.t<4294967296∧ ∀r∈c.ru,-9223372036854775808≤r.s∧r.s<9223372036854775808:=by
  simp [Shp,shpF,-Bool.exists_bool] at h
  obtain ⟨_,_,rfl,⟨n1,rfl,_⟩,_,_,rfl,⟨t1,rfl,ht1⟩,_,_,rfl,⟨g1,rfl,_⟩,_,_,rfl,⟨a1,rfl,_⟩,_,_,rfl,⟨o1,rfl,_⟩,_,_,rfl,⟨c1,rfl,_⟩,_,_,rfl,⟨lb,rfl,_,hlb⟩,ru,rfl,_,hru⟩:=h
  have bt:=bounds_u32 ht1
  obtain ⟨t1,rfl⟩:=Int.eq_ofNat_of_zero_le bt.1
  obtain ⟨lbs,rfl,_⟩:=rows_of (ok:=fun _:Lb=>True) (f:=Lb.row) (fun r hr=>by
    obtain ⟨_,_,rfl,⟨a,rfl,_⟩,b,rfl,_⟩:=hr
    exact ⟨⟨a,b⟩,trivial,rfl⟩) lb hlb
  obtain ⟨rus,rfl,hrs⟩:=rows_of (ok:=fun r:Ru=> -9223372036854775808≤r.s∧r.s<9223372036854775808) (f:=Ru.row) (fun r hr=>by
    obtain ⟨_,_,rfl,⟨n,rfl,_⟩,_,_,rfl,⟨p,rfl⟩,_,_,rfl,⟨l,rfl,_⟩,_,_,rfl,⟨s,rfl,hs⟩,_,_,rfl,⟨f,rfl,hf⟩,_,_,rfl,⟨w,rfl,_⟩,k,rfl,_⟩:=hr
    have bf:=bounds_u64 hf
    obtain ⟨f,rfl⟩:=Int.eq_ofNat_of_zero_le bf.1
    refine ⟨⟨n,p,l,s,f,w,k⟩,?_,rfl⟩
    have bs:=bounds_i64 hs
    show -9223372036854775808≤s∧s<9223372036854775808
    omega) ru hru
  refine ⟨⟨n1,t1,g1,a1,o1,c1,lbs,rus⟩,rfl,?_,hrs⟩
  show t1<4294967296
  have:=bt.2
  omega
set_option maxRecDepth 100000 in
theorem goal_of {cs:List AV} (h:Shp Tryz.prog 6 26 cs): ∃c:Gl,cs=c.row:=by
  obtain ⟨a,h,-⟩:=goal_ofh h
  exact ⟨a,h⟩
set_option maxRecDepth 100000 in
theorem acts_of {cs:List AV} (h:Shp Tryz.prog 6 27 cs): ∃l:List Ac,cs=[.sl (acRows l)]∧ ∀a∈l,a.t<18446744073709551616:=by
  simp [Shp,shpF,-Bool.exists_bool] at h
  obtain ⟨rs,rfl,_,hrs⟩:=h
  obtain ⟨l,rfl,hl⟩:=rows_of (ok:=fun a:Ac=>a.t<18446744073709551616) (f:=Ac.row) (fun r hr=>by
    obtain ⟨_,_,rfl,⟨k,rfl,_⟩,_,_,rfl,⟨a,rfl,_⟩,_,_,rfl,⟨g,rfl,hg⟩,t,rfl,ht⟩:=hr
    have bg:=bounds_u64 hg
    have bt:=bounds_u64 ht
    obtain ⟨g,rfl⟩:=Int.eq_ofNat_of_zero_le bg.1
    obtain ⟨t,rfl⟩:=Int.eq_ofNat_of_zero_le bt.1
    refine ⟨⟨k,a,g,t⟩,?_,rfl⟩
    show t<18446744073709551616
    have:=bt.2
    omega) rs hrs
  exact ⟨l,rfl,hl⟩
set_option maxRecDepth 100000 in
theorem law (l:List AV) (h:ShpAll Tryz.prog 6 Tryz.f11.params.toList l):Sp Tryz.prog gl 11 l (.bool true):=by
  rw [Tryz.params11] at h
  simp only [ShpAll] at h
  obtain ⟨cs1,_,rfl,h1,cs2,_,rfl,h2,cs3,_,rfl,h3,rfl⟩:=h
  obtain ⟨a1,rfl⟩:=goal_of h1
  obtain ⟨a2,rfl,b2⟩:=acts_of h2
  obtain ⟨a3,rfl,b3,e3⟩:=goal_ofh h3
  simp [argOf]
  exact outlookMeters_spec a1 a2 b2 a3 b3 e3
/-- The listed tables, as cells. -/
theorem glo (W:World) (h:laidMetH Tryz.prog Rows.outlookMetersRow.laid W): ∀i us,List.lookup i gl=some us→ ∀(o:Nat) (u:Value),us[o]?=some u→W.cell? ⟨i,o,none⟩=some u∧u.oneCell'=true:=by
  have h1:laidMet Tryz.prog Rows.outlookMetersRow.laid W:=(MakeChecks.laidMetH_plain Tryz.prog Rows.outlookMetersRow.laid W (by kernel_rfl))▸h
  have e:Rows.outlookMetersRow.laid=[("unicode/utf8.acceptRanges",Lib.acceptData),("unicode/utf8.first",Lib.firstData)]:=by kernel_rfl
  rw [e] at h1
  exact u8_glo W h1
set_option maxRecDepth 100000 in
theorem contract (H:Type) (enc:TypeId×Value→H) (W:World) (base:Nat) (args:Array Value) (ds gs:List (DataW H)) (before:List MemPlace) (hX:laidMetH Tryz.prog Rows.outlookMetersRow.laid W)
    (hval: ∀(j:Nat) t v,Tryz.f11.params[j]?=some t→args[j]?=some v→Value.okWide Tryz.prog W .any base t v)
    (hW:DataW.Whole enc Tryz.prog Tryz.f11.params.toList Rows.outlookMetersSpec.vars false W args.toList ds gs before):
    Calls Tryz.prog 11 args W fun e W'=> ∃v,e= .returned v∧Rows.outlookMetersSpec.post enc Tryz.prog Tryz.f11 false true false false W args v W':=by
  have hA:=hW
  obtain ⟨p,q,hA,hrest⟩:=hA
  have hok:(Tryz.f11.params.toList.all fun t=>okT Tryz.prog 6 t)=true:=by kernel_rfl
  refine law_contract (GL:=gl) (dr:=drD) (n:=6) (af:=a11) (tb:=4) Tryz.func11 m11 laid (by kernel_rfl) hok (by kernel_rfl) Tryz.underlying4 (by kernel_rfl) hval hW (fun ds hd=>?_) (glo W hX) (law (avAll Tryz.prog 6 Tryz.f11.params.toList ds) (args_shp hok hA))
  obtain ⟨d1,d2,d3,rfl⟩: ∃d1 d2 d3,ds=[d1,d2,d3]:=by
    match ds,hd with
    |[d1,d2,d3],hd=>exact ⟨d1,d2,d3,rfl⟩
  exact ⟨rfl,rfl,rfl⟩
abbrev tabs:=Rows.outlookMetersRow.laid
set_option maxRecDepth 100000 in
theorem lifted (os:Os) (started:os.Started) (H:Type) (enc:TypeId×Value→H):
    ReturnsInHanded {} Tryz.checked os 11 .any (fun w args=>(Rows.outlookMetersSpec.pre enc Tryz.prog Tryz.f11 [] false w args∧laidMetH Tryz.prog tabs w)∧sizedMet enc Tryz.prog Tryz.f11 (OpenSpec.ofChange Rows.outlookMetersSpec) false w args)
      (Rows.outlookMetersSpec.post enc Tryz.prog Tryz.f11 false true false false):=by
  refine returnsInHanded_of_change_and (C:=Tryz.checked) (X:=fun w _=>laidMetH Tryz.prog tabs w) (fun _ _ _ hh h=>h.of_heap hh) own started (by kernel_rfl) Tryz.func11
    (ChangeSpec.witness_shaped (enc:=enc) (C:=Tryz.checked) (os:=os) (X:=fun w _=>laidMetH Tryz.prog tabs w) false (World.laidAll Tryz.prog os tabs) #[.agg #[.string ByteArray.empty,.int .u32 0,.int .i64 0,.int .i64 0,.int .i64 0,.int .i64 0,.slice none 0 0,.slice none 0 0],.slice none 0 0,.agg #[.string ByteArray.empty,.int .u32 0,.int .i64 0,.int .i64 0,.int .i64 0,.int .i64 0,.slice none 0 0,.slice none 0 0]] 8 (World.laidAll_os _ _ _) (World.shaped_of_ZipB (by kernel_rfl) (by kernel_rfl)) (by kernel_rfl) (by kernel_rfl) (by kernel_rfl) (by rw [MakeChecks.laidMetH_plain _ _ _ (by kernel_rfl)];exact laidMet_laidAll _ (by kernel_rfl) (by kernel_rfl))) ?_
  intro W base args ds gs before hval hW _ _ hX _
  exact contract H enc W base args ds gs before hX hval hW
theorem row_proved:Rows.OutlookMetersSaid:=
  OpenClaim.holds_of_wide 11 Tryz.f11 rfl rfl rfl rfl rfl rfl rfl ⟨rfl,rfl,rfl,rfl,rfl⟩ rfl rfl rfl rfl rfl (by kernel_rfl) Tryz.func11 (by kernel_rfl)
    (of_decide_eq_true (by kernel_rfl)) (by unfold Func.isWrapper;first|(rw [if_pos (by decide+kernel)];kernel_rfl)|(rw [if_neg (by decide+kernel)];exact ⟨rfl,rfl⟩))
    (fun os started H enc _=>lifted os started H enc)
theorem proved:Rows.OutlookMetersCardSaid:=
  Claim7.holds_tied_plain_at .later [] [.data,.pinned] true (true,"055c9aa127578715188c24c1c9a866096700a7b998688bf1eb4ec109f2f34beb") false
    row_proved (fun _ h=>by cases h) (by kernel_rfl) (fun _ h=>by cases h) outlookMeters_row_tie rfl ⟨rfl,rfl⟩ (by kernel_rfl) rfl
    (fun f fn hf hfn=>by
      obtain rfl:f=11:=Option.some.inj ((show Tryz.prog.funcNamed "firebell/firebelllaw24.OutlookMeters"=some 11 by kernel_rfl).symm.trans hf) |>.symm
      obtain rfl:fn=Tryz.f11:=(Option.some.inj (Tryz.func11.symm.trans hfn)).symm
      exact ⟨by kernel_rfl,fun j t ht=>by
        have hm:t∈Tryz.f11.params.toList:=by simpa using Array.mem_of_getElem? ht
        have hall:(Tryz.f11.params.toList.all fun u=>!Tryz.prog.wantsStandIn u)=true:=by kernel_rfl
        exact (show Tryz.prog.wantsStandIn t=false by simpa using List.all_eq_true.1 hall t hm)⟩)
    (by kernel_rfl)
end Go.Proofs.YtidcomakahbepaaGreatDoor.outlookMeters
