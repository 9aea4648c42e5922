/- MeterReads, for every input: the law returns true, never panics, and its arguments read as they did; the listed tables are tied to the program's text. Conditions: none beyond the given statement's own. -/
import Derived.Test.YtidcomakahbepaaGreatDoorP22
import Derived.Test.YtidcomakahbepaaGreatDoorAiIn
import Derived.Test.YtidcomakahbepaaGreatDoorRows
import Derived.Test.YtidcomakahbepaaGreatDoorCards
import Derived.Test.YtidcomakahbepaaGreatDoorTie
import Derived.ProofKit
import Derived.LaidMore
import Derived.Lay
import Derived.OpenShut
import Derived.Stop.Joined
import Derived.SevenTiedAt
import Derived.MakeChecks
import Derived.Stop.LaidErr
namespace Go.Proofs.YtidcomakahbepaaGreatDoor.meterReads
open Go Go.ChangeShapes Go.WideShapes Go.ChangeAt Go.RowKit Go.Ai
theorem own:ownKnob Tryz.prog.godebug=none:=by kernel_rfl
theorem laid:laidOutB Tryz.prog=true:=by kernel_rfl
set_option maxRecDepth 100000 in
theorem goal_of {cs:List AV} (h:Shp Tryz.prog 6 26 cs): ∃c:Gl,cs=c.row:=by
  simp [Shp,shpF,-Bool.exists_bool] at h
  obtain ⟨_,_,rfl,⟨n1,rfl,_⟩,_,_,rfl,⟨t1,rfl,ht1⟩,_,_,rfl,⟨g1,rfl,_⟩,_,_,rfl,⟨a1,rfl,_⟩,_,_,rfl,⟨o1,rfl,_⟩,_,_,rfl,⟨c1,rfl,_⟩,_,_,rfl,⟨lb,rfl,_,hlb⟩,ru,rfl,_,hru⟩:=h
  have bt:=bounds_u32 ht1
  obtain ⟨t1,rfl⟩:=Int.eq_ofNat_of_zero_le bt.1
  obtain ⟨lbs,rfl,_⟩:=rows_of (ok:=fun _:Lb=>True) (f:=Lb.row) (fun r hr=>by
    obtain ⟨_,_,rfl,⟨a,rfl,_⟩,b,rfl,_⟩:=hr
    exact ⟨⟨a,b⟩,trivial,rfl⟩) lb hlb
  obtain ⟨rus,rfl,_⟩:=rows_of (ok:=fun _:Ru=>True) (f:=Ru.row) (fun r hr=>by
    obtain ⟨_,_,rfl,⟨n,rfl,_⟩,_,_,rfl,⟨p,rfl⟩,_,_,rfl,⟨l,rfl,_⟩,_,_,rfl,⟨s,rfl,_⟩,_,_,rfl,⟨f,rfl,hf⟩,_,_,rfl,⟨w,rfl,_⟩,k,rfl,_⟩:=hr
    have bf:=bounds_u64 hf
    obtain ⟨f,rfl⟩:=Int.eq_ofNat_of_zero_le bf.1
    exact ⟨⟨n,p,l,s,f,w,k⟩,trivial,rfl⟩) ru hru
  exact ⟨⟨n1,t1,g1,a1,o1,c1,lbs,rus⟩,rfl⟩
set_option maxRecDepth 100000 in
theorem bytes_of {cs:List AV} (h:Shp Tryz.prog 6 57 cs): ∃l:List UInt8,cs=[.sl (byteRows l)]:=by
  simp [Shp,-Bool.exists_bool] at h
  obtain ⟨rs,rfl,_,hrs⟩:=h
  obtain ⟨l,rfl,_⟩:=rows_of (ok:=fun _:UInt8=>True) (f:=fun b=>[.int .u8 b.toNat]) (fun r hr=>by
    obtain ⟨n,rfl,hn⟩:=hr
    have b:=bounds_u8 hn
    refine ⟨UInt8.ofNat n.toNat,trivial,?_⟩
    have e:(UInt8.ofNat n.toNat).toNat=n.toNat:=by simp;omega
    rw [e,Int.toNat_of_nonneg b.1]) rs hrs
  exact ⟨l,rfl⟩
set_option maxRecDepth 100000 in
theorem law (l:List AV) (h:ShpAll Tryz.prog 6 Tryz.f6.params.toList l):Sp Tryz.prog gl 6 l (.bool true):=by
  rw [Tryz.params6] at h
  simp only [ShpAll] at h
  obtain ⟨cs1,_,rfl,h1,cs2,_,rfl,h2,cs3,_,rfl,h3,rfl⟩:=h
  obtain ⟨a1,rfl⟩:=goal_of h1
  obtain ⟨a2,rfl⟩:=bytes_of h2
  simp [Shp] at h3
  obtain ⟨a3,rfl,_⟩:=h3
  simp [argOf]
  exact meterReads_spec a1 a2 a3
/-- The listed tables, as cells. -/
theorem glo (W:World) (h:laidMetH Tryz.prog Rows.meterReadsRow.laid W): ∀i us,List.lookup i gl=some us→ ∀(o:Nat) (u:Value),us[o]?=some u→W.cell? ⟨i,o,none⟩=some u∧u.oneCell'=true:=by
  have h1:laidMet Tryz.prog Rows.meterReadsRow.laid W:=(MakeChecks.laidMetH_plain Tryz.prog Rows.meterReadsRow.laid W (by kernel_rfl))▸h
  have e:Rows.meterReadsRow.laid=[("unicode/utf8.acceptRanges",Lib.acceptData),("unicode/utf8.first",Lib.firstData)]:=by kernel_rfl
  rw [e] at h1
  exact u8_glo W h1
set_option maxRecDepth 100000 in
theorem contract (H:Type) (enc:TypeId×Value→H) (W:World) (base:Nat) (args:Array Value) (ds gs:List (DataW H)) (before:List MemPlace) (hX:laidMetH Tryz.prog Rows.meterReadsRow.laid W)
    (hval: ∀(j:Nat) t v,Tryz.f6.params[j]?=some t→args[j]?=some v→Value.okWide Tryz.prog W .any base t v)
    (hW:DataW.Whole enc Tryz.prog Tryz.f6.params.toList Rows.meterReadsSpec.vars false W args.toList ds gs before):
    Calls Tryz.prog 6 args W fun e W'=> ∃v,e= .returned v∧Rows.meterReadsSpec.post enc Tryz.prog Tryz.f6 false true false false W args v W':=by
  have hA:=hW
  obtain ⟨p,q,hA,hrest⟩:=hA
  have hok:(Tryz.f6.params.toList.all fun t=>okT Tryz.prog 6 t)=true:=by kernel_rfl
  refine law_contract (GL:=gl) (dr:=drD) (n:=6) (af:=a6) (tb:=4) Tryz.func6 m6 laid (by kernel_rfl) hok (by kernel_rfl) Tryz.underlying4 (by kernel_rfl) hval hW (fun ds hd=>?_) (glo W hX) (law (avAll Tryz.prog 6 Tryz.f6.params.toList ds) (args_shp hok hA))
  obtain ⟨d1,d2,d3,rfl⟩: ∃d1 d2 d3,ds=[d1,d2,d3]:=by
    match ds,hd with
    |[d1,d2,d3],hd=>exact ⟨d1,d2,d3,rfl⟩
  exact ⟨rfl,rfl,rfl⟩
abbrev tabs:=Rows.meterReadsRow.laid
set_option maxRecDepth 100000 in
theorem lifted (os:Os) (started:os.Started) (H:Type) (enc:TypeId×Value→H):
    ReturnsInHanded {} Tryz.checked os 6 .any (fun w args=>(Rows.meterReadsSpec.pre enc Tryz.prog Tryz.f6 [] false w args∧laidMetH Tryz.prog tabs w)∧sizedMet enc Tryz.prog Tryz.f6 (OpenSpec.ofChange Rows.meterReadsSpec) false w args)
      (Rows.meterReadsSpec.post enc Tryz.prog Tryz.f6 false true false false):=by
  refine returnsInHanded_of_change_and (C:=Tryz.checked) (X:=fun w _=>laidMetH Tryz.prog tabs w) (fun _ _ _ hh h=>h.of_heap hh) own started (by kernel_rfl) Tryz.func6
    (ChangeSpec.witness_shaped (enc:=enc) (C:=Tryz.checked) (os:=os) (X:=fun w _=>laidMetH Tryz.prog tabs w) false (World.laidAll Tryz.prog os tabs) #[.agg #[.string ByteArray.empty,.int .u32 0,.int .i64 0,.int .i64 0,.int .i64 0,.int .i64 0,.slice none 0 0,.slice none 0 0],.slice none 0 0,.int .i64 0] 8 (World.laidAll_os _ _ _) (World.shaped_of_ZipB (by kernel_rfl) (by kernel_rfl)) (by kernel_rfl) (by kernel_rfl) (by kernel_rfl) (by rw [MakeChecks.laidMetH_plain _ _ _ (by kernel_rfl)];exact laidMet_laidAll _ (by kernel_rfl) (by kernel_rfl))) ?_
  intro W base args ds gs before hval hW _ _ hX _
  exact contract H enc W base args ds gs before hX hval hW
theorem row_proved:Rows.MeterReadsSaid:=
  OpenClaim.holds_of_wide 6 Tryz.f6 rfl rfl rfl rfl rfl rfl rfl ⟨rfl,rfl,rfl,rfl,rfl⟩ rfl rfl rfl rfl rfl (by kernel_rfl) Tryz.func6 (by kernel_rfl)
    (of_decide_eq_true (by kernel_rfl)) (by unfold Func.isWrapper;first|(rw [if_pos (by decide+kernel)];kernel_rfl)|(rw [if_neg (by decide+kernel)];exact ⟨rfl,rfl⟩))
    (fun os started H enc _=>lifted os started H enc)
theorem proved:Rows.MeterReadsCardSaid:=
  Claim7.holds_tied_plain_at .later [] [.data,.pinned] true (true,"055c9aa127578715188c24c1c9a866096700a7b998688bf1eb4ec109f2f34beb") false
    row_proved (fun _ h=>by cases h) (by kernel_rfl) (fun _ h=>by cases h) meterReads_row_tie rfl ⟨rfl,rfl⟩ (by kernel_rfl) rfl
    (fun f fn hf hfn=>by
      obtain rfl:f=6:=Option.some.inj ((show Tryz.prog.funcNamed "firebell/firebelllaw20.MeterReads"=some 6 by kernel_rfl).symm.trans hf) |>.symm
      obtain rfl:fn=Tryz.f6:=(Option.some.inj (Tryz.func6.symm.trans hfn)).symm
      exact ⟨by kernel_rfl,fun j t ht=>by
        have hm:t∈Tryz.f6.params.toList:=by simpa using Array.mem_of_getElem? ht
        have hall:(Tryz.f6.params.toList.all fun u=>!Tryz.prog.wantsStandIn u)=true:=by kernel_rfl
        exact (show Tryz.prog.wantsStandIn t=false by simpa using List.all_eq_true.1 hall t hm)⟩)
    (by kernel_rfl)
end Go.Proofs.YtidcomakahbepaaGreatDoor.meterReads
