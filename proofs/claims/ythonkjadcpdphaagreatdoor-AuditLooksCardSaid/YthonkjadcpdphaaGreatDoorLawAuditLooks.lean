/- AuditLooks, for every input: the law returns true, never panics, and its arguments read as they did; the listed tables are tied to the program's text. Conditions: none beyond the given statement's own. -/
import Derived.Test.YthonkjadcpdphaaGreatDoorP22
import Derived.Lib.LaidU8
import Derived.Test.YthonkjadcpdphaaGreatDoorAiIn
import Derived.Test.YthonkjadcpdphaaGreatDoorRows
import Derived.Test.YthonkjadcpdphaaGreatDoorCards
import Derived.Test.YthonkjadcpdphaaGreatDoorTie
import Derived.ProofKit
import Derived.LaidMore
import Derived.Lay
import Derived.OpenShut
import Derived.Stop.Joined
import Derived.SevenTiedAt
import Derived.MakeChecks
import Derived.Stop.LaidErr
set_option linter.constructorNameAsVariable false
namespace Go.Proofs.YthonkjadcpdphaaGreatDoor.auditLooks
open Go Go.ChangeShapes Go.WideShapes Go.ChangeAt Go.RowKit Go.Ai
theorem own:ownKnob Tryz.prog.godebug=none:=by kernel_rfl
theorem laid:laidOutB Tryz.prog=true:=by kernel_rfl
set_option maxRecDepth 100000 in
theorem gv_of {r:List AV} (h:Shp Tryz.prog 5 76 r): ∃g:GV,GVnum g∧r=g.row:=by
  simp [Shp,shpF,-Bool.exists_bool] at h
  obtain ⟨_,_,rfl,⟨_,_,rfl,⟨n1,rfl,_⟩,_,_,rfl,⟨t1,rfl,ht1⟩,_,_,rfl,⟨g1,rfl,_⟩,_,_,rfl,⟨a1,rfl,_⟩,_,_,rfl,⟨o1,rfl,_⟩,_,_,rfl,⟨c1,rfl,_⟩,_,_,rfl,⟨lb,rfl,_,hlb⟩,ru,rfl,_,hru⟩,_,_,rfl,⟨st,rfl⟩,_,_,rfl,⟨ws,rfl,_,hws⟩,_,_,rfl,⟨fr,rfl,_⟩,_,_,rfl,⟨tv,rfl,_⟩,_,_,rfl,⟨_,_,rfl,⟨cg,rfl,hcg⟩,cn,rfl,hcn⟩,al,rfl,_,hal⟩:=h
  have bt:=bounds_u32 ht1
  obtain ⟨t1,rfl⟩:=Int.eq_ofNat_of_zero_le bt.1
  have bg:=bounds_u64 hcg
  obtain ⟨cg,rfl⟩:=Int.eq_ofNat_of_zero_le bg.1
  have bn:=bounds_u64 hcn
  obtain ⟨cn,rfl⟩:=Int.eq_ofNat_of_zero_le bn.1
  obtain ⟨lbs,rfl,_⟩:=rows_of (ok:=fun _:Lb=>True) (f:=Lb.row) (fun r hr=>by
    obtain ⟨_,_,rfl,⟨a,rfl,_⟩,b,rfl,_⟩:=hr
    exact ⟨⟨a,b⟩,trivial,rfl⟩) lb hlb
  obtain ⟨rus,rfl,hrs⟩:=rows_of (ok:=fun x:Ru=> -9223372036854775808≤x.s∧x.s≤9223372036854775807) (f:=Ru.row) (fun r hr=>by
    obtain ⟨_,_,rfl,⟨n,rfl,_⟩,_,_,rfl,⟨p,rfl⟩,_,_,rfl,⟨l,rfl,_⟩,_,_,rfl,⟨s,rfl,hs⟩,_,_,rfl,⟨f,rfl,hf⟩,_,_,rfl,⟨w,rfl,_⟩,k,rfl,_⟩:=hr
    have bf:=bounds_u64 hf
    have bs:=bounds_i64 hs
    obtain ⟨f,rfl⟩:=Int.eq_ofNat_of_zero_le bf.1
    exact ⟨⟨n,p,l,s,f,w,k⟩,⟨by simp only;omega,by simp only;omega⟩,rfl⟩) ru hru
  obtain ⟨wss,rfl,hwv⟩:=rows_of (ok:=fun x:WV=>x.g<18446744073709551616∧x.n<18446744073709551616) (f:=WV.row) (fun r hr=>by
    obtain ⟨_,_,rfl,⟨w,rfl,_⟩,_,_,rfl,⟨g,rfl,hg⟩,n,rfl,hn⟩:=hr
    have bg:=bounds_u64 hg
    have bn:=bounds_u64 hn
    obtain ⟨g,rfl⟩:=Int.eq_ofNat_of_zero_le bg.1
    obtain ⟨n,rfl⟩:=Int.eq_ofNat_of_zero_le bn.1
    exact ⟨⟨w,g,n⟩,⟨by simp only;omega,by simp only;omega⟩,rfl⟩) ws hws
  obtain ⟨als,rfl,_⟩:=rows_of (ok:=fun _:Al=>True) (f:=Al.row) (fun r hr=>by
    obtain ⟨_,_,rfl,⟨p,rfl,_⟩,_,_,rfl,⟨s,rfl,_⟩,_,_,rfl,⟨c,rfl,_⟩,e,rfl,he⟩:=hr
    have be:=bounds_u64 he
    obtain ⟨e,rfl⟩:=Int.eq_ofNat_of_zero_le be.1
    exact ⟨⟨p,s,c,e⟩,trivial,rfl⟩) al hal
  exact ⟨⟨⟨n1,t1,g1,a1,o1,c1,lbs,rus⟩,st,wss,fr,tv,cg,cn,als⟩,⟨by simp only;omega,hwv,by simp only;omega,by simp only;omega,hrs⟩,rfl⟩
set_option maxRecDepth 100000 in
theorem en_of {r:List AV} (h:Shp Tryz.prog 4 102 r): ∃e:En,True∧r=e.row:=by
  simp [Shp,shpF,-Bool.exists_bool] at h
  obtain ⟨_,_,rfl,⟨_,_,rfl,⟨g,rfl,_⟩,_,_,rfl,⟨s,rfl,_⟩,_,_,rfl,⟨p,rfl⟩,_,_,rfl,⟨e,rfl,he⟩,f,rfl⟩,_,_,rfl,⟨b,rfl,_⟩,_,_,rfl,⟨nx,rfl,_⟩,_,_,rfl,⟨tr,rfl,_⟩,ak,rfl⟩:=h
  have be:=bounds_u64 he
  obtain ⟨e,rfl⟩:=Int.eq_ofNat_of_zero_le be.1
  exact ⟨⟨⟨g,s,p,e,f⟩,b,nx,tr,ak⟩,trivial,rfl⟩
set_option maxRecDepth 100000 in
theorem si_of {r:List AV} (h:Shp Tryz.prog 5 88 r): ∃e:Si,True∧r=e.row:=by
  simp [Shp,shpF,-Bool.exists_bool] at h
  obtain ⟨_,_,rfl,⟨n,rfl,_⟩,_,_,rfl,⟨g,rfl,_⟩,_,_,rfl,⟨w,rfl,_⟩,_,_,rfl,⟨f,rfl,_⟩,t,rfl,_⟩:=h
  exact ⟨⟨n,g,w,f,t⟩,trivial,rfl⟩
/-- One step of a shape. -/
theorem shp_s {t:Nat} {n:Nat} {fs:Array Field} (h:Tryz.prog.underlying t=some (.struct fs)) {l:List AV} (hs:Shp Tryz.prog (n+1) t l):shpF (Shp Tryz.prog n) fs.toList l:=by
  rw [Shp,h] at hs;exact hs
theorem shp_l {t:Nat} {n:Nat} {e:Nat} (h:Tryz.prog.underlying t=some (.slice e)) {l:List AV} (hs:Shp Tryz.prog (n+1) t l): ∃rows,l=[.sl rows]∧rows.length≤maxLen∧ ∀r∈rows,Shp Tryz.prog n e r:=by
  rw [Shp,h] at hs;exact hs
theorem shp_i {t:Nat} {n:Nat} {k:IntKind} (h:Tryz.prog.underlying t=some (.int k)) {l:List AV} (hs:Shp Tryz.prog (n+1) t l): ∃m,l=[.int k m]∧(Lit.int k m).wf=true:=by
  rw [Shp,h] at hs;exact hs
set_option maxRecDepth 100000 in
theorem vw_of {cs:List AV} (h:Shp Tryz.prog 7 31 cs): ∃x:Vw,cs=x.row∧ ∀g∈x.gs,GVnum g:=by
  have h:=shp_s Tryz.underlying31 h
  obtain ⟨a1,b1,rfl,h1,a2,b2,rfl,h2,a3,b3,rfl,h3,a4,b4,rfl,h4,a5,b5,rfl,h5,a6,b6,rfl,h6,rfl⟩:=h
  obtain ⟨now,rfl,_⟩:=shp_i (k:= .i64) (by kernel_rfl) h1
  obtain ⟨ep,rfl,hep⟩:=shp_i (k:= .u64) (by kernel_rfl) h2
  have be:=bounds_u64 hep
  obtain ⟨ep,rfl⟩:=Int.eq_ofNat_of_zero_le be.1
  obtain ⟨gs,rfl,_,hgs⟩:=shp_l (e:=76) (by kernel_rfl) h3
  obtain ⟨gs,rfl,hgn⟩:=rows_of (ok:=GVnum) (f:=GV.row) (fun r hr=>gv_of hr) gs hgs
  have h4:=shp_s Tryz.underlying25 h4
  obtain ⟨c1,d1,rfl,k1,c2,d2,rfl,k2,c3,d3,rfl,k3,c4,d4,rfl,k4,c5,d5,rfl,k5,rfl⟩:=h4
  obtain ⟨r1,rfl,_⟩:=shp_i (k:= .i64) (by kernel_rfl) k1
  obtain ⟨r2,rfl,_⟩:=shp_i (k:= .i64) (by kernel_rfl) k2
  obtain ⟨r3,rfl,_⟩:=shp_i (k:= .i64) (by kernel_rfl) k3
  obtain ⟨r4,rfl,_⟩:=shp_i (k:= .i64) (by kernel_rfl) k4
  obtain ⟨r5,rfl,_⟩:=shp_i (k:= .i64) (by kernel_rfl) k5
  have h5:=shp_s Tryz.underlying28 h5
  obtain ⟨c1,d1,rfl,k1,c2,d2,rfl,k2,rfl⟩:=h5
  obtain ⟨es,rfl,_,hes⟩:=shp_l (e:=102) (by kernel_rfl) k1
  obtain ⟨es,rfl,_⟩:=rows_of (ok:=fun _=>True) (f:=En.row) (fun r hr=>en_of hr) es hes
  obtain ⟨dr,rfl,hdr⟩:=shp_i (k:= .u64) (by kernel_rfl) k2
  have bd:=bounds_u64 hdr
  obtain ⟨dr,rfl⟩:=Int.eq_ofNat_of_zero_le bd.1
  obtain ⟨ss,rfl,_,hss⟩:=shp_l (e:=88) (by kernel_rfl) h6
  obtain ⟨ss,rfl,_⟩:=rows_of (ok:=fun _=>True) (f:=Si.row) (fun r hr=>si_of hr) ss hss
  exact ⟨⟨now,ep,gs,r1,r2,r3,r4,r5,es,dr,ss⟩,rfl,hgn⟩
set_option maxRecDepth 100000 in
theorem law (l:List AV) (h:ShpAll Tryz.prog 7 Tryz.f3.params.toList l):Sp Tryz.prog gl 3 l (.bool true):=by
  rw [Tryz.params3] at h
  simp only [ShpAll] at h
  obtain ⟨cs1,_,rfl,h1,rfl⟩:=h
  obtain ⟨x,rfl,hx⟩:=vw_of h1
  simp [argOf]
  exact auditLooks_spec x
theorem gl3:gl=[(0,firstCells),(1,accCells),(2,(List.range 20).map fun q=>Value.int .u64 ((10^q:Nat):Int))]:=by kernel_rfl
/-- The listed tables, as cells. -/
theorem glo (W:World) (h:laidMetH Tryz.prog Rows.auditLooksRow.laid W): ∀i us,List.lookup i gl=some us→ ∀(o:Nat) (u:Value),us[o]?=some u→W.cell? ⟨i,o,none⟩=some u∧u.oneCell'=true:=by
  have h1:laidMet Tryz.prog Rows.auditLooksRow.laid W:=(MakeChecks.laidMetH_plain Tryz.prog Rows.auditLooksRow.laid W (by kernel_rfl))▸h
  have e:Rows.auditLooksRow.laid.drop 2=[("internal/strconv.uint64pow10",Lib.tabData .u64 Lib.pow10Tab),("unicode/utf8.acceptRanges",Lib.acceptData),("unicode/utf8.first",Lib.firstData)]:=by kernel_rfl
  have h2:laidMet Tryz.prog (Rows.auditLooksRow.laid.drop 2) W:=laidMet.tail (laidMet.tail h1)
  rw [e] at h2
  clear h1 h
  have hg:Tryz.prog.globalNamed "internal/strconv.uint64pow10"=some 2:=by kernel_rfl
  have T:=Lib.tabIs_of_head (t:=271) (e:=22) (n:=20) (zs:=Lib.pow10Tab) (k:= .u64) (rest:=[("unicode/utf8.acceptRanges",Lib.acceptData),("unicode/utf8.first",Lib.firstData)]) hg (by kernel_rfl) (by kernel_rfl) (by kernel_rfl) (by kernel_rfl) (by kernel_rfl) h2
  have A:=acc_cell (Lib.laidMet.reads (n:= "unicode/utf8.acceptRanges") (d:=Lib.acceptData) h2 (by simp))
  have F:=first_cell (Lib.laidMet.reads (n:= "unicode/utf8.first") (d:=Lib.firstData) h2 (by simp))
  intro i us hi o u hu
  rw [gl3] at hi
  simp only [List.lookup] at hi
  split at hi
  · rename_i e
    have e:=eq_of_beq e
    subst e
    obtain rfl:=Option.some.inj hi
    exact F o u hu
  · split at hi
    · rename_i e
      have e:=eq_of_beq e
      subst e
      obtain rfl:=Option.some.inj hi
      exact A o u hu
    · split at hi
      · rename_i e
        have e:=eq_of_beq e
        subst e
        obtain rfl:=Option.some.inj hi
        have ho:o<20:=by have:=(List.getElem?_eq_some_iff.1 hu).1;simpa using this
        have hu2:u= .int .u64 ((10^o:Nat):Int):=by simpa [ho] using hu.symm
        subst hu2
        refine ⟨?_,rfl⟩
        rw [T.cell hg o (by rw [Lib.pow10Tab_length];exact ho),Lib.pow10Tab_at o ho]
      · cases hi
set_option maxRecDepth 100000 in
theorem contract (H:Type) (enc:TypeId×Value→H) (W:World) (base:Nat) (args:Array Value) (ds gs:List (DataW H)) (before:List MemPlace) (hX:laidMetH Tryz.prog Rows.auditLooksRow.laid W)
    (hval: ∀(j:Nat) t v,Tryz.f3.params[j]?=some t→args[j]?=some v→Value.okWide Tryz.prog W .any base t v)
    (hW:DataW.Whole enc Tryz.prog Tryz.f3.params.toList Rows.auditLooksSpec.vars false W args.toList ds gs before):
    Calls Tryz.prog 3 args W fun e W'=> ∃v,e= .returned v∧Rows.auditLooksSpec.post enc Tryz.prog Tryz.f3 false true false false W args v W':=by
  have hA:=hW
  obtain ⟨p,q,hA,hrest⟩:=hA
  have hok:(Tryz.f3.params.toList.all fun t=>okT Tryz.prog 7 t)=true:=by kernel_rfl
  refine law_contract (GL:=gl) (dr:=drD) (n:=7) (af:=a3) (tb:=4) Tryz.func3 m3 laid (by kernel_rfl) hok (by kernel_rfl) Tryz.underlying4 (by kernel_rfl) hval hW (fun ds hd=>?_) (glo W hX) (law (avAll Tryz.prog 7 Tryz.f3.params.toList ds) (args_shp hok hA))
  obtain ⟨d1,rfl⟩: ∃d1,ds=[d1]:=by
    match ds,hd with
    |[d1],hd=>exact ⟨d1,rfl⟩
  exact ⟨rfl,rfl,rfl⟩
abbrev tabs:=Rows.auditLooksRow.laid
set_option maxRecDepth 100000 in
theorem lifted (os:Os) (started:os.Started) (H:Type) (enc:TypeId×Value→H):
    ReturnsInHanded {} Tryz.checked os 3 .any (fun w args=>(Rows.auditLooksSpec.pre enc Tryz.prog Tryz.f3 [] false w args∧laidMetH Tryz.prog tabs w)∧sizedMet enc Tryz.prog Tryz.f3 (OpenSpec.ofChange Rows.auditLooksSpec) false w args)
      (Rows.auditLooksSpec.post enc Tryz.prog Tryz.f3 false true false false):=by
  refine returnsInHanded_of_change_and (C:=Tryz.checked) (X:=fun w _=>laidMetH Tryz.prog tabs w) (fun _ _ _ hh h=>h.of_heap hh) own started (by kernel_rfl) Tryz.func3
    (ChangeSpec.witness_shaped (enc:=enc) (C:=Tryz.checked) (os:=os) (X:=fun w _=>laidMetH Tryz.prog tabs w) false (World.laidAll Tryz.prog os tabs) #[.agg #[.int .i64 0,.int .u64 0,.slice none 0 0,.int .i64 0,.int .i64 0,.int .i64 0,.int .i64 0,.int .i64 0,.slice none 0 0,.int .u64 0,.slice none 0 0]] 8 (World.laidAll_os _ _ _) (World.shaped_of_ZipB (by kernel_rfl) (by kernel_rfl)) (by kernel_rfl) (by kernel_rfl) (by kernel_rfl) (by rw [MakeChecks.laidMetH_plain _ _ _ (by kernel_rfl)];exact laidMet_laidAll _ (by kernel_rfl) (by kernel_rfl))) ?_
  intro W base args ds gs before hval hW _ _ hX _
  exact contract H enc W base args ds gs before hX hval hW
/-! The row's closed cells, one by one (all in one declaration is more memory than a build has). -/
theorem k_inp:Tryz.checked.prog.inPlace 3=Rows.auditLooksRow.inPlace:=by kernel_rfl
theorem k_unf:Tryz.checked.prog.unfollowed 3=Rows.auditLooksRow.unfollowed:=by kernel_rfl
theorem k_rec:Tryz.checked.prog.recurses 3=Rows.auditLooksRow.recurses:=by kernel_rfl
theorem k_nam:Tryz.checked.prog.varsNamed 3=Rows.auditLooksRow.named:=by kernel_rfl
theorem k_lay:laidOutB Tryz.checked.prog=true:=laid
theorem k_map:mapsRowed Tryz.checked.prog=true:=by kernel_rfl
theorem k_sth:Tryz.checked.prog.stopsHeard=true:=by kernel_rfl
theorem k_may:Tryz.checked.prog.mayEnter=true:=by kernel_rfl
theorem closed:joinedFacts Tryz.checked.prog 3 Tryz.f3 Rows.auditLooksSpec Rows.auditLooksRow=true:=by
  unfold joinedFacts
  rw [k_inp,k_unf,k_rec,k_nam,k_lay,k_map,k_sth,k_may]
  kernel_rfl
theorem row_proved:Rows.AuditLooksSaid:=
  OpenClaim.holds_of_wide 3 Tryz.f3 rfl rfl rfl rfl rfl rfl rfl ⟨rfl,rfl,rfl,rfl,rfl⟩ rfl rfl rfl rfl rfl (by kernel_rfl) Tryz.func3 closed
    (of_decide_eq_true (by kernel_rfl)) (by unfold Func.isWrapper;first|(rw [if_pos (by decide+kernel)];kernel_rfl)|(rw [if_neg (by decide+kernel)];exact ⟨rfl,rfl⟩))
    (fun os started H enc _=>lifted os started H enc)
theorem proved:Rows.AuditLooksCardSaid:=
  Claim7.holds_tied_plain_at .later [] [.data,.data,.data,.data,.pinned] true (true,"796412790c93638e35a5b0423ff7a9bfee5303c0baf32097814444fffb6b1097") true
    row_proved (fun _ h=>by cases h) (by kernel_rfl) (fun _ h=>by cases h) auditLooks_row_tie rfl ⟨rfl,rfl⟩ (by kernel_rfl) rfl
    (fun f fn hf hfn=>by
      obtain rfl:f=3:=Option.some.inj ((show Tryz.prog.funcNamed "firebell/firebelllaw35.AuditLooks"=some 3 by kernel_rfl).symm.trans hf) |>.symm
      obtain rfl:fn=Tryz.f3:=(Option.some.inj (Tryz.func3.symm.trans hfn)).symm
      exact ⟨by kernel_rfl,fun j t ht=>by
        have hm:t∈Tryz.f3.params.toList:=by simpa using Array.mem_of_getElem? ht
        have hall:(Tryz.f3.params.toList.all fun u=>!Tryz.prog.wantsStandIn u)=true:=by kernel_rfl
        exact (show Tryz.prog.wantsStandIn t=false by simpa using List.all_eq_true.1 hall t hm)⟩)
    (by kernel_rfl)
end Go.Proofs.YthonkjadcpdphaaGreatDoor.auditLooks
