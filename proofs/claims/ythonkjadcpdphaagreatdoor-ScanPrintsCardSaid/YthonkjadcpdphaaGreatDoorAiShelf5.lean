/- AiShelf5: a part of the proof: the rules, or what functions compute. Conditions: as each theorem says. -/
import Derived.Test.YthonkjadcpdphaaGreatDoorAiShelf4
import Derived.Shelf.Strings.Fields
import Derived.Shelf.Strings.Search2
set_option linter.unusedSimpArgs false
set_option linter.unusedVariables false
namespace Go.Ai
open Go.RowKit Go.Shelf Go.Proofs
variable {P:Program} {ρ:Ren}
theorem idx1_shelf {GL:List (Nat×List Value)} (L:Lays.n219 P ρ) (hname:((Body.n219 ρ).name== "runtime.NumGoroutine")=false) (hb:(Body.n219 ρ).body.isSome=true) (s:List UInt8) (c:UInt8):
  Sp P GL (ρ.f 219) [.str s,.str [c]] (.int .i64 (Lib.indexByte s c)):=by
 refine shelf_spec L.f219 hname hb ?_
 intro S gb w vs hvs hag
 simp only [PRlist] at hvs
 obtain ⟨v1,_,rfl,p1,v2,_,rfl,p2,rfl⟩:=hvs
 simp only [PR] at p1 p2
 subst p1;subst p2
 refine (Any.stringslite_Index_one L ⟨s.toArray⟩ c w).mono ?_
 rintro e w' ⟨rfl,rfl⟩
 exact ⟨_,rfl,Below.refl _ _,by simp [PR]⟩
open Builder in
set_option maxHeartbeats 1000000 in
set_option maxRecDepth 100000 in
theorem bld_string0 (L:Lays.n169 P ρ) (X:Builder.Extra P ρ) {b:Nat} {w:World} {p:Value} {us:Array Value} {T:TypeId} (h:BldAt w b p (.slice none 0 0) us T):
  Calls P (ρ.f 169) #[.pointer (some ⟨b,0,none⟩)] w fun e w'=>e= .returned (.string ⟨#[]⟩)∧w'=w.drew:=by
 have c1:w.drew.cell? ⟨b,1,none⟩=some (.slice none 0 0):=h.cell.2.1
 have hSD:(Builtin.unsafeSliceData_ #[(ρ.t 37)] (ρ.t 127) #[.slice none 0 0]).run P w.drew= .ok (.pointer none) w.drew:=rfl
 have hUS:(Builtin.unsafeString_ #[(ρ.t 127),(ρ.t 3)] (ρ.t 9) #[.pointer none,.int .i64 0]).run P w.drew= .ok (.string ⟨#[]⟩) w.drew:=rfl
 have mixed:=L.mixed
 have t72:=L.t72;have a72:=L.a72;have z72:=L.z72;have v72:=L.v72;have u72:=run_underlying L.t72
 have t70:=L.t70;have a70:=L.a70;have z70:=L.z70;have v70:=L.v70;have u70:=run_underlying L.t70
 have t37:=L.t37;have a37:=L.a37;have z37:=L.z37;have v37:=L.v37;have u37:=run_underlying L.t37
 have t127:=L.t127;have a127:=L.a127;have z127:=L.z127;have v127:=L.v127;have u127:=run_underlying L.t127
 have t3:=L.t3;have a3:=L.a3;have z3:=L.z3;have v3:=L.v3;have u3:=run_underlying L.t3
 have t9:=L.t9;have a9:=L.a9;have z9:=L.z9;have v9:=L.v9;have u9:=run_underlying L.t9
 have t5:=X.t5;have a5:=X.a5;have z5:=X.z5;have v5:=X.v5;have u5:=run_underlying X.t5
 go_enter L.f169,Body.n169_ntmps ρ
 go_wp2
 go_region_o
 all_goals (go_wp2;go_ret;exact ⟨rfl,rfl⟩)
theorem st0_shelf {GL:List (Nat×List Value)} (L:Lays.n169 P ρ) (X:Builder.Extra P ρ) (hname:((Body.n169 ρ).name== "runtime.NumGoroutine")=false) (hbd:(Body.n169 ρ).body.isSome=true) {d:Nat} {b:Id} (hit:b.isIt=false) (hnwb:b.isNw d=false)
  {c0:AV} {rest:List AV}:SpH P GL (ρ.f 169) d ⟨[.ptr b 0],[(b,c0:: .nils::rest)],[]⟩ ⟨.str [],[(b,c0:: .nils::rest)],[]⟩:=by
 unfold SpH
 intro S gb w vs hvs hhr hglo hnw
 simp only [PRlist] at hvs
 obtain ⟨v0,_,rfl,hv0,rfl⟩:=hvs
 simp only [PR] at hv0
 obtain ⟨g,z,hg,_,rfl⟩:=hv0
 obtain ⟨g',us,T1,e1,e3,e0,e4,e5,e6⟩:=hhr.box b _ (by simp [lkB];rfl) hit
 rw [hg] at e1;cases e1
 obtain ⟨p,v,us2,hus,hp0,hv,hrest⟩:=e4.two
 have hu0:us[0]?=some p:=by
  have:(us.toList.take (c0:: .nils::rest).length)[0]?=some p:=by rw [hus];rfl
  rw [List.getElem?_take,if_pos (by simp)] at this;simpa using this
 have hu1:us[1]?=some v:=by
  have:(us.toList.take (c0:: .nils::rest).length)[1]?=some v:=by rw [hus];rfl
  rw [List.getElem?_take,if_pos (by simp)] at this;simpa using this
 simp only [PR] at hv
 subst hv
 have hB:BldAt w g p (.slice none 0 0) us T1:=⟨e3,hu0,hu1⟩
 have h1:=bld_string0 L X hB
 unfold Does
 have hcall:(callFunc (ρ.f 169) [Value.pointer (some ⟨g,0,none⟩)].toArray).run P w= .ok (.enter (ρ.f 169) #[Value.pointer (some ⟨g,0,none⟩)]) w:=by
  obtain ⟨c,hc⟩:=Option.isSome_iff_exists.1 hbd
  have hn: ¬(Body.n169 ρ).name= "runtime.NumGoroutine":=by simpa using hname
  simp [callFunc,L.f169,hc,hn]
 rw [hcall]
 refine h1.mono ?_
 rintro e w' ⟨he,rfl⟩
 refine ⟨_,he,S,gb,⟨rfl,rfl,rfl,Nat.le_refl _,fun _ _ _=>rfl⟩,fun _ _ _ _=>rfl,Mem.le.refl _,fun _ _=>rfl,fun i hi hne=>absurd (hnw i hi) hne,by simp [PR],⟨?_,?_,?_,?_,?_,?_,?_,?_⟩,?_,?_⟩
 ·intro g1 o u hu
  exact hhr.agree _ _ _ hu
 ·intro d' cs1 hcs1 hi
  simp only [lkB] at hcs1
  split at hcs1
  ·rename_i e;subst e;cases hcs1
   exact ⟨g,us,T1,hg,e3,e0,e4,e5,e6⟩
  ·cases hcs1
 ·intro d' cs1 hcs1 hi
  simp only [lkB] at hcs1
  split at hcs1
  ·rename_i e;subst e;rw [hit] at hi;cases hi
  ·cases hcs1
 ·intro d1 d2 g1 z1 z2 i1 i2 _ _
  simp only [lkB] at i1 i2
  split at i1
  ·split at i2
   ·rename_i e1 e2;rw [←e1,←e2]
   ·cases i2
  ·cases i1
 ·intro p1 k hk;simp [lkP] at hk
 ·intro p1 p2 k1 k2 b1 h1;simp [lkP] at h1
 ·intro p1 k b1 d' z1 hk;simp [lkP] at hk
 ·intro d' off k hk;simp [lkP] at hk
 ·intro i g1 z1 hi hgi
  simp only [lkB] at hi
  split at hi
  ·rename_i e;subst e
   rw [hg] at hgi;cases hgi
   exact .inr (.inl ⟨b,_,by simp [lkB],hg⟩)
  ·cases hi
 ·intro p1 k g1 hk;simp [lkP] at hk
end Go.Ai
