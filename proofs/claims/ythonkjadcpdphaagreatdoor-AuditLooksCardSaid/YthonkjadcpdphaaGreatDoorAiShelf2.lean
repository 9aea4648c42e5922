/- AiShelf2: a part of the proof: the rules, or what functions compute. Conditions: as each theorem says. -/
import Derived.Test.YthonkjadcpdphaaGreatDoorAiShelf
import Derived.Shelf.Strconv.Itoa3
set_option linter.unusedSimpArgs false
set_option linter.unusedVariables false
namespace Go.Ai
open Go.RowKit
theorem shelf_specG {P:Program} {GL:List (Nat×List Value)} {f:Nat} {fn:Func} (hf:P.funcs[f]?=some fn) (hname:(fn.name== "runtime.NumGoroutine")=false) (hb:fn.body.isSome=true) {l:List AV} {r:AV}
  (h: ∀(S:Mem) (gb:Gb) (w:World) (vs:List Value),PRlist S gb l vs→(∀g o v,S g o=some v→w.cell? ⟨g,o,none⟩=some v)→
   (∀i us,GL.lookup i=some us→ ∀(o:Nat) (u:Value),us[o]?=some u→w.cell? ⟨i,o,none⟩=some u)→
   Calls P f vs.toArray w fun e w'=> ∃v,e= .returned v∧Below w.heap.size w w'∧PR S gb r v):Sp P GL f l r:=by
 rw [sp_eq]
 intro d S gb w vs hvs hhr hglo hnw
 have h1:=h S gb w vs hvs hhr.agree (fun i us hi o u hu=>hhr.agree _ _ _ (hglo i us hi o u hu).1)
 unfold Does
 have hcall:(callFunc f vs.toArray).run P w= .ok (.enter f vs.toArray) w:=by
  obtain ⟨c,hc⟩:=Option.isSome_iff_exists.1 hb
  have hn: ¬fn.name= "runtime.NumGoroutine":=by simpa using hname
  simp [callFunc,hf,hc,hn]
 rw [hcall]
 refine h1.mono fun e w' ⟨v,he,hbel,hp⟩=>⟨v,he,S,gb,Bw.of_below hbel,fun _ _ _ _=>rfl,Mem.le.refl _,fun _ _=>rfl,fun i hi hne=>absurd (hnw i hi) hne,hp,⟨?_,?_,?_,?_,?_,?_,?_,?_⟩,?_,?_⟩
 ·intro g o u hu
  have:=hhr.agree g o u hu
  have hlt:=World.block_lt_of_cell? w _ this
  rw [hbel.cell (p:=⟨g,o,none⟩) (by simpa using hlt)];exact this
 ·intro d cs hcs;simp [lkB] at hcs
 ·intro d cs hcs;simp [lkB] at hcs
 ·intro d d' g z z' hg;simp [lkB] at hg
 ·intro p k hk;simp [lkP] at hk
 ·intro p q k l b hk;simp [lkP] at hk
 ·intro p k b d z hk;simp [lkP] at hk
 ·intro d off k hk;simp [lkP] at hk
 ·intro d g z hg;simp [lkB] at hg
 ·intro p k g hk;simp [lkP] at hk
open Go.Shelf Go.Proofs Go.Sort in
set_option maxHeartbeats 2000000 in
set_option maxRecDepth 100000 in
theorem numDigits_cells {P:Program} {ρ:Ren} (L:LaysM.n284 P ρ) (u:Nat) (h1:1≤u) (h2:u<18446744073709551616) (w:World)
  (htab: ∀q,q<20→w.cell? ⟨(ρ.g 17),q,none⟩=some (.int .u64 ((10^q:Nat):Int))):
  Calls P (ρ.f 284) #[.int .u64 u] w fun e w'=>e= .returned (.int .i64 (Lib.nDigits u))∧w'=w:=by
 have mixed:=L.mixed
 have t53:=L.t53;have a53:=L.a53;have z53:=L.z53;have v53:=L.v53
 have t3:=L.t3;have a3:=L.a3;have z3:=L.z3;have v3:=L.v3
 have t212:=L.t212;have a212:=L.a212;have z212:=L.z212;have v212:=L.v212
 have t0:=L.t0;have a0:=L.a0;have z0:=L.z0;have v0:=L.v0
 have t4:=L.t4;have a4:=L.a4;have z4:=L.z4;have v4:=L.v4
 have e129: ∀args w,(callFunc (ρ.f 129) args).run P w= .ok (.enter (ρ.f 129) args) w:=enters_of L.f129 (by kernel_rfl) rfl
 have e317: ∀args w,(callFunc (ρ.f 317) args).run P w= .ok (.enter (ρ.f 317) args) w:=enters_of L.f317 (by kernel_rfl) rfl
 have e318: ∀args w,(callFunc (ρ.f 318) args).run P w= .ok (.enter (ρ.f 318) args) w:=enters_of L.f318 (by kernel_rfl) rfl
 obtain ⟨hnd,h19⟩:=Lib.numDigits_eq u h1 h2
 have hL:Lib.bitLen u≤64:=Lib.bitLen_le u 64 (Nat.le_refl _) h2
 have hcell:=htab (Lib.l10 (Lib.bitLen u)) (by omega)
 have hto:((u:Int)).toNat=u:=by omega
 generalize hq:Lib.l10 (Lib.bitLen u)=q at hnd h19 hcell
 generalize hT:10^q=T at hnd hcell
 have h20:q<20:=by omega
 have Hnd:=Lib.hid hnd
 clear hnd htab
 go_enter L.f284,Body.n284_ntmps ρ
 go_wp2_with (first
  |(go_at_fn (ρ.f 129);refine (Any.bits_Len64 {L with} _ _ (by omega) (by omega)).mono ?_;rintro e w' ⟨rfl,rfl⟩)
  |(go_at_fn (ρ.f 317);refine (Any.internal_strconv_log10Pow2 {L with} _ (by first|exact hL|(rw [hto];exact hL)) _).mono ?_;rintro e w' ⟨rfl,rfl⟩)
  |(go_at_fn (ρ.f 318);refine (Any.internal_strconv_bool2_int {L with} _ _).mono ?_;rintro e w' ⟨rfl,rfl⟩))
 all_goals go_ret
 all_goals (
  refine ⟨?_,rfl⟩
  have hnd:=Hnd.out
  congr 2
  split at hnd<;>simp_all<;>omega)
end Go.Ai
