/- AiExt: a part of the proof: the rules, or what functions compute. Conditions: as each theorem says. -/
import Derived.Test.YtidcomakahbepaaGreatDoorAiFrz
import Derived.Laws.Externs
set_option linter.unusedSimpArgs false
set_option linter.unusedVariables false
namespace Go.Ai
open Go.RowKit
theorem PostR.pure {d:Nat} {l:List AV} {r:AV} {S:Mem} {gb:Gb} {sv:Nat→Value} {w:World} {v:Value} (hhr:HR S gb [] [] sv w) (hnw: ∀i,i.isNw d=true→gb i=none) (hp:PR S gb r v):
  PostR d ⟨l,[],[]⟩ ⟨r,[],[]⟩ S gb sv w S gb v w:=by
 refine ⟨Bw.refl _ _,fun _ _ _ _=>rfl,Mem.le.refl _,fun _ _=>rfl,fun i hi hne=>absurd (hnw i hi) hne,hp,⟨hhr.agree,?_,?_,?_,?_,?_,?_,?_⟩,?_,?_⟩
 ·intro d cs hcs;simp [lkB] at hcs
 ·intro d cs hcs;simp [lkB] at hcs
 ·intro d d' g z z' hg;simp [lkB] at hg
 ·intro p k hk;simp [lkP] at hk
 ·intro p q k l b hk;simp [lkP] at hk
 ·intro p k b d z hk;simp [lkP] at hk
 ·intro d off k hk;simp [lkP] at hk
 ·intro d g z hg;simp [lkB] at hg
 ·intro p k g hk;simp [lkP] at hk
theorem ext_spec {P:Program} {GL:List (Nat×List Value)} {f:Nat} {fn:Func} {e:Array Value→Sem Value} (hf:P.funcs[f]?=some fn) (hname:(fn.name== "runtime.NumGoroutine")=false)
  (hb:fn.body.isNone=true) (hn:Extern.findNext fn=none) (he:Extern.find fn=some e) {l:List AV} {r:AV}
  (h: ∀(S:Mem) (gb:Gb) (w:World) (vs:List Value),PRlist S gb l vs→ ∃v,(e vs.toArray).run P w= .ok v w∧PR S gb r v):Sp P GL f l r:=by
 rw [sp_eq]
 intro d S gb w vs hvs hhr hglo hnw
 obtain ⟨v,h1,h2⟩:=h S gb w vs hvs
 unfold Does
 rw [run_callFunc_extern hf hname hb hn he,h1]
 exact ⟨S,gb,PostR.pure hhr hnw h2⟩
@[simp] theorem wkL_refl: ∀(l:List AV),wkL l l
 |[]=>trivial
 |v::r=>⟨.inl rfl,wkL_refl r⟩
end Go.Ai
