/- Lib10: a part of the proof. Conditions: as each theorem says. -/
import Derived.Test.YtojgeamhdkphaaaGreatDoorLib6
import Derived.Laws.Externs
set_option linter.unusedSimpArgs false
set_option linter.unusedVariables false
namespace Go.Ai
open Go.RowKit
theorem dL.pure {d:Nat} {l:List AV} {r:AV} {S:aR} {gb:Gb} {sv:Nat->Value} {w:World} {v:Value} (hhr:HR S gb [] [] sv w) (hnw: ∀i,i.isNw d=true->gb i=none) (hp:PR S gb r v):
  dL d ⟨l,[],[]⟩ ⟨r,[],[]⟩ S gb sv w S gb v w:=by
 refine ⟨Bw.refl _ _,fun _ _ _ _=>rfl,aR.le.refl _,fun _ _=>rfl,fun i hi hne=>absurd (hnw i hi) hne,hp,⟨hhr.agree,?_,?_,?_,?_,?_,?_,?_⟩,?_,?_⟩
 ·intro d cs hcs;simp[aD] at hcs
 ·intro d cs hcs;simp[aD] at hcs
 ·intro d d' g z z' hg;simp[aD] at hg
 ·intro p k hk;simp[aH] at hk
 ·intro p q k l b hk;simp[aH] at hk
 ·intro p k b d z hk;simp[aH] at hk
 ·intro d off k hk;simp[aH] at hk
 ·intro d g z hg;simp[aD] at hg
 ·intro p k g hk;simp[aH] at hk
theorem xN {P:Program} {GL:List (Nat×List Value)} {f:Nat} {fn:Func} {e:Array Value->Sem Value} (hf:P.funcs[f]?=some fn) (hname:(fn.name== "runtime.NumGoroutine")=false)
  (hb:fn.body.isNone=true) (hn:Extern.findNext fn=none) (he:Extern.find fn=some e) {l:List AV} {r:AV}
  (h: ∀(S:aR) (gb:Gb) (w:World) (vs:List Value),aa S gb l vs-> ∃v,(e vs.toArray).run P w= .ok v w/\PR S gb r v):Sp P GL f l r:=by
 rw[uL];intro d S gb w vs hvs hhr hglo hnw;obtain ⟨v,h1,h2⟩:=h S gb w vs hvs;unfold lH;rw[run_callFunc_extern hf hname hb hn he,h1];exact ⟨S,gb,dL.pure hhr hnw h2⟩
@[simp] theorem Gm: ∀(l:List AV),qD l l
 |[]=>trivial
 |v::r=>⟨.inl rfl,Gm r⟩
end Go.Ai
