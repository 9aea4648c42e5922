/- AiShelf4: a part of the proof: the rules, or what functions compute. Conditions: as each theorem says. -/
import Derived.Test.YthonkjadcpdphaaGreatDoorAiBuild
import Derived.Shelf.Small.Wraps
import Derived.Shelf.LaysM
import Derived.Shelf.Strings.SplitCore
import Derived.Shelf.Strings.Search3
import Derived.Shelf.Strings.Count
import Derived.Lib.SplitLaws
set_option linter.unusedSimpArgs false
set_option linter.unusedVariables false
namespace Go.Ai
open Go.RowKit Go.Shelf Go.Proofs
variable {P:Program} {ρ:Ren}
theorem cutP_shelf {GL:List (Nat×List Value)} (L:Lays.n103 P ρ) (hname:((Body.n103 ρ).name== "runtime.NumGoroutine")=false) (hb:(Body.n103 ρ).body.isSome=true) (s p:List UInt8):
  Sp P GL (ρ.f 103) [.str s,.str p] (.tup [.str (Lib.trimPrefix s p),.bool (Lib.hasPrefix s p)]):=by
 refine shelf_spec L.f103 hname hb ?_
 intro S gb w vs hvs hag
 simp only [PRlist] at hvs
 obtain ⟨v1,_,rfl,p1,v2,_,rfl,p2,rfl⟩:=hvs
 simp only [PR] at p1 p2
 subst p1;subst p2
 refine (Any.strings_CutPrefix L ⟨s.toArray⟩ ⟨p.toArray⟩ w).mono ?_
 rintro e w' ⟨rfl,rfl⟩
 exact ⟨_,rfl,Below.refl _ _,by simp only [PR,PRlist];exact ⟨_,rfl,_,_,rfl,rfl,_,_,rfl,rfl,rfl⟩⟩
end Go.Ai
