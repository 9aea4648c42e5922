/- P13: a part of the proof: the rules, or what functions compute. Conditions: as each theorem says. -/
import Derived.Test.YthonkjadcpdphaaGreatDoorP12
import Derived.Test.YthonkjadcpdphaaGreatDoorP2
set_option linter.unusedSimpArgs false
set_option linter.unusedVariables false
set_option maxRecDepth 20000
namespace Go.Ai
open Go.Proofs
open Go.Proofs
structure Nms (M A:Id) (R B:Nat→Id):Prop where
 mi:M.isIt=false
 ai:A.isIt=false
 ri: ∀i,(R i).isIt=false
 bi: ∀i,(B i).isIt=false
 rr: ∀i j,R i=R j→i=j
 bb: ∀i j,B i=B j→i=j
 rb: ∀i j,R i≠B j
 mr: ∀i,M≠R i
 mb: ∀i,M≠B i
 ar: ∀i,A≠R i
 ab: ∀i,A≠B i
 ma:M≠A
 na: ∀e,M.isNw e=A.isNw e
 nr: ∀i e,M.isNw e=(R i).isNw e
 nb: ∀i e,M.isNw e=(B i).isNw e
theorem Nms.up {M A:Id} {R B:Nat→Id} (h:Nms M A R B):Nms (.up M) (.up A) (fun i=> .up (R i)) (fun i=> .up (B i)):=
 ⟨h.mi,h.ai,h.ri,h.bi,fun i j e=>h.rr i j (Id.up.inj e),fun i j e=>h.bb i j (Id.up.inj e),fun i j e=>h.rb i j (Id.up.inj e),fun i e=>h.mr i (Id.up.inj e),fun i e=>h.mb i (Id.up.inj e),
  fun i e=>h.ar i (Id.up.inj e),fun i e=>h.ab i (Id.up.inj e),fun e=>h.ma (Id.up.inj e),fun _=>rfl,fun _ _=>rfl,fun _ _=>rfl⟩
open Go.Proofs
section
variable (M A:Id) (h:Pr2 M A) (x:Gl) (n:Nat) (W:List (List AV)) (fr tu cg ct t:Nat) (sd:Bool) (d:Nat) (hd:M.isNw d=false)
include h hd
end
open Go.Proofs
def kix (n:Nat):Nat:=12*yearN n+(monthN n - 1)
def k0 (s n:Nat):Nat:=kix n - kix n%s
open Go.Proofs
end Go.Ai
namespace Go.Ai
open Go.Proofs
end Go.Ai
