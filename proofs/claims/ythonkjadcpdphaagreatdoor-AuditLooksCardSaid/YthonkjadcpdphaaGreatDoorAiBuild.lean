/- AiBuild: a part of the proof: the rules, or what functions compute. Conditions: as each theorem says. -/
import Derived.Test.YthonkjadcpdphaaGreatDoorAiShelf3
import Derived.Shelf.Strings.Builder1
set_option linter.unusedSimpArgs false
set_option linter.unusedVariables false
namespace Go.Ai
open Go.RowKit Go.Shelf Go.Proofs
variable {P:Program} {ρ:Ren}
def bldAt (P:Program) (B T n:Nat):Prop:=liesAt P P.depth T (n / P.cellsOf T) 0 B 1=true
structure BldAt (w:World) (b:Nat) (p v:Value) (us:Array Value) (T:TypeId):Prop where
 heap:w.heap[b]?=some (.cells us T (0,0))
 c0:us[0]?=some p
 c1:us[1]?=some v
theorem BldAt.cell {w:World} {b:Nat} {p v:Value} {us:Array Value} {T:TypeId} (h:BldAt w b p v us T):w.cell? ⟨b,0,none⟩=some p∧w.cell? ⟨b,1,none⟩=some v∧w.frozen? ⟨b,0,none⟩=false∧w.frozen? ⟨b,1,none⟩=false∧w.shape? b=some (T,us.size):=by
 refine ⟨?_,?_,?_,?_,?_⟩
 ·rw [Lib.cell_of_heap h.heap];exact h.c0
 ·rw [Lib.cell_of_heap h.heap];exact h.c1
 ·simp [World.frozen?,h.heap]
 ·simp [World.frozen?,h.heap]
 ·simp [World.shape?,h.heap]
structure Two (w w':World) (b:Nat) (r:Option Nat):Prop where
 size:w.heap.size≤w'.heap.size
 os:w'.os=w.os
 tape:w'.tape=w.tape
 output:w'.output=w.output
 block: ∀k,k<w.heap.size→k≠b→r≠some k→w'.heap[k]?=w.heap[k]?
theorem Two.trans {a b c:World} {x:Nat} {r:Option Nat} (h:Two a b x r) (k:Two b c x r):Two a c x r:=
 ⟨Nat.le_trans h.size k.size,k.os.trans h.os,k.tape.trans h.tape,k.output.trans h.output,fun i hi h1 h2=>(k.block i (Nat.lt_of_lt_of_le hi h.size) h1 h2).trans (h.block i hi h1 h2)⟩
theorem Two.refl (w:World) (x:Nat) (r:Option Nat):Two w w x r:=⟨Nat.le_refl _,rfl,rfl,rfl,fun _ _ _ _=>rfl⟩
def bldP (P:Program) (B T n b:Nat) (p:Value):Prop:=(p= .pointer none∧bldAt P B T n)∨p= .pointer (some ⟨b,0,none⟩)
def BldPost (w:World) (b:Nat) (v:Value) (us:Array Value) (T E:TypeId) (bs:List Value) (w':World):Prop:=
 ∃v',BldAt w' b (.pointer (some ⟨b,0,none⟩)) v' ((us.setIfInBounds 0 (.pointer (some ⟨b,0,none⟩))).setIfInBounds 1 v') T∧w'.ownsRow 0 E 1 v' bs.length bs∧(v'.ownBlock=v.ownBlock∨((∃g,v'.ownBlock=some g∧w.heap.size≤g)∧Two w w' b none))∧v'.ownBlock≠some b∧Two w w' b v.ownBlock
def bk (E:Nat):Nat:=KB+E
theorem PRlist.two {S:Mem} {gb:Gb} {c0 c1:AV} {rest:List AV} {us:List Value} (h:PRlist S gb (c0::c1::rest) us): ∃p v us',us=p::v::us'∧PR S gb c0 p∧PR S gb c1 v∧PRlist S gb rest us':=by
 simp only [PRlist] at h
 obtain ⟨p,_,rfl,hp,v,us',rfl,hv,hr⟩:=h
 exact ⟨p,v,us',rfl,hp,hv,hr⟩
end Go.Ai
