/- P16: a part of the proof. Conditions: as each theorem says. -/
import Derived.Test.YtggemlhclppciaaGreatDoorCode
import Derived.Lib.LaidU8
import GoSem.PinnedTables
set_option linter.unusedSimpArgs false
set_option linter.unusedVariables false
set_option maxRecDepth 20000
namespace Go.Ai
open Go.Proofs Go.Lib
set_option maxRecDepth 100000
def mI:List Value:=(List.range 32).map fun o=>Value.int .u8 (if o%2=0 then (accLo (o / 2):Int) else (accHi (o / 2):Int))
def firstCells:List Value:=firstTab.map fun z=>Value.int .u8 z
theorem zO {W:World} (h:VarReads Tryz.prog W "unicode/utf8.first" firstData) (o:Nat) (u:Value) (hu:firstCells[o]?=some u):W.cell? ⟨0,o,none⟩=some u∧u.oneCell'=true:=by
 have hg0:Tryz.prog.globalNamed "unicode/utf8.first"=some 0:=by kernel_rfl
 have ht0:(Tryz.prog.globals[0]?).map (·.type)=some 201:=by kernel_rfl
 obtain ⟨g,t,cs,fuel,p,hg,hty,hvar,hd⟩:=h;obtain rfl:=Option.some.inj (hg0.symm.trans hg);obtain rfl:=Option.some.inj (ht0.symm.trans hty);have hcs:=cells_of_tab (t:=201) (e:=5) (n:=256) (by kernel_rfl) (by kernel_rfl) (by kernel_rfl) (by kernel_rfl) hd;refine ⟨?_,?_⟩
 ·rw [World.var?_cell hg hvar o,←Array.getElem?_toList,hcs];exact hu
 ·obtain ⟨z,_,rfl⟩:=tO.1 (List.mem_of_getElem? hu);rfl
theorem E5 {W:World} (h:VarReads Tryz.prog W "unicode/utf8.acceptRanges" acceptData) (o:Nat) (u:Value) (hu:mI[o]?=some u):W.cell? ⟨1,o,none⟩=some u∧u.oneCell'=true:=by
 have hg0:Tryz.prog.globalNamed "unicode/utf8.acceptRanges"=some 1:=by kernel_rfl
 have ht0:(Tryz.prog.globals[1]?).map (·.type)=some 204:=by kernel_rfl
 have hc0:Tryz.prog.cellsOf 203=2:=by kernel_rfl
 obtain ⟨g,t,cs,fuel,p,hg,hty,hvar,hd⟩:=h;obtain rfl:=Option.some.inj (hg0.symm.trans hg);obtain rfl:=Option.some.inj (ht0.symm.trans hty);have ho:o<32:=by have:=(oU.1 hu).1;simpa [mI] using this
 simp only [mI,vm,List.getElem?_range ho,Option.map_some,bV] at hu;subst hu;refine ⟨?_,by split<;>rfl⟩;have hi:o / 2<16:=by omega
 obtain ⟨fuel',d,q,hdi,he⟩:=array_elem (t:=204) (e:=203) (n:=16) (by kernel_rfl) hd (o / 2) hi;simp only [vm,List.getElem?_range hi,Option.map_some,bV] at hdi;subst hdi;rw [hc0] at he;obtain ⟨fs,hfs,hsz,hf⟩: ∃fs:Array Field,Tryz.prog.underlying 203=some (.struct fs)∧fs.size=2∧ ∀(i:Nat) (f:Field),fs[i]?=some f→Tryz.prog.underlying f.type=some (.int .u8)∧f.offset=i∧Tryz.prog.cellsOf f.type=1:=by
  refine ⟨_,(by kernel_rfl:Tryz.prog.underlying 203=some (.struct #[Field.mk "lo" 5 0 false "" "unicode/utf8" 0,Field.mk "hi" 5 1 false "" "unicode/utf8" 1])),rfl,fun j f hj=>?_⟩
  match j,hj with
  |0,hj=>simp at hj;subst hj;exact ⟨by kernel_rfl,rfl,by kernel_rfl⟩
  |1,hj=>simp at hj;subst hj;exact ⟨by kernel_rfl,rfl,by kernel_rfl⟩
  |j+2,hj=>simp at hj
 have hcs:=ints_of_struct hfs hf (by rw [hc0,hsz]) he;have e0:=congrArg (·[0]?) hcs;have e1:=congrArg (·[1]?) hcs;simp only [oW,List.getElem?_drop] at e0 e1;rw [World.var?_cell hg hvar o,←Array.getElem?_toList];by_cases hp:o%2=0
 ·rw [if_pos hp];have eo:o / 2*2+0=o:=by omega
  rw [eo] at e0;simpa using e0
 ·rw [if_neg hp];have eo:o / 2*2+1=o:=by omega
  rw [eo] at e1;simpa using e1
end Go.Ai
