/- P13: a part of the proof: the rules, or what functions compute. Conditions: as each theorem says. -/
import Derived.Test.YtggemlhclppciaaGreatDoorP12
import Derived.Test.YtggemlhclppciaaGreatDoorP6
import Derived.Test.YtggemlhclppciaaGreatDoorCode
import Derived.Lib.LaidU8
import GoSem.PinnedTables
set_option linter.unusedSimpArgs false
set_option linter.unusedVariables false
set_option maxRecDepth 20000
namespace Go.Ai
open Go.Proofs
set_option maxHeartbeats 2000000 in
theorem rsame14_spec: ∀(N:Nat) (L:List It),cntL L≤N→cntL L≤1000→wfL L→Sp Tryz.prog gl 15 [.sl (itRows L),.sl (itRows L)] (.bool true):=by
 intro N
 induction N with
 |zero=>
  intro L h hc hw
  have hL:L=[]:=by
   have:=len_cnt L
   exact List.eq_nil_of_length_eq_zero (by omega)
  subst hL
  refine s15 rfl rfl ?_
  simp -implicitDefEqProofs [c15,itRows]
  refine wp_lpk (α:=Unit) (fun _=>⟨[(0,.sl []),(1,.sl []),(5,i6 0)],[],[]⟩) (fun _=>True) (fun _=>0) ?_ () trivial ?_
  ·rintro K x hK _
   clear hK
   simp -implicitDefEqProofs
  ·refine weak_mk ?_ ?_ ?_ ?_ ?_ ?_<;>simp -implicitDefEqProofs
 |succ N ih=>
  intro L h hc hw
  refine s15 rfl rfl ?_
  have rl:=itRows_len L
  have rat:=itRows_at L
  have ll:=len_cnt L
  generalize itRows L=RR at *
  simp -implicitDefEqProofs [c15]
  refine wp_lpk (α:=Nat) (fun i=>⟨[(0,.sl RR),(1,.sl RR),(5,i6 i)],[],[]⟩) (fun i=>i≤L.length) (fun i=>L.length - i) ?_ 0 (Nat.zero_le _) ?_
  ·rintro K i hK h1
   have t1:IntKind.i64.wrap ((i:Int)+1)=(i+1:Nat):=by rw [wrap_i64]<;>omega
   by_cases g:i<L.length
   ·have g':(i:Int)<L.length:=by omega
    have gR:i<RR.length:=by omega
    have rai:=rat i g gR
    have hx1:=cnt_mem (List.getElem_mem g)
    have hx2:=wf_mem hw (List.getElem_mem g)
    have fin:=fun σ' hσ=>hK (i+1) σ' (by omega) (by omega) hσ
    clear hK rat
    generalize L[i]=x at *
    obtain ⟨xn,ws,xb,ks,xl,xc⟩:=x
    rw [cntI] at hx1
    rw [wfI] at hx2
    have IH:=ih ks (by omega) (by omega) hx2.2.2.2
    have SM:=same13_spec ws (by omega)
    rw [It.row] at rai
    generalize itRows ks=IR at *
    generalize ws.map Tk.row=WR at *
    clear hx2 ih
    simp -implicitDefEqProofs [g,g',gR,rai,rl]
    refine onC_mk _ (SM) ?_
    simp -implicitDefEqProofs [g,gR,rai,rl]
    refine onC_mk _ (IH) ?_
    simp -implicitDefEqProofs
    refine fin _ ?_
    refine weak_mk ?_ ?_ ?_ ?_ ?_ ?_<;>simp -implicitDefEqProofs [t1]
   ·obtain rfl:i=L.length:=by omega
    have g': ¬(L.length:Int)<L.length:=by omega
    clear hK
    simp -implicitDefEqProofs [g',rl]
  ·refine weak_mk ?_ ?_ ?_ ?_ ?_ ?_<;>simp -implicitDefEqProofs
open Go.Proofs
theorem rpF_eq (s:List UInt8):rpF s=parseF s:=by
 unfold rpF parseF
 by_cases h:(tokF s).c=0
 ·rw [if_neg (by simpa using h),if_neg (by simpa using h)]
  have hp:=(rp_ok (2*(tokF s).l.length+3)).1 1 0 [] (tokF s).l 0 ⟨[],[],false,0,0⟩ [] (tokF_src h) (by omega) rfl (.inl ⟨rfl,rfl⟩) (by decide)
  cases hr:pL (2*(tokF s).l.length+3) 1 0 [] (tokF s).l 0 with
  |no=>exact absurd hr (parse_no s h)
  |ok o l' n'=>
   rw [hr] at hp
   simp only [RpL] at hp
   rw [if_pos trivial] at hp
   exact hp
  |th c t l n=>
   rw [hr] at hp
   exact hp
 ·rw [if_pos h,if_pos h]
theorem parse_wf (s:List UInt8):wfL (parseF s).1∧cntL (parseF s).1≤300:=by
 rcases parse_fwd s with ⟨_,q⟩|⟨_,q⟩
 ·rw [q];exact ⟨by rw [wfL];trivial,by decide⟩
 ·exact ⟨q.wf,q.cnt⟩
set_option maxHeartbeats 2000000 in
theorem treeParses_spec (s:List UInt8):Sp Tryz.prog gl 6 [.str s] (.bool true):=by
 refine s6 rfl rfl ?_
 have AW:=awake14_spec
 have W:=parse_wf s
 have SS:=rsame14_spec _ (parseF s).1 (Nat.le_refl _) (by omega) W.1
 have TP:=tparse_spec s
 have RP:=r14parse_spec s
 rw [rpF_eq] at RP
 generalize parseF s=x at *
 obtain ⟨its,c,a,b⟩:=x
 simp only [parseV] at TP RP SS
 clear W
 generalize itRows its=I1 at *
 by_cases c0:5000<s.length
 ·have c0':(5000:Int)<s.length:=by omega
  by_cases c1:s.length≤40000
  ·have c1':(s.length:Int)≤40000:=by omega
   simp -implicitDefEqProofs [c6]
   refine onC_mk _ (AW) ?_
   simp -implicitDefEqProofs [c0,c0',c1,c1']
  ·have c1': ¬(s.length:Int)≤40000:=by omega
   simp -implicitDefEqProofs [c6]
   refine onC_mk _ (AW) ?_
   simp -implicitDefEqProofs [c0,c0',c1,c1']
   refine onC_mk _ (TP) ?_
   simp -implicitDefEqProofs
   refine onC_mk _ (RP) ?_
   simp -implicitDefEqProofs
   refine onC_mk _ (SS) ?_
   simp -implicitDefEqProofs
 ·have c0': ¬(5000:Int)<s.length:=by omega
  simp -implicitDefEqProofs [c6]
  refine onC_mk _ (AW) ?_
  simp -implicitDefEqProofs [c0,c0']
  refine onC_mk _ (TP) ?_
  simp -implicitDefEqProofs
  refine onC_mk _ (RP) ?_
  simp -implicitDefEqProofs
  refine onC_mk _ (SS) ?_
  simp -implicitDefEqProofs
end Go.Ai
namespace Go.Ai
open Go.Proofs Go.Lib
set_option maxRecDepth 100000
def accCells:List Value:=(List.range 32).map fun o=>Value.int .u8 (if o%2=0 then (accLo (o / 2):Int) else (accHi (o / 2):Int))
def firstCells:List Value:=firstTab.map fun z=>Value.int .u8 z
theorem first_cell {W:World} (h:VarReads Tryz.prog W "unicode/utf8.first" firstData) (o:Nat) (u:Value) (hu:firstCells[o]?=some u):W.cell? ⟨0,o,none⟩=some u∧u.oneCell'=true:=by
 have hg0:Tryz.prog.globalNamed "unicode/utf8.first"=some 0:=by kernel_rfl
 have ht0:(Tryz.prog.globals[0]?).map (·.type)=some 201:=by kernel_rfl
 obtain ⟨g,t,cs,fuel,p,hg,hty,hvar,hd⟩:=h
 obtain rfl:=Option.some.inj (hg0.symm.trans hg)
 obtain rfl:=Option.some.inj (ht0.symm.trans hty)
 have hcs:=cells_of_tab (t:=201) (e:=5) (n:=256) (by kernel_rfl) (by kernel_rfl) (by kernel_rfl) (by kernel_rfl) hd
 refine ⟨?_,?_⟩
 ·rw [World.var?_cell hg hvar o,←Array.getElem?_toList,hcs]
  exact hu
 ·obtain ⟨z,_,rfl⟩:=List.mem_map.1 (List.mem_of_getElem? hu)
  rfl
theorem acc_cell {W:World} (h:VarReads Tryz.prog W "unicode/utf8.acceptRanges" acceptData) (o:Nat) (u:Value) (hu:accCells[o]?=some u):W.cell? ⟨1,o,none⟩=some u∧u.oneCell'=true:=by
 have hg0:Tryz.prog.globalNamed "unicode/utf8.acceptRanges"=some 1:=by kernel_rfl
 have ht0:(Tryz.prog.globals[1]?).map (·.type)=some 204:=by kernel_rfl
 have hc0:Tryz.prog.cellsOf 203=2:=by kernel_rfl
 obtain ⟨g,t,cs,fuel,p,hg,hty,hvar,hd⟩:=h
 obtain rfl:=Option.some.inj (hg0.symm.trans hg)
 obtain rfl:=Option.some.inj (ht0.symm.trans hty)
 have ho:o<32:=by have:=(List.getElem?_eq_some_iff.1 hu).1;simpa [accCells] using this
 simp only [accCells,List.getElem?_map,List.getElem?_range ho,Option.map_some,Option.some.injEq] at hu
 subst hu
 refine ⟨?_,by split<;>rfl⟩
 have hi:o / 2<16:=by omega
 obtain ⟨fuel',d,q,hdi,he⟩:=array_elem (t:=204) (e:=203) (n:=16) (by kernel_rfl) hd (o / 2) hi
 simp only [List.getElem?_map,List.getElem?_range hi,Option.map_some,Option.some.injEq] at hdi
 subst hdi
 rw [hc0] at he
 obtain ⟨fs,hfs,hsz,hf⟩: ∃fs:Array Field,Tryz.prog.underlying 203=some (.struct fs)∧fs.size=2∧ ∀(i:Nat) (f:Field),fs[i]?=some f→Tryz.prog.underlying f.type=some (.int .u8)∧f.offset=i∧Tryz.prog.cellsOf f.type=1:=by
  refine ⟨_,(by kernel_rfl:Tryz.prog.underlying 203=some (.struct #[Field.mk "lo" 5 0 false "" "unicode/utf8" 0,Field.mk "hi" 5 1 false "" "unicode/utf8" 1])),rfl,fun j f hj=>?_⟩
  match j,hj with
  |0,hj=>simp at hj;subst hj;exact ⟨by kernel_rfl,rfl,by kernel_rfl⟩
  |1,hj=>simp at hj;subst hj;exact ⟨by kernel_rfl,rfl,by kernel_rfl⟩
  |j+2,hj=>simp at hj
 have hcs:=ints_of_struct hfs hf (by rw [hc0,hsz]) he
 have e0:=congrArg (·[0]?) hcs
 have e1:=congrArg (·[1]?) hcs
 simp only [List.getElem?_take,List.getElem?_drop] at e0 e1
 rw [World.var?_cell hg hvar o,←Array.getElem?_toList]
 by_cases hp:o%2=0
 ·rw [if_pos hp]
  have eo:o / 2*2+0=o:=by omega
  rw [eo] at e0
  simpa using e0
 ·rw [if_neg hp]
  have eo:o / 2*2+1=o:=by omega
  rw [eo] at e1
  simpa using e1
end Go.Ai
