/- AiShelf: a part of the proof: the rules, or what functions compute. Conditions: as each theorem says. -/
import Derived.Test.YthonkjadcpdphaaGreatDoorAiFunH
import Derived.Test.YthonkjadcpdphaaGreatDoorAiExt
import Derived.Shelf.Strings.OnBuilder
set_option linter.unusedSimpArgs false
set_option linter.unusedVariables false
namespace Go.Ai
open Go.RowKit
theorem shelf_spec {P:Program} {GL:List (Nat×List Value)} {f:Nat} {fn:Func} (hf:P.funcs[f]?=some fn) (hname:(fn.name== "runtime.NumGoroutine")=false) (hb:fn.body.isSome=true) {l:List AV} {r:AV}
  (h: ∀(S:Mem) (gb:Gb) (w:World) (vs:List Value),PRlist S gb l vs→(∀g o v,S g o=some v→w.cell? ⟨g,o,none⟩=some v)→
   Calls P f vs.toArray w fun e w'=> ∃v,e= .returned v∧Below w.heap.size w w'∧PR S gb r v):Sp P GL f l r:=by
 rw [sp_eq]
 intro d S gb w vs hvs hhr hglo hnw
 have h1:=h S gb w vs hvs hhr.agree
 unfold Does
 have hcall:(callFunc f vs.toArray).run P w= .ok (.enter f vs.toArray) w:=by
  obtain ⟨c,hc⟩:=Option.isSome_iff_exists.1 hb
  have hn: ¬fn.name= "runtime.NumGoroutine":=by simpa using hname
  simp [callFunc,hf,hc,hn]
 rw [hcall]
 refine h1.mono fun e w' ⟨v,he,hbel,hp⟩=>⟨v,he,S,gb,Bw.of_below hbel,fun _ _ _ _=>rfl,Mem.le.refl _,fun _ _=>rfl,fun i hi hne=>absurd (hnw i hi) hne,hp,⟨?_,?_,?_,?_,?_,?_,?_,?_⟩,?_,?_⟩
 ·intro g o u hu
  have:=hhr.agree g o u hu
  have hlt:=World.block_lt_of_cell? w _ this
  rw [hbel.cell (p:=⟨g,o,none⟩) (by simpa using hlt)];exact this
 ·intro d cs hcs;simp [lkB] at hcs
 ·intro d cs hcs;simp [lkB] at hcs
 ·intro d d' g z z' hg;simp [lkB] at hg
 ·intro p k hk;simp [lkP] at hk
 ·intro p q k l b hk;simp [lkP] at hk
 ·intro p k b d z hk;simp [lkP] at hk
 ·intro d off k hk;simp [lkP] at hk
 ·intro d g z hg;simp [lkB] at hg
 ·intro p k g hk;simp [lkP] at hk
def strRows (xs:List (List UInt8)):List (List AV):=xs.map fun x=>[.str x]
open Go.Shelf Go.Proofs in
theorem join_shelf {P:Program} {ρ:Ren} {GL:List (Nat×List Value)} (L:Lays.n156 P ρ) (X:Builder.Extra P ρ) (hname:((Body.n156 ρ).name== "runtime.NumGoroutine")=false) (hb:(Body.n156 ρ).body.isSome=true) (xs:List (List UInt8)) (sep:List UInt8)
  (hN:xs.length≤140737488355328) (hlen:(Lib.join xs sep).length≤140737488355328):Sp P GL (ρ.f 156) [.sl (strRows xs),.str sep] (.str (Lib.join xs sep)):=by
 refine shelf_spec L.f156 hname hb ?_
 intro S gb w vs hvs hag
 simp only [PRlist] at hvs
 obtain ⟨v1,_,rfl,p1,v2,_,rfl,p2,rfl⟩:=hvs
 simp only [PR] at p1 p2 ⊢
 subst p2
 have hmap:(xs.map fun x=>(⟨x.toArray⟩:ByteArray)).map (·.data.toList)=xs:=by
  rw [List.map_map]
  conv=>rhs;rw [←List.map_id xs]
  apply List.map_congr_left;intro x _;simp
 have hl:(strRows xs).length=xs.length:=by simp [strRows]
 rcases p1 with ⟨rfl,h0⟩|⟨a,cap,k,rfl,hcap,h⟩
 ·have hx:xs=[]:=by simpa [strRows] using h0
  subst hx
  exact (Any.strings_Join_none L X none 0 _ w).mono fun e w' ⟨he,hw⟩=>⟨_,he,hw▸Below.refl _ _,rfl⟩
 ·rcases h with h|⟨hs,hr⟩
  ·have hx:xs=[]:=by simpa [strRows] using h
   subst hx
   rw [hl]
   exact (Any.strings_Join_none L X (some a) cap _ w).mono fun e w' ⟨he,hw⟩=>⟨_,he,hw▸Below.refl _ _,rfl⟩
  ·obtain ⟨bk,o,sp⟩:=a
   simp only at hs
   subst hs
   by_cases hx:xs=[]
   ·subst hx
    exact (Any.strings_Join_none L X _ cap _ w).mono fun e w' ⟨he,hw⟩=>⟨_,he,hw▸Below.refl _ _,rfl⟩
   ·have hk:k=1:=by
     obtain ⟨x,r,rfl⟩:=List.exists_cons_of_ne_nil hx
     have:=(hr.get (i:=0) (r:=[.str x]) rfl).1
     simpa using this.symm
    subst hk
    have hc: ∀(j:Nat) x,(xs.map fun x=>(⟨x.toArray⟩:ByteArray))[j]?=some x→w.cell? ⟨bk,o+j,none⟩=some (.string x):=by
     intro j x hj
     rw [List.getElem?_map,Option.map_eq_some_iff] at hj
     obtain ⟨y,hy,rfl⟩:=hj
     have h2:(strRows xs)[j]?=some [.str y]:=by unfold strRows;rw [List.getElem?_map,hy];rfl
     obtain ⟨_,h3⟩:=hr.get h2
     simp only [PRcells,PR,Nat.mul_one] at h3
     obtain ⟨⟨u,hu,_,rfl⟩,_⟩:=h3
     exact hag _ _ _ hu
    have hbk:bk<w.heap.size:=by
     obtain ⟨x,r,rfl⟩:=List.exists_cons_of_ne_nil hx
     have:=hc 0 _ rfl
     simpa using World.block_lt_of_cell? w _ this
    have J:=Any.strings_Join L X bk o cap (xs.map fun x=>(⟨x.toArray⟩:ByteArray)) ⟨sep.toArray⟩ w hc hbk (by simpa using hN) (by rw [List.length_map];rw [hl] at hcap;exact hcap) (by rw [hmap];simpa using hlen)
    rw [hmap,List.length_map] at J
    rw [hl]
    exact J.mono fun e w' ⟨he,hw⟩=>⟨_,he,hw,by simp⟩
end Go.Ai
