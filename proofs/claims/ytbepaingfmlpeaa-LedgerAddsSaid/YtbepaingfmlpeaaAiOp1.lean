/- YtbepaingfmlpeaaAiOp1: part of the abstract interpreter library (values, rules, soundness against the model) or of what a function of the seat computes. Conditions: as each theorem says. -/
import Derived.Test.YtbepaingfmlpeaaAiApp
set_option linter.unusedSimpArgs false
set_option linter.unusedVariables false
namespace Go.Ai
open Go.RowKit

/-- What a call does: of a Go function with a body, of one without. -/
def Does (P : Program) (f : FuncId) (vs : Array Value) (w : World) (R : Value → World → Prop) : Prop :=
  match (callFunc f vs).run P w with
  | .ok (.value v) w' => R v w'
  | .ok (.enter f' as') w' => Calls P f' as' w' fun e w'' => ∃ v, e = .returned v ∧ R v w''
  | _ => False

/-- A contract: called with such data the function returns this, and leaves what was there alone. -/
def Spec (P : Program) (f : Nat) (as : List AV) (r : AV) : Prop :=
  ∀ (S : Mem) (w : World) (vs : List Value), (∀ g o v, S g o = some v → w.cell? ⟨g, o, none⟩ = some v) → PRlist S gb0 as vs →
    Does P f vs.toArray w fun v w' => ∃ S', Below w.heap.size w w' ∧ (∀ g o, g < w.heap.size → S' g o = S g o) ∧ S.le S' ∧ (∀ g o v, S' g o = some v → w'.cell? ⟨g, o, none⟩ = some v) ∧ PR S' gb0 r v

variable {P : Program} {S0 : Mem} {w0 : World} {N : Nat} {S : Mem} {gb : Gb} {σ : St} {a : Act} {w : World}

theorem wp_value {o : Oper} {K : Act → World → Prop} {Q : Exit → Act → World → Prop} {u : Value} {w' : World} (h : (execOp a.eval o).run P w = .ok (.value u) w') (hk : K (a.put o.dst u) w') : o.wp P a w K Q := by
  unfold Oper.wp; rw [h]; exact hk
theorem wp_skip' {o : Oper} {K : Act → World → Prop} {Q : Exit → Act → World → Prop} {w' : World} (h : (execOp a.eval o).run P w = .ok .skip w') (hk : K (a.put o.dst undef) w') : o.wp P a w K Q := by
  unfold Oper.wp; rw [h]; exact hk

theorem mapG_parts {l : List (Nat × Operand)} {i : Nat} {ys : List Operand} (h : parts l i = some ys) : l = (ys.zipIdx i).map fun x => (x.2, x.1) := by
  induction l generalizing i ys with
  | nil => simp [parts] at h; subst h; rfl
  | cons x r ih =>
    obtain ⟨j, y⟩ := x
    simp only [parts] at h
    split at h
    · rename_i e
      simp only [beq_iff_eq] at e
      simp only [Option.map_eq_some_iff] at h
      obtain ⟨ys', h1, rfl⟩ := h
      subst e
      simp [List.zipIdx_cons, ih h1]
    · cases h

/-- Rows of operands, and their cells. -/
theorem rowsOf_sound (h : Rel S0 w0 N S gb σ a w) {sz : Nat} : ∀ {ps : List X} {ys : List Operand} {rows : List (List AV)}, mXs ps ys = true → rowsOf σ sz ps = some rows →
    PRlist S gb0 rows.flatten (ys.flatMap fun y => (a.eval y).cells.toList) ∧ (∀ u ∈ (ys.flatMap fun y => (a.eval y).cells.toList), u.oneCell' = true) ∧ (∀ r ∈ rows, r.length = sz) ∧ (∀ y ∈ ys, (a.eval y).cells.size = sz) ∧ rows.length = ys.length
  | [], ys, rows, hm, hr => by
    cases ys <;> simp [mXs] at hm
    simp [rowsOf] at hr; subst hr
    simp [PRlist]
  | x :: r, ys, rows, hm, hr => by
    cases ys with
    | nil => simp [mXs] at hm
    | cons y ys =>
      simp only [mXs, Bool.and_eq_true] at hm
      simp only [rowsOf] at hr
      split at hr
      · rename_i cs hcs
        split at hr
        · rename_i cs' rs e1 e2
          split at hr
          · rename_i hl
            simp only [Option.some.injEq] at hr; subst hr
            obtain ⟨c1, c2⟩ := cs_PR hcs (mX_sound h hm.1)
            obtain ⟨g1, g2, g3, g4, g5⟩ := rowsOf_sound h hm.2 e2
            have c3 := shutL_PR _ _ _ e1 c1
            have hsz : (a.eval y).cells.size = sz := by rw [← Array.length_toList, ← c3.length]; exact hl
            refine ⟨by simpa using c3.append g1, ?_, ?_, ?_, by simp [g5]⟩
            · intro u hu
              simp only [List.flatMap_cons, List.mem_append] at hu
              rcases hu with hu | hu
              · exact c2 u hu
              · exact g2 u hu
            · simpa [hl] using g3
            · simpa [hsz] using g4
          · cases hr
        · cases hr
      · cases hr

/-- 'fill' all of a row, part by part. -/
theorem fill_all (sz : Nat) : ∀ (vs : List Value) (i : Nat) (cells : Array Value), (∀ v ∈ vs, v.cells.size = sz) → (i + vs.length) * sz = cells.size →
    ∃ us, Instr.fill (fun i => some (i * sz, sz)) cells ((vs.zipIdx i).map fun x => (x.2, x.1)) = some us ∧ us.toList = cells.toList.take (i * sz) ++ vs.flatMap (·.cells.toList)
  | [], i, cells, _, hs => ⟨cells, by simp [Instr.fill], by simp only [List.length_nil, Nat.add_zero] at hs; rw [hs, ← Array.length_toList, List.take_length]; simp⟩
  | v :: r, i, cells, hv, hs => by
    simp only [List.forall_mem_cons] at hv
    simp only [List.zipIdx_cons, List.map_cons, Instr.fill, hv.1]
    have hle : i * sz + sz ≤ cells.size := by
      rw [← hs]; simp only [List.length_cons]
      rw [show (i + (r.length + 1)) * sz = i * sz + sz + r.length * sz by rw [Nat.add_mul, Nat.add_mul]; omega]
      omega
    rw [if_neg (by simp; omega)]
    have hlen : v.cells.toList.length = sz := by simpa using hv.1
    have hfold := fold_set v.cells.toList (i * sz) 0 cells (by simp [hlen]; omega)
    simp only [Nat.add_zero] at hfold
    generalize hc : (v.cells.toList.zipIdx.foldl (fun cs (x : Value × Nat) => cs.setIfInBounds (i * sz + x.2) x.1) cells) = cells' at hfold
    have hsz' : cells'.size = cells.size := by
      rw [← Array.length_toList, hfold]
      simp [hlen]; omega
    obtain ⟨us, h1, h2⟩ := fill_all sz r (i + 1) cells' hv.2 (by rw [hsz', ← hs]; simp only [List.length_cons]; congr 1; omega)
    refine ⟨us, ?_, ?_⟩
    · rw [← Array.foldl_toList, Array.toList_zipIdx, hc]; exact h1
    · rw [h2, hfold]
      have : (List.take (i * sz) cells.toList ++ v.cells.toList ++ List.drop (i * sz + v.cells.toList.length) cells.toList).take ((i + 1) * sz) = List.take (i * sz) cells.toList ++ v.cells.toList := by
        have hl2 : (List.take (i * sz) cells.toList ++ v.cells.toList).length = (i + 1) * sz := by
          simp only [List.length_append, List.length_take, hlen, Array.length_toList, Nat.add_mul]; omega
        rw [← hl2]; exact List.take_left
      rw [this]; simp

theorem list_slice_len {α : Type} (l : List α) (n m : Nat) (h : n ≤ m) (h2 : m ≤ l.length) : ((l.take m).drop n).length = m - n := by simp; omega

theorem extract_mk (s : List UInt8) (l h : Nat) : (ByteArray.mk s.toArray).extract l h = ByteArray.mk ((s.take h).drop l).toArray := by
  apply ByteArray.ext
  rw [ByteArray.data_extract]
  apply Array.ext'
  simp [List.extract_eq_take_drop, List.drop_take]

theorem bnd_sound (h : Rel S0 w0 N S gb σ a w) {dflt : Nat} {x : Option X} {y : Option Operand} {n : Int} (hm : mOpt x y = true) (hb : bnd σ dflt x = some n) :
    (y = none ∧ n = dflt) ∨ ∃ y' k, y = some y' ∧ a.eval y' = .int k n := by
  cases x with
  | none => cases y <;> simp [mOpt] at hm; simp [bnd] at hb; exact .inl ⟨rfl, hb.symm⟩
  | some x =>
    cases y with
    | none => simp [mOpt] at hm
    | some y =>
      simp only [mOpt] at hm
      have hx := mX_sound h hm
      simp only [bnd] at hb
      split at hb
      · rename_i k m hv
        simp only [Option.some.injEq] at hb; subst hb
        rw [hv] at hx
        simp only [PR] at hx
        exact .inr ⟨y, k, rfl, hx⟩
      · cases hb

/-- A store. -/
theorem st_sound (h : Rel S0 w0 N S gb σ a w) {o : Oper} {n : Nat} {x v : X} (hm : mt1 P N o (.st n x v) = true) {K : St → Prop} (hw : wp1 (Spec P) (.st n x v) K σ) {K' : Act → World → Prop} {Q : Exit → Act → World → Prop}
    (hK : ∀ S gb σ a w, Rel S0 w0 N S gb σ a w → K σ → K' a w) : o.wp P a w K' Q := by
  simp only [wp1] at hw
  simp only [mt1, Bool.and_eq_true, beq_iff_eq] at hm
  obtain ⟨h1, hm⟩ := hm
  split at hm <;> (try cases hm)
  rename_i t x' v' hop
  simp only [Bool.and_eq_true, beq_iff_eq] at hm
  obtain ⟨⟨hsz, hx⟩, hv⟩ := hm
  have hx := mX_sound h hx
  have hv := mX_sound h hv
  split at hw
  · rename_i d off hxe
    rw [hxe] at hx
    simp only [PR] at hx
    obtain ⟨g, hg, hxp⟩ := hx
    split at hw
    · rename_i cs hcs
      split at hw
      · rename_i vs hvs
        obtain ⟨hl, hle, hk⟩ := hw
        obtain ⟨c1, c2⟩ := cs_PR hvs hv
        obtain ⟨g', us, T, e1, e2, e3, e4, e5, e6⟩ := h.box d cs hcs
        rw [hg] at e1; cases e1
        have hcl : (a.eval v').cells.toList.length = n := by rw [← c1.length]; exact hl
        have husz : us.size = cs.length := by rw [e4.length]; simp
        have hst := run_storeCells_at P g off T (a.eval v').cells.toList 0 us w e3 (by rw [hcl]; omega) c2
        simp only [Nat.add_zero] at hst
        refine wp_skip' (w' := w.setRow g (us.toList.take off ++ (a.eval v').cells.toList ++ us.toList.drop (off + (a.eval v').cells.toList.length)).toArray) ?_ ?_
        · unfold execOp
          have hs2 : (a.eval v').cells.size = n := by simpa using hcl
          simp [hop, hxp, Instr.storeAt, Instr.sureAddr, storeVar, run_sizeOf hsz, hs2, hst]
        · rw [h1]
          refine hK S gb _ _ _ (h.setBox hcs hg e3 (setRow_heap w g us _ T _ e3) (fun k hk => setRow_other w g k _ hk) (by simp) rfl rfl rfl (e4.fill c1) ?_ (fun p k hk => (lkP_dlr _ _ _ _ _ hk).1) ?_) hk
          · intro u hu
            simp only [List.mem_append] at hu
            rcases hu with (hu | hu) | hu
            · exact e5 u (List.mem_of_mem_take hu)
            · exact c2 u hu
            · exact e5 u (List.mem_of_mem_drop hu)
          · intro o' k hk
            have hno := (lkP_dlr _ _ _ _ _ hk).2 o' rfl
            simp only [List.getElem?_toArray]
            rw [List.append_assoc, List.getElem?_append, hcl]
            have htl : (us.toList.take off).length = off := by simp; omega
            rw [htl]
            by_cases ho : o' < off
            · rw [if_pos ho, List.getElem?_take, if_pos ho]; simp
            · rw [if_neg ho, List.getElem?_append, hcl, if_neg (by omega), List.getElem?_drop]
              rw [show off + n + (o' - off - n) = o' by omega]
              simp
      · cases hw
    · cases hw
  · cases hw

theorem op1_sound (h : Rel S0 w0 N S gb σ a w) {o : Oper} {ao : AOp} (hm : mt1 P N o ao = true) {K : St → Prop} (hw : wp1 (Spec P) ao K σ) {K' : Act → World → Prop} {Q : Exit → Act → World → Prop}
    (hK : ∀ S gb σ a w, Rel S0 w0 N S gb σ a w → K σ → K' a w) : o.wp P a w K' Q := by
  -- those that only compute
  have pure : ∀ d v, ev σ ao = some (d, v) → K (σ.put d v) → o.wp P a w K' Q := by
    intro d v he hk
    obtain ⟨h1, h2, u, h3, h4⟩ := ev_sound h hm he
    refine wp_value h3 ?_
    rw [h1]
    exact hK _ _ _ _ _ (h.put h2 h4) hk
  cases ao
  case mo d s =>
    simp only [wp1] at hw
    simp only [mt1, Bool.and_eq_true, slotOk_iff] at hm
    obtain ⟨⟨h1, h2⟩, hm⟩ := hm
    split at hw
    · rename_i k hk
      have hop : (execOp a.eval o).run P w = .ok (.value (a.tmps.getD s undef)) w := by
        unfold execOp
        split at hm
        · rename_i t hop; simp only [beq_iff_eq] at hm; subst hm; simp only [hop]; rfl
        · rename_i t hop; simp only [beq_iff_eq] at hm; subst hm; simp only [hop]; rfl
        · cases hm
      refine wp_value hop ?_
      rw [h1]
      refine hK S gb ((⟨σ.e, σ.bx, dl σ.pm (.s s)⟩ : St).puto d (lk σ.e s) k) _ _ ?_ hw
      refine (h.drop (.s s)).puto h2 (h.env s) (h.own _ _ hk) ?_ (fun b d' hb => h.ownb _ _ b d' hk hb)
      intro p l b hl _ hb hb2
      simp only [lkP_dl] at hl
      split at hl
      · cases hl
      · rename_i hne
        exact hne (h.ownd p (.s s) l k b hl hk hb hb2)
    · have hop : (execOp a.eval o).run P w = .ok (.value (a.tmps.getD s undef)) w := by
        unfold execOp
        split at hm
        · rename_i t hop; simp only [beq_iff_eq] at hm; subst hm; simp only [hop]; rfl
        · rename_i t hop; simp only [beq_iff_eq] at hm; subst hm; simp only [hop]; rfl
        · cases hm
      refine wp_value hop ?_
      rw [h1]
      exact hK _ _ _ _ _ (h.put h2 (h.env s)) hw
  case al d z =>
    simp only [wp1] at hw
    simp only [mt1, Bool.and_eq_true, slotOk_iff] at hm
    obtain ⟨⟨h1, h2⟩, hm⟩ := hm
    split at hm <;> (try cases hm)
    rename_i t hop
    split at hm <;> (try cases hm)
    rename_i i hi
    split at hm <;> (try cases hm)
    rename_i z' hz
    simp only [Bool.and_eq_true] at hm
    split at hw
    · rename_i hn
      refine wp_value (u := .pointer (some ⟨w.heap.size, 0, none⟩)) (w' := w.alloc (.cells z'.cells t)) ?_ ?_
      · unfold execOp
        simp [hop, Instr.alloc, zeroValue, typeInfo, hi, hz, newVar, newRow]
      · rw [h1]
        exact hK _ _ _ _ _ (h.newBox h2 hn z'.cells t (cstL_sound _ _ hm.2) (fun u hu => List.all_eq_true.1 hm.1 u hu)) hw
    · cases hw
  case bx d x =>
    simp only [wp1] at hw
    simp only [mt1, Bool.and_eq_true, slotOk_iff] at hm
    obtain ⟨⟨h1, h2⟩, hm⟩ := hm
    split at hm <;> (try cases hm)
    rename_i t x' hop
    have hx := mX_sound h hm
    split at hw
    · rename_i hn
      split at hw
      · rename_i cs hcs
        obtain ⟨c1, c2⟩ := cs_PR hcs hx
        refine wp_value (u := .pointer (some ⟨w.heap.size, 0, none⟩)) (w' := w.alloc (.cells (a.eval x').cells t)) ?_ ?_
        · unfold execOp
          simp [hop, Instr.box, newVar, newRow]
        · rw [h1]
          exact hK _ _ _ _ _ (h.newBox h2 hn _ t c1 c2) hw
      · cases hw
    · cases hw
  case bs d sz ps =>
    simp only [wp1] at hw
    simp only [mt1, Bool.and_eq_true, slotOk_iff] at hm
    obtain ⟨⟨h1, h2⟩, hm⟩ := hm
    split at hm <;> (try cases hm)
    rename_i t n ps' hop
    simp only [Bool.and_eq_true, beq_iff_eq, Bool.not_eq_true', beq_eq_false_iff_ne, ne_eq] at hm
    obtain ⟨⟨⟨⟨hu, hsz0⟩, hn⟩, hle⟩, hps⟩ := hm
    split at hu <;> (try cases hu)
    rename_i e hu'
    split at hu <;> (try cases hu)
    rename_i i hi
    simp only [Bool.and_eq_true, beq_iff_eq] at hu
    obtain ⟨hsize, hz⟩ := hu
    split at hz <;> (try cases hz)
    rename_i z hz'
    simp only [beq_iff_eq] at hz
    split at hps <;> (try cases hps)
    rename_i ys hys
    have hpl := mapG_parts hys
    split at hw
    · rename_i rows hrows
      obtain ⟨r1, r2, r3, r4, r5⟩ := rowsOf_sound h hps hrows
      have hlen : n = ys.length := by
        rw [hn]
        have : ∀ (ps : List X) (ys : List Operand), mXs ps ys = true → ps.length = ys.length := by
          intro ps; induction ps with
          | nil => intro ys hh; cases ys <;> simp [mXs] at hh ⊢
          | cons x r ih => intro ys hh; cases ys with
            | nil => simp [mXs] at hh
            | cons y s => simp [mXs] at hh; simp [ih s hh.2]
        exact this _ _ hps
      obtain ⟨us, f1, f2⟩ := fill_all sz (ys.map a.eval) 0 ((Array.range (n * sz)).map (z.cells[· % z.cells.size]!)) (by simpa using r4) (by simp [hlen])
      simp only [Nat.zero_mul, List.take_zero, List.nil_append, List.flatMap_map] at f2
      have hfl : (Array.map (fun x => (x.1, a.eval x.2)) ps').toList = ((ys.map a.eval).zipIdx.map fun x => (x.2, x.1)) := by
        rw [Array.toList_map, hpl, List.map_map, List.zipIdx_map, List.map_map]
        rfl
      have hble : n * sz ≤ 16777216 := Nat.le_of_ble_eq_true hle
      refine wp_value (u := .slice (some ⟨w.heap.size, 0, none⟩) n n) (w' := w.alloc (.cells us e)) ?_ ?_
      · unfold execOp
        simp only [hop, Instr.buildSlice, Sem.run_bind, run_underlying hu', Result.andThen_ok, sizeOf, typeInfo, run_program, hi, Sem.run_pure, hsize]
        rw [if_neg (by omega)]
        by_cases h0 : n * sz = 0
        · have hn0 : n = 0 := by rcases Nat.mul_eq_zero.1 h0 with h | h; exact h; exact absurd h hsz0
          have hys0 : ys = [] := List.eq_nil_of_length_eq_zero (by omega)
          subst hys0
          simp only [List.map_nil, List.zipIdx_nil] at hfl f1
          have hus : us = #[] := by
            have : us.toList = [] := by simpa using f2
            cases us; simp_all
          have hps0 : ps' = #[] := by cases ps'; simpa using hfl
          simp [hn0, hps0, Array.range_zero', Instr.fill, newRow, hus]
        · simp only [h0, if_false, zeroValue, Sem.run_bind, typeInfo, run_program, Result.andThen_ok, hi, hz', Sem.run_pure]
          rw [hfl]
          rw [f1]
          simp [newRow]
      · rw [h1]
        have hus2 : us.toList = ys.flatMap fun y => (a.eval y).cells.toList := f2
        obtain ⟨S', hS'⟩ := h.newOwn h2 us e (rows := rows) (us := us.toList) (k := sz) (cap := n) r3 (by rw [hus2]; exact r1) (by rw [hus2]; exact r2) List.take_length (by
          rw [← Array.length_toList, hus2, ← r1.length, flatten_length r3, r5, hlen]) (by omega) (by unfold maxLen; have : n ≤ n * sz := Nat.le_mul_of_pos_right _ (by omega); omega)
        refine hK S' gb _ _ _ ?_ hw
        rw [show n = rows.length by rw [r5, hlen]] at hS' ⊢
        exact hS'
    · cases hw
  case st n x v => exact st_sound h hm hw hK
  case lo d x =>
    have hm0 : mt1 P N o (.lds d x) = true := hm
    simp only [wp1] at hw
    simp only [mt1, Bool.and_eq_true, slotOk_iff] at hm
    obtain ⟨⟨h1, h2⟩, hm⟩ := hm
    split at hm <;> (try cases hm)
    rename_i t x' hop
    simp only [Bool.and_eq_true] at hm
    have hx := mX_sound h hm.2
    -- a plain load
    have plain : ∀ v, loadS σ.bx (σ.v x) = some v → K (σ.put d v) → o.wp P a w K' Q := by
      intro v hv hk
      obtain ⟨h1, h2, u, h3, h4⟩ := ev_sound h hm0 (d := d) (v := v) (by simp only [ev, hv])
      refine wp_value h3 ?_
      rw [h1]
      exact hK _ _ _ _ _ (h.put h2 h4) hk
    split at hw
    · rename_i b off hxe
      rw [hxe] at hx
      split at hw
      · rename_i cs hcs
        split at hw
        · rename_i v hv
          split at hw
          · rename_i k hk
            have hx' := hx
            simp only [PR] at hx
            obtain ⟨g, hg, hxp⟩ := hx
            obtain ⟨us, b1, b2, b3⟩ := h.boxcell hcs hg
            obtain ⟨u, hu, hp⟩ := b2.get hv
            have hcell := b1 off u hu
            have hpl : plv gb a w (.b b off) = u := by simp [plv, hg, hcell]
            refine wp_value (u := u) (w' := w) ?_ ?_
            · unfold execOp
              simp [hop, hxp, Instr.loadAt, Instr.sureAddr, loadVar, run_isAgg_s hm.1, hcell]
            · rw [h1]
              refine hK S gb ((⟨σ.e, σ.bx, dl σ.pm (.b b off)⟩ : St).puto d v k) _ _ ?_ hw
              have ho := h.own _ _ hk
              rw [hpl] at ho
              refine (h.drop (.b b off)).puto h2 hp ho ?_ (fun b' d' hb => h.ownb _ _ b' d' hk (by rw [hpl]; exact hb))
              intro p l b' hl _ hb hb2
              simp only [lkP_dl] at hl
              split at hl
              · cases hl
              · rename_i hne
                exact hne (h.ownd p (.b b off) l k b' hl hk hb (by rw [hpl]; exact hb2))
          · exact plain v (by simp only [loadS, hxe, hcs, hv]) hw
        · cases hw
      · cases hw
    · rename_i cs hxe
      split at hw
      · rename_i v hv
        exact plain v (by simp only [loadS, hxe, hv]) hw
      · cases hw
    · cases hw
  case so x s =>
    have hm0 := hm
    simp only [wp1] at hw
    simp only [mt1, Bool.and_eq_true, beq_iff_eq] at hm
    obtain ⟨h1, hm⟩ := hm
    split at hm <;> (try cases hm)
    rename_i t x' s' hop
    simp only [Bool.and_eq_true, beq_iff_eq] at hm
    obtain ⟨⟨hsz, rfl⟩, hx⟩ := hm
    have hx := mX_sound h hx
    split at hw
    · rename_i d off hxe
      rw [hxe] at hx
      simp only [PR] at hx
      obtain ⟨g, hg, hxp⟩ := hx
      split at hw
      · rename_i cs hcs
        split at hw
        case h_2 =>
          split at hw
          · rename_i vs hvs
            refine st_sound h (n := 1) (x := x) (v := .s s) (K := K) ?_ ?_ hK
            · simp only [mt1, Bool.and_eq_true, beq_iff_eq, hop] at hm0 ⊢
              exact ⟨hm0.1, ⟨hm0.2.1.1, hm0.2.2⟩, by simp [mX]⟩
            · simp only [wp1, hxe, hcs]
              simp only [St.v, hvs]
              exact hw
          · cases hw
        rename_i k hk
        obtain ⟨hlt, hk2⟩ := hw
        have hown := h.own _ _ hk
        have hpv := h.env s
        generalize huv : a.tmps.getD s undef = u at hown hpv
        have hplu : plv gb a w (.s s) = u := huv
        rw [hplu] at hown
        have hone : u.oneCell' = true := by rcases hown with rfl | ⟨_, _, _, _, _, rfl, _⟩ <;> rfl
        have hcells : u.cells = #[u] := by rcases hown with rfl | ⟨_, _, _, _, _, rfl, _⟩ <;> rfl
        obtain ⟨g', us, T, e1, e2, e3, e4, e5, e6⟩ := h.box d cs hcs
        rw [hg] at e1; cases e1
        have husz : us.size = cs.length := by rw [e4.length]; simp
        have hst := run_storeCells_at P g off T [u] 0 us w e3 (by simp; omega) (by simpa using hone)
        simp only [Nat.add_zero, List.length_singleton] at hst
        have hset : us.toList.take off ++ [u] ++ us.toList.drop (off + 1) = us.toList.set off u := by
          rw [List.set_eq_take_append_cons_drop, if_pos (by simp; omega)]; simp
        rw [hset] at hst
        have hul : PRlist S gb (cs.set off (lk σ.e s)) (us.toList.set off u) := by
          have := e4.fill (off := off) (cs := [lk σ.e s]) (us := [u]) ⟨u, [], rfl, hpv, rfl⟩
          simp only [List.length_singleton, hset] at this
          unfold fillA at this
          rw [List.length_singleton, ← show cs.set off (lk σ.e s) = cs.take off ++ [lk σ.e s] ++ cs.drop (off + 1) by rw [List.set_eq_take_append_cons_drop, if_pos hlt]; simp] at this
          exact this
        refine wp_skip' (w' := w.setRow g (us.toList.set off u).toArray) ?_ ?_
        · unfold execOp
          have : a.eval (.tmp s) = u := huv
          simp [hop, hxp, this, Instr.storeAt, Instr.sureAddr, storeVar, run_sizeOf hsz, hcells, hst]
        · rw [h1]
          change K' a _
          refine hK S gb _ _ _ ?_ hk2
          have hheap : (w.setRow g (us.toList.set off u).toArray).heap[g]? = some (.cells (us.toList.set off u).toArray T (0, 0)) := setRow_heap w g us _ T _ e3
          have base := h.setBox hcs hg e3 hheap (fun k hk => setRow_other w g k _ hk) (by simp) rfl rfl rfl (cs' := cs.set off (lk σ.e s)) (by simpa using hul) (by
            intro x hx
            simp only [List.toList_toArray] at hx
            rcases List.mem_or_eq_of_mem_set hx with hx | rfl
            · exact e5 x hx
            · exact hone) (pm := dl (dl σ.pm (.s s)) (.b d off)) (fun p l hl => by
              simp only [lkP_dl] at hl
              split at hl
              · cases hl
              · split at hl
                · cases hl
                · exact hl) (fun o' l hl => by
              simp only [lkP_dl] at hl
              split at hl
              · cases hl
              · rename_i hne
                have hne2 : off ≠ o' := fun e => hne (by rw [e])
                simp only [List.getElem?_toArray, List.getElem?_set_ne hne2]; simp)
          -- the place of the box's cell
          have hplb : plv gb a (w.setRow g (us.toList.set off u).toArray) (.b d off) = u := by
            simp only [plv, hg]
            rw [cell_of_row _ g off _ T _ hheap]
            simp [show off < us.size by omega]
          have hsame : ∀ p l, lkP (dl (dl σ.pm (.s s)) (.b d off)) p = some l → plv gb a (w.setRow g (us.toList.set off u).toArray) p = plv gb a w p ∧ lkP σ.pm p = some l ∧ p ≠ .s s ∧ p ≠ .b d off := by
            intro p l hl
            simp only [lkP_dl] at hl
            split at hl
            · cases hl
            · rename_i hne
              split at hl
              · cases hl
              · rename_i hne2
                refine ⟨?_, hl, hne2, hne⟩
                cases p with
                | s t => rfl
                | b d' o' =>
                  simp only [plv]
                  cases hq : gb d' with
                  | none => rfl
                  | some q =>
                    simp only []
                    by_cases e : q = g
                    · subst e
                      have := h.inj d' d q hq hg
                      subst this
                      have hne3 : off ≠ o' := fun e => hne (by rw [e])
                      rw [cell_of_row _ q o' _ T _ hheap, cell_of_row w q o' us T _ e3]
                      simp only [List.getElem?_toArray, List.getElem?_set_ne hne3]; simp
                    · rw [World.cell?_of_block (w := w) (setRow_other w g q _ e)]
          have hubase : ∀ b, u.ownBlock = some b → b ≠ g := by
            intro b hb e; subst e
            exact h.ownb _ _ b d hk (by rw [hplu]; exact hb) hg
          refine ⟨base.defers, base.size, base.below, base.ext, base.le, base.agree, base.env, base.box, base.dom, base.inj, ?_, ?_, ?_⟩
          · intro p l hl
            simp only [lkP] at hl
            split at hl
            · rename_i e; subst e; simp only [Option.some.injEq] at hl; subst hl
              rw [hplb]
              exact hown.mono (fun q hq => setRow_other w g q _ (hubase q hq)) (fun _ _ _ hn => hn)
            · exact base.own p l hl
          · intro p q l m b hl hm2 p1 p2
            simp only [lkP] at hl hm2
            split at hl
            · rename_i e; subst e
              split at hm2
              · rename_i e; exact e
              · rename_i e
                rw [hplb] at p1
                obtain ⟨s1, s2, s3, s4⟩ := hsame q m hm2
                rw [s1] at p2
                exact absurd (h.ownd q (.s s) m k b s2 hk p2 (by rw [hplu]; exact p1)) s3
            · rename_i e
              split at hm2
              · rename_i e2; subst e2
                rw [hplb] at p2
                obtain ⟨s1, s2, s3, s4⟩ := hsame p l hl
                rw [s1] at p1
                exact absurd (h.ownd p (.s s) l k b s2 hk p1 (by rw [hplu]; exact p2)) s3
              · exact base.ownd p q l m b hl hm2 p1 p2
          · intro p l b d' hl p1
            simp only [lkP] at hl
            split at hl
            · rename_i e; subst e
              rw [hplb] at p1
              exact h.ownb _ _ b d' hk (by rw [hplu]; exact p1)
            · exact base.ownb p l b d' hl p1
      · cases hw
    · cases hw
  case ap d sz by_ s y =>
    simp only [wp1] at hw
    simp only [mt1, Bool.and_eq_true, slotOk_iff] at hm
    obtain ⟨⟨h1, h2⟩, hm⟩ := hm
    split at hm <;> (try cases hm)
    rename_i as ts hop
    split at hm <;> (try cases hm)
    rename_i s' y' t t' has hts
    simp only [Bool.and_eq_true, beq_iff_eq, Bool.not_eq_true', beq_eq_false_iff_ne, ne_eq] at hm
    obtain ⟨⟨⟨⟨⟨rfl, hu⟩, hsz0⟩, hby0⟩, hs⟩, hy⟩ := hm
    split at hu <;> (try cases hu)
    rename_i e hu'
    split at hu <;> (try cases hu)
    rename_i i hi
    simp only [Bool.and_eq_true, beq_iff_eq] at hu
    obtain ⟨⟨hsize, hbytes⟩, hz⟩ := hu
    split at hz <;> (try cases hz)
    rename_i z hz'
    simp only [beq_iff_eq] at hz
    have hs' := mX_sound h hs
    have hy' := mX_sound h hy
    have has' : as = #[s', y'] := by cases as; simp_all
    have hts' : ts = #[t, t] := by cases ts; simp_all
    subst has'; subst hts'
    have hexec : ∀ {u : Value} {w' : World}, (Builtin.append_ #[t, t] o.type #[a.eval s', a.eval y']).run P w = .ok u w' → (execOp a.eval o).run P w = .ok (.value u) w' := by
      intro u w' hr
      unfold execOp
      simp [hop, resolve, invoke, builtin, hr]
    split at hw
    · rename_i news hnews
      have hyn := gb0to (gb := gb) (shut_PR _ _ _ hnews hy')
      split at hw
      · rename_i rows t0 hrows
        obtain ⟨w1, w2, w3, w4, w5⟩ := hw
        cases s' with
        | tmp t1 =>
          simp only [mX, beq_iff_eq] at hs
          subst hs
          rw [hrows] at hs'
          obtain ⟨u, w', S', g1, g2⟩ := app_sound (P := P) h h2 (ty := o.type) hu' hi hz' hsize hbytes hz (by omega) (by omega) (h.drop (.s t0)) hyn w4 w3 hs' (h.own _ _ w1) (by
            intro p l b hl hb hb2
            simp only [lkP_dl] at hl
            split at hl
            · cases hl
            · rename_i hne
              exact hne (h.ownd p (.s t0) l sz b hl w1 hb hb2)) (fun b d' hb => h.ownb _ _ b d' w1 hb) w2
          refine wp_value (hexec g1) ?_
          rw [h1]
          exact hK _ _ _ _ _ g2 w5
        | const c => simp [mX] at hs
        | global g => simp [mX] at hs
        | func g => simp [mX] at hs
      · rename_i hrows
        obtain ⟨w2, w4, w5⟩ := hw
        rw [hrows] at hs'
        simp only [PR] at hs'
        obtain ⟨u, w', S', g1, g2⟩ := app_sound (P := P) h h2 (ty := o.type) (rows := []) hu' hi hz' hsize hbytes hz (by omega) (by omega) h hyn w4 (by simp) (sv := a.eval s') (by simp only [PR]; exact .inl ⟨hs', trivial⟩) (.inl hs') (by
          intro p l b _ _ hb; rw [hs'] at hb; simp [Value.ownBlock] at hb) (by
          intro b d' hb; rw [hs'] at hb; simp [Value.ownBlock] at hb) (by simpa using w2)
        refine wp_value (hexec g1) ?_
        rw [h1]
        exact hK _ _ _ _ _ g2 (by simpa using w5)
      · cases hw
    · cases hw
  case mk d sz by_ z l c =>
    simp only [wp1] at hw
    simp only [mt1, Bool.and_eq_true, slotOk_iff] at hm
    obtain ⟨⟨h1, h2⟩, hm⟩ := hm
    split at hm <;> (try cases hm)
    rename_i t l' c' hop
    simp only [Bool.and_eq_true, beq_iff_eq, Bool.not_eq_true', beq_eq_false_iff_ne, ne_eq] at hm
    obtain ⟨⟨⟨⟨hu, hsz0⟩, hby0⟩, hl⟩, hc⟩ := hm
    split at hu <;> (try cases hu)
    rename_i e hu'
    split at hu <;> (try cases hu)
    rename_i i hi
    simp only [Bool.and_eq_true, beq_iff_eq] at hu
    obtain ⟨⟨hsize, hbytes⟩, hz⟩ := hu
    split at hz <;> (try cases hz)
    rename_i z' hz'
    simp only [Bool.and_eq_true, beq_iff_eq] at hz
    obtain ⟨⟨hzs, hone⟩, hcz⟩ := hz
    have hl' := mX_sound h hl
    have hc' := mX_sound h hc
    split at hw
    · rename_i kl ln kc cn hlv hcv
      obtain ⟨w1, w2, w3, w4⟩ := hw
      rw [hlv] at hl'; rw [hcv] at hc'
      simp only [PR] at hl' hc'
      have hb : (i.bytes : Int) * cn ≤ 140737488355328 := by rw [hbytes, Int.mul_comm]; unfold lim at w3; simpa using w3
      have hcn : cn ≤ (i.bytes : Int) * cn := by
        have h0 : 0 ≤ cn := by omega
        have h1' : (1 : Int) ≤ i.bytes := by omega
        calc cn = 1 * cn := by simp
          _ ≤ (i.bytes : Int) * cn := Int.mul_le_mul_of_nonneg_right h1' h0
      have hrun := run_make (P := P) w t e i z' hu' hi hz' kl kc ln cn w1 w2 (by omega) (by omega)
      refine wp_value (u := .slice (some ⟨w.heap.size, 0, none⟩) ln.toNat cn.toNat) (w' := w.alloc (.cells (madeCells z'.cells (cn.toNat * i.size)) e)) ?_ ?_
      · unfold execOp
        simp [hop, hl', hc', hrun]
      · rw [h1]
        have zrel := cstL_sound (S := S) (gb := gb0) _ _ hcz
        have hzl : z.length = sz := by rw [zrel.length]; simpa using hzs
        have hflat : ∀ n, PRlist S gb0 (List.replicate n z).flatten (List.replicate n z'.cells.toList).flatten := by
          intro n
          induction n with
          | zero => simp [PRlist]
          | succ n ih => simp only [List.replicate_succ, List.flatten_cons]; exact zrel.append ih
        have hmade : ∀ n m, n ≤ m → (madeCells z'.cells (m * sz)).toList.take (n * sz) = (List.replicate n z'.cells.toList).flatten := by
          intro n m hnm
          apply List.ext_getElem?
          intro j
          rw [List.getElem?_take]
          have hfl : ((List.replicate n z'.cells.toList).flatten).length = n * sz := by simp [hzs]
          split
          · rename_i hj
            have hjm : j < m * sz := Nat.lt_of_lt_of_le hj (Nat.mul_le_mul_right _ hnm)
            have hpos : 0 < sz := by omega
            have e1 : (madeCells z'.cells (m * sz)).toList[j]? = some (z'.cells[j % sz]!) := by
              simp [madeCells, hjm, hzs]
            rw [e1]
            have : ∀ n j, j < n * sz → ((List.replicate n z'.cells.toList).flatten)[j]? = some (z'.cells[j % sz]!) := by
              intro n
              induction n with
              | zero => intro j hj; simp at hj
              | succ n ih =>
                intro j hj
                simp only [List.replicate_succ, List.flatten_cons]
                rw [List.getElem?_append]
                have hll : z'.cells.toList.length = sz := by simpa using hzs
                rw [hll]
                by_cases hjs : j < sz
                · rw [if_pos hjs, Nat.mod_eq_of_lt hjs]
                  have : j < z'.cells.size := by omega
                  simp [this]
                · rw [if_neg hjs, ih (j - sz) (by rw [Nat.add_mul] at hj; omega)]
                  congr 2
                  rw [Nat.mod_eq_sub_mod (by omega : sz ≤ j)]
            rw [this n j hj]
          · rename_i hj
            rw [List.getElem?_eq_none (by omega)]
        have hflen : ((List.replicate ln.toNat z'.cells.toList).flatten).length = ln.toNat * sz := by simp [hzs]
        obtain ⟨S', hS'⟩ := h.newOwn h2 (madeCells z'.cells (cn.toNat * i.size)) e (rows := List.replicate ln.toNat z) (us := (List.replicate ln.toNat z'.cells.toList).flatten) (k := sz) (cap := cn.toNat)
          (by intro r hr; rw [List.eq_of_mem_replicate hr]; exact hzl) (hflat _) (by
            intro u hu
            simp only [List.mem_flatten, List.mem_replicate] at hu
            obtain ⟨l, ⟨_, rfl⟩, hu⟩ := hu
            exact List.all_eq_true.1 hone u hu) (by rw [hflen, hsize]; exact hmade _ _ (by omega)) (by rw [size_madeCells, hsize]) (by simp; omega) (by unfold maxLen; omega)
        refine hK S' gb _ _ _ ?_ w4
        simpa using hS'
    · cases hw
  case sls d x lo hi =>
    simp only [wp1] at hw
    simp only [mt1, Bool.and_eq_true, slotOk_iff] at hm
    obtain ⟨⟨h1, h2⟩, hm⟩ := hm
    split at hm <;> (try cases hm)
    rename_i t x' lo' hi' hop
    simp only [Bool.and_eq_true] at hm
    obtain ⟨⟨⟨hu, hx⟩, hlo⟩, hhi⟩ := hm
    have hu' : P.underlying t = some .string := by split at hu <;> simp_all
    have hx' := mX_sound h hx
    split at hw
    · rename_i s hs
      split at hw
      · rename_i l hh hl2 hh2
        obtain ⟨w1, w2, w3, w4⟩ := hw
        rw [hs] at hx'
        simp only [PR] at hx'
        have b1 := bnd_sound h hlo hl2
        have b2 := bnd_sound h hhi hh2
        have e2 : (ByteArray.mk s.toArray).size = s.length := rfl
        refine wp_value (u := .string ⟨((s.take hh.toNat).drop l.toNat).toArray⟩) (w' := w) ?_ ?_
        · unfold execOp
          simp only [hop, hx', Instr.sliceAt, Instr.slice, Sem.run_bind, run_underlying hu', Result.andThen_ok, Option.map_none, Option.isSome_none, Bool.false_eq_true, if_false, Instr.sliceBounds, e2]
          rcases b1 with ⟨rfl, rfl⟩ | ⟨yl, kl, rfl, hyl⟩ <;> rcases b2 with ⟨rfl, rfl⟩ | ⟨yh, kh, rfl, hyh⟩
          · simp [extract_mk]
          · simp [hyh, Instr.sliceBound, asIntOf, w3, show 0 ≤ hh by omega, extract_mk]
          · simp [hyl, Instr.sliceBound, asIntOf, w1, w2, extract_mk]
          · have : l ≤ (hh.toNat : Int) := by omega
            simp [hyl, hyh, Instr.sliceBound, asIntOf, w1, w3, show 0 ≤ hh by omega, this, extract_mk]
            intro hc; omega
        · rw [h1]
          exact hK _ _ _ _ _ (h.put h2 (by simp [PR])) w4
      · cases hw
    · cases hw
  case slc d sz x lo hi =>
    simp only [wp1] at hw
    simp only [mt1, Bool.and_eq_true, slotOk_iff] at hm
    obtain ⟨⟨h1, h2⟩, hm⟩ := hm
    split at hm <;> (try cases hm)
    rename_i t x' lo' hi' hop
    simp only [Bool.and_eq_true] at hm
    obtain ⟨⟨⟨hu, hx⟩, hlo⟩, hhi⟩ := hm
    obtain ⟨e, hu', hsz⟩ : ∃ e, P.underlying t = some (.slice e) ∧ sz? P e = some sz := by
      split at hu <;> simp_all
    have hx' := mX_sound h hx
    split at hw
    · rename_i rows hs
      split at hw
      · rename_i l hh hl2 hh2
        obtain ⟨w1, w2, w3, wr, w4⟩ := hw
        rw [hs] at hx'
        simp only [PR] at hx'
        have b1 := bnd_sound h hlo hl2
        have b2 := bnd_sound h hhi hh2
        have run : ∀ (ad : Option Addr) (cap : Nat), rows.length ≤ cap → a.eval x' = .slice ad rows.length cap → (execOp a.eval o).run P w = .ok (.value (.slice (if cap = l.toNat then ad else ad.map (·.add (l.toNat * sz))) (hh.toNat - l.toNat) (cap - l.toNat))) w := by
          intro ad cap hcap hev
          unfold execOp
          simp only [hop, hev, Instr.sliceAt, Instr.slice, Sem.run_bind, run_underlying hu', Result.andThen_ok, Option.map_none, Instr.sliceBounds, run_sizeOf hsz]
          rcases b1 with ⟨rfl, rfl⟩ | ⟨yl, kl, rfl, hyl⟩ <;> rcases b2 with ⟨rfl, rfl⟩ | ⟨yh, kh, rfl, hyh⟩
          · simp [run_sizeOf hsz]
          · simp [hyh, Instr.sliceBound, asIntOf, show hh ≤ (cap : Int) by omega, show 0 ≤ hh by omega, run_sizeOf hsz]
          · simp [hyl, Instr.sliceBound, asIntOf, w1, w2, run_sizeOf hsz]
          · have : l ≤ (hh.toNat : Int) := by omega
            simp [hyl, hyh, Instr.sliceBound, asIntOf, w1, show hh ≤ (cap : Int) by omega, show 0 ≤ hh by omega, this, run_sizeOf hsz]
            intro hc; omega
        have hlen : ((rows.take hh.toNat).drop l.toNat).length = hh.toNat - l.toNat := list_slice_len _ _ _ (by omega) (by omega)
        rcases hx' with ⟨hx', hr⟩ | ⟨ad, cap, k, hx', hcap, hr⟩
        · subst hr
          simp only [List.length_nil] at w3
          have hl0 : l.toNat = 0 := by omega
          have hh0 : hh.toNat = 0 := by omega
          refine wp_value (run none 0 (by simp) hx') ?_
          rw [h1]
          refine hK _ _ _ _ _ (h.put h2 ?_) w4
          simp only [PR]
          exact .inl ⟨by simp [hl0, hh0], by simp⟩
        · refine wp_value (run (some ad) cap hcap hx') ?_
          rw [h1]
          refine hK _ _ _ _ _ (h.put h2 ?_) w4
          simp only [PR]
          right
          by_cases hcl : cap = l.toNat
          · refine ⟨ad, cap - l.toNat, k, by rw [if_pos hcl, hlen], by rw [hlen]; omega, .inl ?_⟩
            apply List.eq_nil_of_length_eq_zero
            rw [hlen]; omega
          · refine ⟨ad.add (l.toNat * sz), cap - l.toNat, k, by rw [if_neg hcl, hlen]; rfl, by rw [hlen]; omega, ?_⟩
            by_cases hne : (rows.take hh.toNat).drop l.toNat = []
            · exact .inl hne
            · right
              rcases hr with hr | ⟨hsp, hr⟩
              · subst hr; simp at hne
              · obtain ⟨bk, of, sp⟩ := ad
                simp only at hsp hr
                subst hsp
                rw [Addr.add_lit]
                refine ⟨rfl, ?_⟩
                have hk : k = sz := by
                  cases rows with
                  | nil => simp at hne
                  | cons r rs =>
                    simp only [PRrows] at hr
                    rw [← hr.1]; exact wr r (by simp)
                subst hk
                exact (hr.take _).drop _
      · cases hw
    · cases hw
  case cl d f xs =>
    simp only [wp1] at hw
    simp only [mt1, Bool.and_eq_true, slotOk_iff] at hm
    obtain ⟨⟨h1, h2⟩, hm⟩ := hm
    split at hm <;> (try cases hm)
    rename_i f' as ts hop
    simp only [Bool.and_eq_true, beq_iff_eq] at hm
    obtain ⟨rfl, hxs⟩ := hm
    split at hw
    · rename_i as' has
      obtain ⟨r, hspec, hk⟩ := hw
      have hl := mXs_sound h hxs
      have hl0 := shutL_PR _ _ _ has hl
      have hd := hspec S w _ h.agree hl0
      have harr : (List.map a.eval as.toList).toArray = as.map a.eval := by
        apply Array.ext'; simp
      rw [harr] at hd
      have hrun : (execOp a.eval o).run P w = (callFunc f (as.map a.eval)).run P w := by
        unfold execOp
        simp [hop, resolve, Act.eval, Deferred.ofValue, invoke]
      have next : ∀ u w', (∃ S', Below w.heap.size w w' ∧ (∀ g o, g < w.heap.size → S' g o = S g o) ∧ S.le S' ∧ (∀ g o v, S' g o = some v → w'.cell? ⟨g, o, none⟩ = some v) ∧ PR S' gb0 r u) → K' (a.put o.dst u) w' := by
        rintro u w' ⟨S', p1, p2, p3, p4, p5⟩
        rw [h1]
        exact hK _ _ _ _ _ ((h.step p1 p2 p3 p4).put h2 (gb0to p5)) hk
      unfold Oper.wp
      rw [hrun]
      unfold Does at hd
      split at hd
      · rename_i u w' he
        rw [he]
        exact next u w' hd
      · rename_i f' as' w' he
        rw [he]
        simp only [Oper.upon_enter]
        refine hd.mono ?_
        rintro e w'' ⟨u, rfl, hu⟩
        exact next u w'' hu
      · exact hd.elim
    · cases hw
  case gd => simp [mt1] at hm
  case no => simp [wp1, ev] at hw
  all_goals
    simp only [wp1] at hw
    split at hw
    · rename_i d' v' he
      exact pure _ _ he hw
    · cases hw
end Go.Ai
