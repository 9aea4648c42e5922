/- YtbepaingfmlpeaaAiEv3: part of the abstract interpreter library (values, rules, soundness against the model) or of what a function of the seat computes. Conditions: as each theorem says. -/
import Derived.Test.YtbepaingfmlpeaaAiEv2
set_option linter.unusedSimpArgs false
set_option linter.unusedVariables false
namespace Go.Ai
open Go.RowKit
variable {P : Program} {S0 : Mem} {w0 : World} {N : Nat} {S : Mem} {gb : Gb} {σ : St} {a : Act} {w : World}

theorem fieldsAt_struct {t f : Nat} {p : Nat × Nat} (h : (fieldsAt P t)[f]? = some p) : ∃ fs fd, P.underlying t = some (.struct fs) ∧ fs[f]? = some fd ∧ p = (fd.offset, (sz? P fd.type).getD 0) := by
  unfold fieldsAt at h
  split at h
  · rename_i fs hu
    rw [List.getElem?_map] at h
    simp only [Option.map_eq_some_iff, Array.getElem?_toList] at h
    obtain ⟨fd, h1, h2⟩ := h
    exact ⟨fs, fd, hu, h1, h2.symm⟩
  · simp at h

/-- Pure operations and those that only read. -/
theorem ev_sound (h : Rel S0 w0 N S gb σ a w) {o : Oper} {ao : AOp} (hm : mt1 P N o ao = true) {d : Nat} {v : AV} (he : ev σ ao = some (d, v)) :
    o.dst = some d ∧ d < N ∧ ∃ u, (execOp a.eval o).run P w = .ok (.value u) w ∧ PR S gb v u := by
  cases ao <;> simp only [ev, reduceCtorEq] at he
  case mv d' x =>
    simp only [Option.some.injEq, Prod.mk.injEq] at he
    obtain ⟨rfl, rfl⟩ := he
    simp only [mt1, Bool.and_eq_true, slotOk_iff] at hm
    obtain ⟨⟨h1, h2⟩, hm⟩ := hm
    refine ⟨h1, h2, ?_⟩
    split at hm <;> (try cases hm)
    all_goals
      rename_i y hop
      exact ⟨a.eval y, by unfold execOp; simp only [hop]; rfl, mX_sound h hm⟩
  case pk d' c x y =>
    simp only [mt1, Bool.and_eq_true, slotOk_iff] at hm
    obtain ⟨⟨h1, h2⟩, hm⟩ := hm
    split at hm <;> (try cases hm)
    rename_i c' x' y' hop
    simp only [Bool.and_eq_true] at hm
    have hc := mX_sound h hm.1.1
    have hx := mX_sound h hm.1.2
    have hy := mX_sound h hm.2
    split at he
    · rename_i t ht
      rw [ht] at hc
      simp only [PR] at hc
      simp only [Option.some.injEq, Prod.mk.injEq] at he
      obtain ⟨rfl, rfl⟩ := he
      refine ⟨h1, h2, if t = true then a.eval x' else a.eval y', by unfold execOp; simp only [hop]; simp [hc, asBool], ?_⟩
      cases t
      · exact hy
      · exact hx
    · cases he
  case bi d' op x y =>
    simp only [mt1, Bool.and_eq_true, slotOk_iff] at hm
    obtain ⟨⟨h1, h2⟩, hm⟩ := hm
    split at hm <;> (try cases hm)
    rename_i op' t x' y' ty hop
    simp only [Bool.and_eq_true, beq_iff_eq] at hm
    have hx := mX_sound h hm.1.2
    have hy := mX_sound h hm.2
    obtain rfl := hm.1.1
    split at he
    · rename_i r hr
      simp only [Option.some.injEq, Prod.mk.injEq] at he
      obtain ⟨rfl, rfl⟩ := he
      obtain ⟨z, hz, hp⟩ := bin_sound (P := P) (w := w) (t := t) (p := x') (q := y') hr hx hy
      refine ⟨h1, h2, z, ?_, hp⟩
      unfold execOp
      simp only [hop, Sem.run_bind] at hz ⊢
      rw [hz]; rfl
    · cases he
  case bb d' neg x y =>
    simp only [mt1, Bool.and_eq_true, slotOk_iff] at hm
    obtain ⟨⟨h1, h2⟩, hm⟩ := hm
    split at hm <;> (try cases hm)
    rename_i op' t x' y' ty hop
    simp only [Bool.and_eq_true, beq_iff_eq] at hm
    have hx := mX_sound h hm.1.2
    have hy := mX_sound h hm.2
    obtain ⟨⟨⟨hop', hu⟩, _⟩, _⟩ := hm
    have hu' : P.underlying t = some .bool := by split at hu <;> simp_all
    split at he
    · rename_i b c hb hc
      simp only [Option.some.injEq, Prod.mk.injEq] at he
      obtain ⟨rfl, rfl⟩ := he
      rw [hb] at hx; rw [hc] at hy
      simp only [PR] at hx hy
      refine ⟨h1, h2, .bool (if neg = true then b != c else b == c), ?_, by simp [PR]⟩
      unfold execOp
      simp only [hop, hx, hy, eqGuard_at_bool]
      cases neg
      · simp [hop', binOp, Op.equal, Op.maxDepth, run_equalIn_bool' (h := hu')]
      · simp [hop', binOp, Op.equal, Op.maxDepth, run_equalIn_bool' (h := hu'), bne]
    · cases he
  case ea d' neg ks x y =>
    simp only [mt1, Bool.and_eq_true, slotOk_iff] at hm
    obtain ⟨⟨h1, h2⟩, hm⟩ := hm
    split at hm <;> (try cases hm)
    rename_i op' t x' y' ty hop
    simp only [Bool.and_eq_true, beq_iff_eq, Bool.not_eq_true'] at hm
    have hx := mX_sound h hm.1.2
    have hy := mX_sound h hm.2
    obtain ⟨⟨⟨⟨⟨hop', hk⟩, ha⟩, hg⟩, _⟩, _⟩ := hm
    split at he
    · rename_i xs ys hb hc
      split at he
      · rename_i b hcs
        simp only [Option.some.injEq, Prod.mk.injEq] at he
        obtain ⟨rfl, rfl⟩ := he
        rw [hb] at hx; rw [hc] at hy
        simp only [PR] at hx hy
        obtain ⟨us, hx1, _, hx2⟩ := hx
        obtain ⟨vs, hy1, _, hy2⟩ := hy
        obtain ⟨g1, _⟩ := eqK_sound (P := P) 4 t ks 9996 hk w hcs hx2 hy2
        simp only [ofCells, ha, if_true, Array.toArray_toList] at g1
        refine ⟨h1, h2, .bool (if neg = true then !b else b), ?_, by simp [PR]⟩
        unfold execOp
        simp only [hop, hx1, hy1, Sem.run_bind, run_eqGuard_agg (hm := hg), Result.andThen_ok]
        cases neg
        · simp only [hop', Bool.false_eq_true, if_false, run_eql_struct, g1, Result.andThen_ok, Sem.run_pure]
        · simp only [hop', if_true, run_neq_struct, g1, Result.andThen_ok, Sem.run_pure]
      · cases he
    · cases he
  case un d' op x =>
    simp only [mt1, Bool.and_eq_true, slotOk_iff] at hm
    obtain ⟨⟨h1, h2⟩, hm⟩ := hm
    split at hm <;> (try cases hm)
    rename_i op' t x' hop
    simp only [Bool.and_eq_true, beq_iff_eq] at hm
    have hx := mX_sound h hm.2
    obtain rfl := hm.1
    split at he
    · rename_i b hb
      simp only [Option.some.injEq, Prod.mk.injEq] at he
      obtain ⟨rfl, rfl⟩ := he
      rw [hb] at hx
      simp only [PR] at hx
      exact ⟨h1, h2, .bool (!b), by unfold execOp; simp [hop, hx, Op.unary], by simp [PR]⟩
    · rename_i k n hb
      simp only [Option.some.injEq, Prod.mk.injEq] at he
      obtain ⟨rfl, rfl⟩ := he
      rw [hb] at hx
      simp only [PR] at hx
      exact ⟨h1, h2, .int k (k.wrap (0 - n)), by unfold execOp; simp [hop, hx, Op.unary, Op.intArith], by simp [PR]⟩
    · cases he
  case cv d' k x =>
    simp only [mt1, Bool.and_eq_true, slotOk_iff] at hm
    obtain ⟨⟨h1, h2⟩, hm⟩ := hm
    split at hm <;> (try cases hm)
    rename_i s t x' hop
    simp only [Bool.and_eq_true] at hm
    have hx := mX_sound h hm.2
    obtain ⟨⟨hs, ht⟩, _⟩ := hm
    have ht' : P.underlying t = some (.int k) := by split at ht <;> simp_all
    split at he
    · rename_i k0 n hb
      simp only [Option.some.injEq, Prod.mk.injEq] at he
      obtain ⟨rfl, rfl⟩ := he
      rw [hb] at hx
      simp only [PR] at hx
      obtain ⟨ds, hds⟩ := Option.isSome_iff_exists.1 hs
      exact ⟨h1, h2, .int k (k.wrap n), by unfold execOp; simp [hop, hx, convert, run_underlying hds, run_underlying ht', Conv.intToInt], by simp [PR]⟩
    · cases he
  case ln d' x =>
    simp only [mt1, Bool.and_eq_true, slotOk_iff] at hm
    obtain ⟨⟨h1, h2⟩, hm⟩ := hm
    split at hm <;> (try cases hm)
    rename_i as ts hop
    split at hm <;> (try cases hm)
    rename_i x' t has hts
    simp only [Bool.and_eq_true] at hm
    have hx := mX_sound h hm.2
    obtain ⟨e, ht'⟩ : ∃ e, P.underlying t = some (.slice e) := by
      have := hm.1
      split at this <;> simp_all
    have has' : as = #[x'] := by cases as; simp_all
    have hts' : ts = #[t] := by cases ts; simp_all
    subst has'; subst hts'
    split at he <;> simp only [Option.some.injEq, Prod.mk.injEq, reduceCtorEq] at he <;> obtain ⟨rfl, rfl⟩ := he
    · rename_i rows hb
      rw [hb] at hx
      simp only [PR] at hx
      refine ⟨h1, h2, .int .i64 rows.length, ?_, by simp [PR]⟩
      unfold execOp
      rcases hx with ⟨hx, hr⟩ | ⟨_, cap, k, hx, _⟩
      · simp [hop, resolve, invoke, builtin, hx, Builtin.len_, run_underlying ht', goInt, hr]
      · simp [hop, resolve, invoke, builtin, hx, Builtin.len_, run_underlying ht', goInt]
    · rename_i hb
      rw [hb] at hx
      simp only [PR] at hx
      exact ⟨h1, h2, .int .i64 0, by unfold execOp; simp [hop, resolve, invoke, builtin, hx, Builtin.len_, run_underlying ht', goInt], by simp [PR]⟩
    · rename_i n _ hb
      rw [hb] at hx
      simp only [PR] at hx
      obtain ⟨g, _, hx⟩ := hx
      exact ⟨h1, h2, .int .i64 n, by unfold execOp; simp [hop, resolve, invoke, builtin, hx, Builtin.len_, run_underlying ht', goInt], by simp [PR]⟩
  case lns d' x =>
    simp only [mt1, Bool.and_eq_true, slotOk_iff] at hm
    obtain ⟨⟨h1, h2⟩, hm⟩ := hm
    split at hm <;> (try cases hm)
    rename_i as ts hop
    split at hm <;> (try cases hm)
    rename_i x' t has hts
    simp only [Bool.and_eq_true] at hm
    have hx := mX_sound h hm.2
    have ht' : P.underlying t = some .string := by
      have := hm.1
      split at this <;> simp_all
    have has' : as = #[x'] := by cases as; simp_all
    have hts' : ts = #[t] := by cases ts; simp_all
    subst has'; subst hts'
    split at he
    · rename_i s hb
      simp only [Option.some.injEq, Prod.mk.injEq] at he
      obtain ⟨rfl, rfl⟩ := he
      rw [hb] at hx
      simp only [PR] at hx
      have e2 : (ByteArray.mk s.toArray).size = s.length := rfl
      exact ⟨h1, h2, .int .i64 s.length, by unfold execOp; simp [hop, resolve, invoke, builtin, hx, Builtin.len_, run_underlying ht', goInt, e2], by simp [PR]⟩
    · cases he
  case fa d' x off =>
    simp only [mt1, Bool.and_eq_true, slotOk_iff] at hm
    obtain ⟨⟨h1, h2⟩, hm⟩ := hm
    split at hm <;> (try cases hm)
    rename_i t x' f hop
    simp only [Bool.and_eq_true] at hm
    have hx := mX_sound h hm.2
    obtain ⟨hf, _⟩ := hm
    split at hf <;> (try cases hf)
    rename_i o' n hfa
    simp only [Bool.and_eq_true, beq_iff_eq, Bool.not_eq_true', beq_eq_false_iff_ne, ne_eq] at hf
    obtain ⟨fs, fd, hu, hfd, hp⟩ := fieldsAt_struct hfa
    simp only [Prod.mk.injEq] at hp
    obtain ⟨rfl, hn⟩ := hp
    obtain ⟨rfl, hn0⟩ := hf
    have hsz : sz? P fd.type = some n := by
      cases hq : sz? P fd.type with
      | none => simp [hq] at hn; exact absurd hn hn0
      | some m => simp [hq] at hn; simp [hn]
    split at he <;> simp only [Option.some.injEq, Prod.mk.injEq, reduceCtorEq] at he <;> obtain ⟨rfl, rfl⟩ := he
    · rename_i b o hb
      rw [hb] at hx
      simp only [PR] at hx
      obtain ⟨g, hg, hx⟩ := hx
      refine ⟨h1, h2, .pointer (some ⟨g, o + fd.offset, none⟩), ?_, by simp only [PR]; exact ⟨g, hg, rfl⟩⟩
      unfold execOp
      simp [hop, hx, Instr.fieldAt, run_underlying hu, hfd, Instr.sureAddr, fieldPlace, run_sizeOf hsz, hn0, Addr.add_lit]
    · rename_i cs hb
      rw [hb] at hx
      simp only [PR] at hx
      obtain ⟨g, o, hx, hc⟩ := hx
      refine ⟨h1, h2, .pointer (some ⟨g, o + fd.offset, none⟩), ?_, by simp only [PR]; exact ⟨g, _, rfl, hc.drop _⟩⟩
      unfold execOp
      simp [hop, hx, Instr.fieldAt, run_underlying hu, hfd, Instr.sureAddr, fieldPlace, run_sizeOf hsz, hn0, Addr.add_lit]
  case ia d' sz x i =>
    simp only [mt1, Bool.and_eq_true, slotOk_iff] at hm
    obtain ⟨⟨h1, h2⟩, hm⟩ := hm
    split at hm <;> (try cases hm)
    rename_i t x' i' hop
    simp only [Bool.and_eq_true] at hm
    have hx := mX_sound h hm.1.2
    have hi := mX_sound h hm.2
    obtain ⟨e, hu, hsz⟩ : ∃ e, P.underlying t = some (.slice e) ∧ sz? P e = some sz := by
      have := hm.1.1
      split at this <;> simp_all
    split at he
    · rename_i rows k n hb hc
      rw [hb] at hx; rw [hc] at hi
      simp only [PR] at hx hi
      split at he
      · rename_i hn
        split at he
        · rename_i row hrow
          split at he
          · rename_i hl
            simp only [Option.some.injEq, Prod.mk.injEq] at he
            obtain ⟨rfl, rfl⟩ := he
            obtain ⟨hlt, _⟩ := List.getElem?_eq_some_iff.1 hrow
            rcases hx with ⟨hx, hr⟩ | ⟨ad, cap, k', hx, _, hr⟩
            · subst hr; simp at hrow
            · rcases hr with hr | ⟨hsp, hr⟩
              · subst hr; simp at hrow
              · obtain ⟨g1, g2⟩ := hr.get hrow
                have hk : k' = sz := by rw [← g1, hl]
                subst hk
                obtain ⟨bk, of, sp⟩ := ad
                simp only at hsp g2
                subst hsp
                refine ⟨h1, h2, .pointer (some ⟨bk, of + n.toNat * k', none⟩), ?_, by simp only [PR]; exact ⟨_, _, rfl, g2⟩⟩
                unfold execOp
                have hb2 : 0 ≤ n ∧ n < (rows.length : Int) := by omega
                simp [hop, hx, hi, Instr.indexAt, asIntOf, run_underlying hu, run_sizeOf hsz, hb2, Addr.add_lit]
          · cases he
        · cases he
      · cases he
    · rename_i b n k kk i0 hb hc
      rw [hb] at hx; rw [hc] at hi
      simp only [PR] at hx hi
      split at he
      · rename_i hn
        simp only [Option.some.injEq, Prod.mk.injEq] at he
        obtain ⟨rfl, rfl⟩ := he
        obtain ⟨g, hg, hx⟩ := hx
        refine ⟨h1, h2, .pointer (some ⟨g, i0.toNat * sz, none⟩), ?_, by simp only [PR]; exact ⟨g, hg, rfl⟩⟩
        unfold execOp
        have hb2 : 0 ≤ i0 ∧ i0 < (n : Int) := ⟨hn.1, hn.2.1⟩
        simp [hop, hx, hi, Instr.indexAt, asIntOf, run_underlying hu, run_sizeOf hsz, hb2, Addr.add_lit]
      · cases he
    · cases he
  case iaa d' sz n x i =>
    simp only [mt1, Bool.and_eq_true, slotOk_iff] at hm
    obtain ⟨⟨h1, h2⟩, hm⟩ := hm
    split at hm <;> (try cases hm)
    rename_i t x' i' hop
    simp only [Bool.and_eq_true] at hm
    have hx := mX_sound h hm.1.2
    have hi := mX_sound h hm.2
    obtain ⟨e, hu, hsz⟩ : ∃ e, P.underlying t = some (.array n e) ∧ sz? P e = some sz := by
      have := hm.1.1
      split at this <;> simp_all
    split at he
    · rename_i b o kk i0 hb hc
      rw [hb] at hx; rw [hc] at hi
      simp only [PR] at hx hi
      split at he
      · rename_i hn
        simp only [Option.some.injEq, Prod.mk.injEq] at he
        obtain ⟨rfl, rfl⟩ := he
        obtain ⟨g, hg, hx⟩ := hx
        refine ⟨h1, h2, .pointer (some ⟨g, o + i0.toNat * sz, none⟩), ?_, by simp only [PR]; exact ⟨g, hg, rfl⟩⟩
        unfold execOp
        simp [hop, hx, hi, Instr.indexAt, asIntOf, run_underlying hu, run_sizeOf hsz, hn, Instr.sureAddr, Addr.add_lit]
      · cases he
    · cases he
  case lds d' x =>
    simp only [mt1, Bool.and_eq_true, slotOk_iff] at hm
    obtain ⟨⟨h1, h2⟩, hm⟩ := hm
    split at hm <;> (try cases hm)
    rename_i t x' hop
    simp only [Bool.and_eq_true] at hm
    have hx := mX_sound h hm.2
    split at he
    · rename_i v' hl
      simp only [Option.some.injEq, Prod.mk.injEq] at he
      obtain ⟨rfl, rfl⟩ := he
      obtain ⟨u, hu, hp⟩ := loadS_sound h hm.1 hl hx
      exact ⟨h1, h2, u, by unfold execOp; simp [hop, hu], hp⟩
    · cases he
  case lda d' n x =>
    simp only [mt1, Bool.and_eq_true, slotOk_iff] at hm
    obtain ⟨⟨h1, h2⟩, hm⟩ := hm
    split at hm <;> (try cases hm)
    rename_i t x' hop
    simp only [Bool.and_eq_true, beq_iff_eq] at hm
    have hx := mX_sound h hm.2
    split at he
    · rename_i v' hl
      simp only [Option.some.injEq, Prod.mk.injEq] at he
      obtain ⟨rfl, rfl⟩ := he
      obtain ⟨u, hu, hp⟩ := loadN_sound h hm.1.1 hm.1.2 hl hx
      exact ⟨h1, h2, u, by unfold execOp; simp [hop, hu], hp⟩
    · cases he
  case bd d' z ps =>
    simp only [mt1, Bool.and_eq_true, slotOk_iff] at hm
    obtain ⟨⟨h1, h2⟩, hm⟩ := hm
    split at hm <;> (try cases hm)
    rename_i t ps' hop
    simp only [Bool.and_eq_true] at hm
    obtain ⟨⟨⟨_, hz⟩, hfs⟩, hb⟩ := hm
    split at hz <;> (try cases hz)
    rename_i inf hinf
    split at hz <;> (try cases hz)
    rename_i z' hz'
    simp only [Bool.and_eq_true] at hz
    split at hfs <;> (try cases hfs)
    rename_i fs hu
    split at he
    · rename_i cs hcs
      simp only [Option.some.injEq, Prod.mk.injEq] at he
      obtain ⟨rfl, rfl⟩ := he
      obtain ⟨us, g1, g2, g3⟩ := buildA_sound h (fieldsAt P t) hb hcs (zs := z') (cstL_sound _ _ hz.2) (fun u hu => List.all_eq_true.1 hz.1 u hu)
      refine ⟨h1, h2, .agg us, ?_, by simp only [PR]; exact ⟨us, rfl, g3, g2⟩⟩
      have hpl : ∀ (l : List Field) (acc : Array (Nat × Nat)), (l.all fun f => (sz? P f.type).isSome) = true →
          (l.foldlM (fun (bs : Array (Nat × Nat)) (f : Field) => (bs.push <$> (do pure (f.offset, ← sizeOf f.type) : Sem (Nat × Nat)) : Sem (Array (Nat × Nat)))) acc).run P w = .ok (acc ++ (l.map fun f => (f.offset, (sz? P f.type).getD 0)).toArray) w := by
        intro l
        induction l with
        | nil => intro acc _; simp
        | cons f r ih =>
          intro acc hall
          simp only [List.all_cons, Bool.and_eq_true] at hall
          obtain ⟨n, hn⟩ := Option.isSome_iff_exists.1 hall.1
          simp only [List.foldlM_cons, Sem.run_bind, Sem.run_map, run_sizeOf hn, Result.andThen_ok, Sem.run_pure]
          rw [ih _ hall.2]
          simp [hn]
      have hmap : (fs.mapM fun (f : Field) => (do pure (f.offset, ← sizeOf f.type) : Sem (Nat × Nat))).run P w = .ok (fieldsAt P t).toArray w := by
        rw [Array.mapM_eq_foldlM, ← Array.foldlM_toList]
        rw [hpl fs.toList #[] hfs]
        simp [fieldsAt, hu]
      have hfill : Instr.fill (fun x => (fieldsAt P t).toArray[x]?) z' (Array.map (fun x => (x.1, a.eval x.2)) ps').toList = some us := by
        simpa using g1
      unfold execOp
      simp only [hop, Instr.build, Sem.run_bind, zeroValue, typeInfo, run_program, Result.andThen_ok, hinf, Sem.run_pure, hz', Value.cells, run_underlying hu]
      rw [hmap]
      simp only [Result.andThen_ok]
      simp only [hfill, Sem.run_pure, Result.andThen_ok]
    · cases he
  case fls d' off x =>
    simp only [mt1, Bool.and_eq_true, slotOk_iff] at hm
    obtain ⟨⟨h1, h2⟩, hm⟩ := hm
    split at hm <;> (try cases hm)
    rename_i t x' f hop
    simp only [Bool.and_eq_true] at hm
    have hx := mX_sound h hm.2
    obtain ⟨hf, _⟩ := hm
    split at hf <;> (try cases hf)
    rename_i fs hu
    split at hf <;> (try cases hf)
    rename_i fd hfd
    simp only [Bool.and_eq_true, beq_iff_eq] at hf
    obtain ⟨hsc, rfl⟩ := hf
    split at he
    · rename_i cs hb
      rw [hb] at hx
      simp only [PR] at hx
      obtain ⟨us, hx, h0, hl⟩ := hx
      split at he
      · rename_i v' hv
        simp only [Option.some.injEq, Prod.mk.injEq] at he
        obtain ⟨rfl, rfl⟩ := he
        obtain ⟨u, hu1, hp⟩ := hl.get hv
        exact ⟨h1, h2, u, by unfold execOp; simp [hop, hx, Instr.field, run_underlying hu, hfd, asAgg, run_part_s hsc (us := us) (u := u) (by simpa using hu1)], hp⟩
      · cases he
    · cases he
  case fla d' off n x =>
    simp only [mt1, Bool.and_eq_true, slotOk_iff] at hm
    obtain ⟨⟨h1, h2⟩, hm⟩ := hm
    split at hm <;> (try cases hm)
    rename_i t x' f hop
    simp only [Bool.and_eq_true] at hm
    have hx := mX_sound h hm.2
    obtain ⟨hf, _⟩ := hm
    split at hf <;> (try cases hf)
    rename_i fs hu
    split at hf <;> (try cases hf)
    rename_i fd hfd
    simp only [Bool.and_eq_true, beq_iff_eq] at hf
    obtain ⟨⟨hag, hsz⟩, rfl⟩ := hf
    split at he
    · rename_i cs hb
      rw [hb] at hx
      simp only [PR] at hx
      obtain ⟨us, hx, h0, hl⟩ := hx
      split at he
      · rename_i hle
        simp only [Option.some.injEq, Prod.mk.injEq] at he
        obtain ⟨rfl, rfl⟩ := he
        refine ⟨h1, h2, .agg (us.extract fd.offset (fd.offset + n)), by unfold execOp; simp [hop, hx, Instr.field, run_underlying hu, hfd, asAgg, run_part_a hag hsz], ?_⟩
        simp only [PR]
        have e : (us.extract fd.offset (fd.offset + n)).toList = (us.toList.drop fd.offset).take n := by simp [List.extract_eq_take_drop]
        refine ⟨_, rfl, ?_, ?_⟩
        · rw [e]; exact fun u hu => h0 u (List.mem_of_mem_drop (List.mem_of_mem_take hu))
        · rw [e]; exact (hl.drop _).take _
      · cases he
    · cases he
  case ixs d' x i =>
    simp only [mt1, Bool.and_eq_true, slotOk_iff] at hm
    obtain ⟨⟨h1, h2⟩, hm⟩ := hm
    split at hm <;> (try cases hm)
    rename_i t x' i' hop
    simp only [Bool.and_eq_true] at hm
    have hx := mX_sound h hm.1.2
    have hi := mX_sound h hm.2
    have hu : P.underlying t = some .string := by
      have := hm.1.1
      split at this <;> simp_all
    split at he
    · rename_i s k n hb hc
      rw [hb] at hx; rw [hc] at hi
      simp only [PR] at hx hi
      split at he
      · rename_i hn
        split at he
        · rename_i b hsb
          simp only [Option.some.injEq, Prod.mk.injEq] at he
          obtain ⟨rfl, rfl⟩ := he
          have e1 : (ByteArray.mk s.toArray)[n.toNat]? = some b := by
            obtain ⟨hlt, hb2⟩ := List.getElem?_eq_some_iff.1 hsb
            have e2 : n.toNat < (ByteArray.mk s.toArray).size := hlt
            exact (getElem?_pos (ByteArray.mk s.toArray) n.toNat e2).trans (by rw [← hb2]; rfl)
          exact ⟨h1, h2, .int .u8 b.toNat, by unfold execOp; simp [hop, hx, hi, Instr.index, asIntOf, run_underlying hu, hn, e1], by simp [PR]⟩
        · cases he
      · cases he
    · cases he
  case ex d' x i =>
    simp only [mt1, Bool.and_eq_true, slotOk_iff] at hm
    obtain ⟨⟨h1, h2⟩, hm⟩ := hm
    split at hm <;> (try cases hm)
    rename_i x' i' hop
    simp only [Bool.and_eq_true, beq_iff_eq] at hm
    have hx := mX_sound h hm.2
    obtain rfl := hm.1
    split at he
    · rename_i vs hb
      rw [hb] at hx
      simp only [PR] at hx
      obtain ⟨us, hx, hl⟩ := hx
      split at he
      · rename_i v' hv
        simp only [Option.some.injEq, Prod.mk.injEq] at he
        obtain ⟨rfl, rfl⟩ := he
        obtain ⟨u, hu1, hp⟩ := hl.get hv
        simp only [Array.getElem?_toList] at hu1
        exact ⟨h1, h2, u, by unfold execOp; simp [hop, hx, Instr.extract, hu1], hp⟩
      · cases he
    · cases he
  case mn d' x y =>
    simp only [mt1, Bool.and_eq_true, slotOk_iff] at hm
    obtain ⟨⟨h1, h2⟩, hm⟩ := hm
    split at hm <;> (try cases hm)
    rename_i as ts hop
    split at hm <;> (try cases hm)
    rename_i x' y' has
    simp only [Bool.and_eq_true] at hm
    have hx := mX_sound h hm.1
    have hy := mX_sound h hm.2
    have has' : as = #[x', y'] := by cases as; simp_all
    subst has'
    split at he
    · rename_i k n k' n' hb hc
      simp only [Option.some.injEq, Prod.mk.injEq] at he
      obtain ⟨rfl, rfl⟩ := he
      rw [hb] at hx; rw [hc] at hy
      simp only [PR] at hx hy
      exact ⟨h1, h2, _, by unfold execOp; simp [hop, resolve, invoke, builtin, hx, hy, Builtin.min_, Builtin.min2]; rfl, by simp [PR]⟩
    · cases he
  case mx d' x y =>
    simp only [mt1, Bool.and_eq_true, slotOk_iff] at hm
    obtain ⟨⟨h1, h2⟩, hm⟩ := hm
    split at hm <;> (try cases hm)
    rename_i as ts hop
    split at hm <;> (try cases hm)
    rename_i x' y' has
    simp only [Bool.and_eq_true] at hm
    have hx := mX_sound h hm.1
    have hy := mX_sound h hm.2
    have has' : as = #[x', y'] := by cases as; simp_all
    subst has'
    split at he
    · rename_i k n k' n' hb hc
      simp only [Option.some.injEq, Prod.mk.injEq] at he
      obtain ⟨rfl, rfl⟩ := he
      rw [hb] at hx; rw [hc] at hy
      simp only [PR] at hx hy
      exact ⟨h1, h2, _, by unfold execOp; simp [hop, resolve, invoke, builtin, hx, hy, Builtin.max_, Builtin.max2]; rfl, by simp [PR]⟩
    · cases he
  case nc d' x =>
    simp only [mt1, Bool.and_eq_true, slotOk_iff] at hm
    obtain ⟨⟨h1, h2⟩, hm⟩ := hm
    split at hm <;> (try cases hm)
    rename_i x' hop
    have hx := mX_sound h hm
    split at he
    · rename_i b o hb
      simp only [Option.some.injEq, Prod.mk.injEq] at he
      obtain ⟨rfl, rfl⟩ := he
      rw [hb] at hx
      have hx' := hx
      simp only [PR] at hx
      obtain ⟨g, hg, hx⟩ := hx
      exact ⟨h1, h2, a.eval x', by unfold execOp; simp [hop, hx], hx'⟩
    · rename_i cs hb
      simp only [Option.some.injEq, Prod.mk.injEq] at he
      obtain ⟨rfl, rfl⟩ := he
      rw [hb] at hx
      have hx' := hx
      simp only [PR] at hx
      obtain ⟨g, o, hx, _⟩ := hx
      exact ⟨h1, h2, a.eval x', by unfold execOp; simp [hop, hx], hx'⟩
    · cases he
end Go.Ai
