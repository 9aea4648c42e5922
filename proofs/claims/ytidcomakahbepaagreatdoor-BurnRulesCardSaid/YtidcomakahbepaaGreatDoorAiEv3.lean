/- AiEv3: a part of the proof: the rules, or what functions compute. Conditions: as each theorem says. -/
import Derived.Test.YtidcomakahbepaaGreatDoorAiEv2
set_option linter.unusedSimpArgs false
set_option linter.unusedVariables false
namespace Go.Ai
open Go.RowKit
variable {P : Program} {F : Fr} {S : Mem} {gb : Gb} {σ : St} {a : Act} {w : World}

theorem fieldsAt_struct {t f : Nat} {p : Nat × Nat} (h : (fieldsAt P t)[f]? = some p) : ∃ fs fd, P.underlying t = some (.struct fs) ∧ fs[f]? = some fd ∧ p = (fd.offset, (sz? P fd.type).getD 0) := by
 unfold fieldsAt at h
 split at h
 ·rename_i fs hu
  rw [List.getElem?_map] at h
  simp only [Option.map_eq_some_iff, Array.getElem?_toList] at h
  obtain ⟨fd, h1, h2⟩ := h
  exact ⟨fs, fd, hu, h1, h2.symm⟩
 ·simp at h

theorem b2s_shape {x : AV} {v : Value} {bx : List (Id × List AV)} {s : List UInt8} (hx : PR S gb x v) (hb : bytesA bx x = some s) : v = .slice none 0 0 ∨ ∃ ad n c, v = .slice (some ad) n c := by
 unfold bytesA at hb
 split at hb
 ·simp only [PR] at hx; exact .inl hx
 ·simp only [PR] at hx
  rcases hx with ⟨hx, _⟩ | ⟨ad, c, k, hx, _⟩
  ·exact .inl hx
  ·exact .inr ⟨_, _, _, hx⟩
 ·simp only [PR] at hx
  obtain ⟨g, z, cap, _, _, hx, _⟩ := hx
  exact .inr ⟨_, _, _, hx⟩
 ·cases hb
theorem byteCells_ints : ∀ {cs : List AV} {s : List UInt8} {us : List Value}, byteCells cs = some s → PRlist S gb cs us → ∃ ns : List Int, us = ns.map (Value.int .u8) ∧ s = ns.map fun n => UInt8.ofNat n.toNat
 | [], s, us, h, hp => by
  simp [byteCells] at h; subst h
  simp [PRlist] at hp; subst hp
  exact ⟨[], rfl, rfl⟩
 | c :: r, s, us, h, hp => by
  unfold byteCells at h
  split at h
  ·rename_i h0; cases h0
  ·rename_i n r' heq
   cases heq
   split at h
   ·rename_i s' hs'
    simp only [Option.some.injEq] at h; subst h
    simp only [PRlist, PR] at hp
    obtain ⟨u, us', rfl, rfl, hp'⟩ := hp
    obtain ⟨ns, rfl, rfl⟩ := byteCells_ints hs' hp'
    exact ⟨n :: ns, rfl, rfl⟩
   ·cases h
  ·cases h
theorem fill_mono {p q : Nat → Option (Nat × Nat)} (hpq : ∀ i x, p i = some x → q i = some x) : ∀ {l : List (Nat × Value)} {z r : Array Value}, Instr.fill p z l = some r → Instr.fill q z l = some r
 | [], z, r, h => by simpa [Instr.fill] using h
 | (i, v) :: l, z, r, h => by
  simp only [Instr.fill] at h ⊢
  cases hp : p i with
  | none => rw [hp] at h; cases h
  | some x =>
   rw [hp] at h
   rw [hpq i x hp]
   simp only at h ⊢
   split at h
   ·cases h
   ·rename_i hc
    rw [if_neg hc]
    exact fill_mono hpq h
theorem rowBytes_cells : ∀ {rows : List (List AV)} {s : List UInt8}, rowBytes rows = some s → byteCells rows.flatten = some s ∧ ∀ r ∈ rows, r.length = 1
 | [], s, h => by simp [rowBytes] at h; subst h; simp [byteCells]
 | r :: rs, s, h => by
  unfold rowBytes at h
  split at h
  ·rename_i h0; cases h0
  ·rename_i n r' heq
   cases heq
   split at h
   ·rename_i s' hs'
    simp only [Option.some.injEq] at h; subst h
    obtain ⟨g1, g2⟩ := rowBytes_cells hs'
    refine ⟨by simp [byteCells, g1], ?_⟩
    intro x hx
    cases hx with
    | head => rfl
    | tail _ hx => exact g2 x hx
   ·cases h
  ·cases h
theorem foldl_push (ns : List Int) : ∀ (r : ByteArray), ns.foldl (fun r n => r.push (UInt8.ofNat n.toNat)) r = ⟨r.data ++ (ns.map fun n => UInt8.ofNat n.toNat).toArray⟩ := by
 induction ns with
 | nil => intro r; simp
 | cons n ns ih =>
  intro r
  simp only [List.foldl_cons, ih]
  apply ByteArray.ext
  simp [ByteArray.push]
theorem bytesA_nil {bx : List (Id × List AV)} {x : AV} {s : List UInt8} (h : bytesA [] x = some s) : bytesA bx x = some s := by
 cases x <;> simp_all [bytesA, lkB]
theorem b2s_sound (h : Rel F S gb σ a w) {x : AV} {v : Value} {s : List UInt8} (hx : PR S gb x v) (hb : bytesA σ.bx x = some s) : (Conv.bytesToString v).run P w = .ok (.string ⟨s.toArray⟩) w := by
 have nil : (Conv.bytesToString (.slice none 0 0)).run P w = .ok (.string .empty) w := by simp [Conv.bytesToString]
 have go : ∀ (g o n cap : Nat) (cs : List AV) (us : List Value), PRlist S gb cs us → us.length = n → byteCells cs = some s → (∀ j u, us[j]? = some u → w.cell? ⟨g, o + j, none⟩ = some u) → (Conv.bytesToString (.slice (some ⟨g, o, none⟩) n cap)).run P w = .ok (.string ⟨s.toArray⟩) w := by
  intro g o n cap cs us hp hn hc hcell
  obtain ⟨ns, rfl, rfl⟩ := byteCells_ints hc hp
  have hl := loadCells_at (P := P) (w := w) (b := g) (o := o) (us := ns.map (Value.int .u8)) hcell
  rw [hn] at hl
  rw [run_bytesToString w ⟨g, o, none⟩ n cap ns hl, foldl_push, show ByteArray.empty.data = #[] from rfl, Array.empty_append]
 unfold bytesA at hb
 split at hb
 ·simp only [PR] at hx; subst hx
  simp only [Option.some.injEq] at hb; subst hb
  exact nil
 ·rename_i rows
  simp only [PR] at hx
  rcases hx with ⟨rfl, rfl⟩ | ⟨ad, cap, k, rfl, _, hr⟩
  ·simp [rowBytes] at hb; subst hb; exact nil
  ·by_cases h0 : rows = []
   ·subst h0
    simp [rowBytes] at hb; subst hb
    obtain ⟨b, o, sp⟩ := ad
    have : (Conv.bytesToString (.slice (some ⟨b, o, sp⟩) 0 cap)).run P w = .ok (.string ⟨([] : List UInt8).toArray⟩) w := by
     have := run_bytesToString (P := P) w ⟨b, o, sp⟩ 0 cap [] (by simp [loadCells, loadCellsFrom])
     rw [this]; rfl
    exact this
   ·rcases hr with hr | ⟨hsp, hr⟩
    ·exact absurd hr h0
    ·obtain ⟨hk, hc⟩ := PRrows.flat.1 hr
     obtain ⟨us, l1, l2, l3, l4⟩ := hc.list
     obtain ⟨b, o, sp⟩ := ad
     simp only at hsp l2
     subst hsp
     obtain ⟨r1, r2⟩ := rowBytes_cells hb
     have hone : us.length = rows.length := by rw [l1, flatten_length r2]; simp
     exact go b o rows.length cap rows.flatten us (gb0toL l4) hone r1 (fun j u hu => h.hr.agree _ _ _ (l2 j u hu))
 ·rename_i d off n sz
  split at hb
  ·rename_i cs hcs
   split at hb
   ·rename_i hsz
    obtain ⟨rfl, hle⟩ := hsz
    simp only [PR] at hx
    obtain ⟨g, z, cap, hg, hit, rfl, _⟩ := hx
    obtain ⟨us, b1, b2, b3⟩ := h.boxcell hcs hit hg
    have hlen := b2.length
    exact go g off n cap _ ((us.drop off).take n) ((b2.drop off).take n) (by simp; omega) hb (fun j u hu => by
     rw [List.getElem?_take] at hu
     split at hu
     ·rw [List.getElem?_drop] at hu; exact b1 _ _ hu
     ·cases hu)
   ·cases hb
  ·cases hb
 ·cases hb
theorem ev_sound (h : Rel F S gb σ a w) {o : Oper} {ao : AOp} (hm : mt1 P F.GL F.N o ao = true) {d : Nat} {v : AV} (he : ev σ ao = some (d, v)) :
  o.dst = some d ∧ d < F.N ∧ ∃ u, (execOp a.eval o).run P w = .ok (.value u) w ∧ PR S gb v u := by
 cases ao <;> simp only [ev, reduceCtorEq] at he
 case mv d' x =>
  simp only [Option.some.injEq, Prod.mk.injEq] at he
  obtain ⟨rfl, rfl⟩ := he
  simp only [mt1, Bool.and_eq_true, slotOk_iff] at hm
  obtain ⟨⟨h1, h2⟩, hm⟩ := hm
  refine ⟨h1, h2, ?_⟩
  split at hm <;> (try cases hm)
  all_goals
   rename_i y hop
   exact ⟨a.eval y, by unfold execOp; simp only [hop]; rfl, mX_sound h hm⟩
 case pk d' c x y =>
  simp only [mt1, Bool.and_eq_true, slotOk_iff] at hm
  obtain ⟨⟨h1, h2⟩, hm⟩ := hm
  split at hm <;> (try cases hm)
  rename_i c' x' y' hop
  simp only [Bool.and_eq_true] at hm
  have hc := mX_sound h hm.1.1
  have hx := mX_sound h hm.1.2
  have hy := mX_sound h hm.2
  split at he
  ·rename_i t ht
   rw [ht] at hc
   simp only [PR] at hc
   simp only [Option.some.injEq, Prod.mk.injEq] at he
   obtain ⟨rfl, rfl⟩ := he
   refine ⟨h1, h2, if t = true then a.eval x' else a.eval y', by unfold execOp; simp only [hop]; simp [hc, asBool], ?_⟩
   cases t
   ·exact hy
   ·exact hx
  ·cases he
 case bi d' op x y =>
  simp only [mt1, Bool.and_eq_true, slotOk_iff] at hm
  obtain ⟨⟨h1, h2⟩, hm⟩ := hm
  split at hm <;> (try cases hm)
  rename_i op' t x' y' ty hop
  simp only [Bool.and_eq_true, beq_iff_eq] at hm
  have hx := mX_sound h hm.1.2
  have hy := mX_sound h hm.2
  obtain rfl := hm.1.1
  split at he
  ·rename_i r hr
   simp only [Option.some.injEq, Prod.mk.injEq] at he
   obtain ⟨rfl, rfl⟩ := he
   obtain ⟨z, hz, hp⟩ := bin_sound (P := P) (w := w) (t := t) (p := x') (q := y') hr hx hy
   refine ⟨h1, h2, z, ?_, hp⟩
   unfold execOp
   simp only [hop, Sem.run_bind] at hz ⊢
   rw [hz]; rfl
  ·cases he
 case bb d' neg x y =>
  simp only [mt1, Bool.and_eq_true, slotOk_iff] at hm
  obtain ⟨⟨h1, h2⟩, hm⟩ := hm
  split at hm <;> (try cases hm)
  rename_i op' t x' y' ty hop
  simp only [Bool.and_eq_true, beq_iff_eq] at hm
  have hx := mX_sound h hm.1.2
  have hy := mX_sound h hm.2
  obtain ⟨⟨⟨hop', hu⟩, _⟩, _⟩ := hm
  have hu' : P.underlying t = some .bool := by split at hu <;> simp_all
  split at he
  ·rename_i b c hb hc
   simp only [Option.some.injEq, Prod.mk.injEq] at he
   obtain ⟨rfl, rfl⟩ := he
   rw [hb] at hx; rw [hc] at hy
   simp only [PR] at hx hy
   refine ⟨h1, h2, .bool (if neg = true then b != c else b == c), ?_, by simp [PR]⟩
   unfold execOp
   simp only [hop, hx, hy, eqGuard_at_bool]
   cases neg
   ·simp [hop', binOp, Op.equal, Op.maxDepth, run_equalIn_bool' (h := hu')]
   ·simp [hop', binOp, Op.equal, Op.maxDepth, run_equalIn_bool' (h := hu'), bne]
  ·cases he
 case ea d' neg ks x y =>
  simp only [mt1, Bool.and_eq_true, slotOk_iff] at hm
  obtain ⟨⟨h1, h2⟩, hm⟩ := hm
  split at hm <;> (try cases hm)
  rename_i op' t x' y' ty hop
  simp only [Bool.and_eq_true, beq_iff_eq, Bool.not_eq_true'] at hm
  have hx := mX_sound h hm.1.2
  have hy := mX_sound h hm.2
  obtain ⟨⟨⟨⟨⟨hop', hk⟩, ha⟩, hg⟩, _⟩, _⟩ := hm
  split at he
  ·rename_i xs ys hb hc
   split at he
   ·rename_i b hcs
    simp only [Option.some.injEq, Prod.mk.injEq] at he
    obtain ⟨rfl, rfl⟩ := he
    rw [hb] at hx; rw [hc] at hy
    simp only [PR] at hx hy
    obtain ⟨us, hx1, _, hx2⟩ := hx
    obtain ⟨vs, hy1, _, hy2⟩ := hy
    obtain ⟨g1, _⟩ := eqK_sound (P := P) 4 t ks 9996 hk w hcs hx2 hy2
    simp only [ofCells, ha, if_true, Array.toArray_toList] at g1
    refine ⟨h1, h2, .bool (if neg = true then !b else b), ?_, by simp [PR]⟩
    unfold execOp
    simp only [hop, hx1, hy1, Sem.run_bind, run_eqGuard_agg (hm := hg), Result.andThen_ok]
    cases neg
    ·simp only [hop', Bool.false_eq_true, if_false, run_eql_struct, g1, Result.andThen_ok, Sem.run_pure]
    ·simp only [hop', if_true, run_neq_struct, g1, Result.andThen_ok, Sem.run_pure]
   ·cases he
  ·cases he
 case pn d' neg x =>
  simp only [mt1, Bool.and_eq_true, slotOk_iff] at hm
  obtain ⟨⟨h1, h2⟩, hm⟩ := hm
  split at hm <;> (try cases hm)
  rename_i op' t x' ty hop
  simp only [Bool.and_eq_true, beq_iff_eq] at hm
  have hx := mX_sound h hm.2
  obtain ⟨e, hu⟩ : ∃ e, P.underlying t = some (.pointer e) := by
   have := hm.1.2
   split at this <;> simp_all
  have hu' : P.underlying t = some (.pointer (P.pointee t)) := by rw [hu]; simp [Program.pointee, hu]
  have hop' := hm.1.1
  have run : ∀ p : Option Addr, a.eval x' = .pointer p → (execOp a.eval o).run P w = .ok (.value (.bool (if neg = true then !p.isNone else p.isNone))) w := by
   intro p hp
   have ec : a.eval (.const (.pointer none)) = .pointer none := rfl
   unfold execOp
   cases neg
   ·simp only [Bool.false_eq_true, if_false] at hop' ⊢
    subst hop'
    simp [hop, hp, ec, eqGuard_at_pointer, run_eql_pointer_nil w t p hu']
   ·simp only [if_true] at hop' ⊢
    subst hop'
    simp [hop, hp, ec, eqGuard_at_pointer, run_neq_pointer_nil w t p hu']
  split at he
  ·rename_i b bo hb
   simp only [Option.some.injEq, Prod.mk.injEq] at he
   obtain ⟨rfl, rfl⟩ := he
   rw [hb] at hx
   simp only [PR] at hx
   obtain ⟨g, z, _, _, hx⟩ := hx
   exact ⟨h1, h2, _, run _ hx, by cases neg <;> simp [PR]⟩
  ·rename_i cs hb
   simp only [Option.some.injEq, Prod.mk.injEq] at he
   obtain ⟨rfl, rfl⟩ := he
   rw [hb] at hx
   simp only [PR] at hx
   obtain ⟨g, z, hx, _⟩ := hx
   exact ⟨h1, h2, _, run _ hx, by cases neg <;> simp [PR]⟩
  ·rename_i hb
   simp only [Option.some.injEq, Prod.mk.injEq] at he
   obtain ⟨rfl, rfl⟩ := he
   rw [hb] at hx
   simp only [PR] at hx
   exact ⟨h1, h2, _, run _ hx, by cases neg <;> simp [PR]⟩
  ·cases he
 case un d' op x =>
  simp only [mt1, Bool.and_eq_true, slotOk_iff] at hm
  obtain ⟨⟨h1, h2⟩, hm⟩ := hm
  split at hm <;> (try cases hm)
  rename_i op' t x' hop
  simp only [Bool.and_eq_true, beq_iff_eq] at hm
  have hx := mX_sound h hm.2
  obtain rfl := hm.1
  split at he
  ·rename_i b hb
   simp only [Option.some.injEq, Prod.mk.injEq] at he
   obtain ⟨rfl, rfl⟩ := he
   rw [hb] at hx
   simp only [PR] at hx
   exact ⟨h1, h2, .bool (!b), by unfold execOp; simp [hop, hx, Op.unary], by simp [PR]⟩
  ·rename_i k n hb
   simp only [Option.some.injEq, Prod.mk.injEq] at he
   obtain ⟨rfl, rfl⟩ := he
   rw [hb] at hx
   simp only [PR] at hx
   exact ⟨h1, h2, .int k (k.wrap (0 - n)), by unfold execOp; simp [hop, hx, Op.unary, Op.intArith], by simp [PR]⟩
  ·cases he
 case cv d' k x =>
  simp only [mt1, Bool.and_eq_true, slotOk_iff] at hm
  obtain ⟨⟨h1, h2⟩, hm⟩ := hm
  split at hm <;> (try cases hm)
  rename_i s t x' hop
  simp only [Bool.and_eq_true] at hm
  have hx := mX_sound h hm.2
  obtain ⟨⟨hs, ht⟩, _⟩ := hm
  have ht' : P.underlying t = some (.int k) := by split at ht <;> simp_all
  split at he
  ·rename_i k0 n hb
   simp only [Option.some.injEq, Prod.mk.injEq] at he
   obtain ⟨rfl, rfl⟩ := he
   rw [hb] at hx
   simp only [PR] at hx
   obtain ⟨ds, hds⟩ := Option.isSome_iff_exists.1 hs
   exact ⟨h1, h2, .int k (k.wrap n), by unfold execOp; simp [hop, hx, convert, run_underlying hds, run_underlying ht', Conv.intToInt], by simp [PR]⟩
  ·cases he
 case ln d' x =>
  simp only [mt1, Bool.and_eq_true, slotOk_iff] at hm
  obtain ⟨⟨h1, h2⟩, hm⟩ := hm
  split at hm <;> (try cases hm)
  rename_i as ts hop
  split at hm <;> (try cases hm)
  rename_i x' t has hts
  simp only [Bool.and_eq_true] at hm
  have hx := mX_sound h hm.2
  obtain ⟨e, ht'⟩ : ∃ e, P.underlying t = some (.slice e) := by
   have := hm.1
   split at this <;> simp_all
  have has' : as = #[x'] := by cases as; simp_all
  have hts' : ts = #[t] := by cases ts; simp_all
  subst has'; subst hts'
  split at he <;> simp only [Option.some.injEq, Prod.mk.injEq, reduceCtorEq] at he <;> obtain ⟨rfl, rfl⟩ := he
  ·rename_i rows hb
   rw [hb] at hx
   simp only [PR] at hx
   refine ⟨h1, h2, .int .i64 rows.length, ?_, by simp [PR]⟩
   unfold execOp
   rcases hx with ⟨hx, hr⟩ | ⟨_, cap, k, hx, _⟩
   ·simp [hop, resolve, invoke, builtin, hx, Builtin.len_, run_underlying ht', goInt, hr]
   ·simp [hop, resolve, invoke, builtin, hx, Builtin.len_, run_underlying ht', goInt]
  ·rename_i hb
   rw [hb] at hx
   simp only [PR] at hx
   exact ⟨h1, h2, .int .i64 0, by unfold execOp; simp [hop, resolve, invoke, builtin, hx, Builtin.len_, run_underlying ht', goInt], by simp [PR]⟩
  ·rename_i _ n _ hb
   rw [hb] at hx
   simp only [PR] at hx
   obtain ⟨g, _, _, _, _, hx, _⟩ := hx
   exact ⟨h1, h2, .int .i64 n, by unfold execOp; simp [hop, resolve, invoke, builtin, hx, Builtin.len_, run_underlying ht', goInt], by simp [PR]⟩
 case lns d' x =>
  simp only [mt1, Bool.and_eq_true, slotOk_iff] at hm
  obtain ⟨⟨h1, h2⟩, hm⟩ := hm
  split at hm <;> (try cases hm)
  rename_i as ts hop
  split at hm <;> (try cases hm)
  rename_i x' t has hts
  simp only [Bool.and_eq_true] at hm
  have hx := mX_sound h hm.2
  have ht' : P.underlying t = some .string := by
   have := hm.1
   split at this <;> simp_all
  have has' : as = #[x'] := by cases as; simp_all
  have hts' : ts = #[t] := by cases ts; simp_all
  subst has'; subst hts'
  split at he
  ·rename_i s hb
   simp only [Option.some.injEq, Prod.mk.injEq] at he
   obtain ⟨rfl, rfl⟩ := he
   rw [hb] at hx
   simp only [PR] at hx
   have e2 : (ByteArray.mk s.toArray).size = s.length := rfl
   exact ⟨h1, h2, .int .i64 s.length, by unfold execOp; simp [hop, resolve, invoke, builtin, hx, Builtin.len_, run_underlying ht', goInt, e2], by simp [PR]⟩
  ·cases he
 case fa d' x off =>
  simp only [mt1, Bool.and_eq_true, slotOk_iff] at hm
  obtain ⟨⟨h1, h2⟩, hm⟩ := hm
  split at hm <;> (try cases hm)
  rename_i t x' f hop
  simp only [Bool.and_eq_true] at hm
  have hx := mX_sound h hm.2
  obtain ⟨hf, _⟩ := hm
  split at hf <;> (try cases hf)
  rename_i o' n hfa
  simp only [Bool.and_eq_true, beq_iff_eq, Bool.not_eq_true', beq_eq_false_iff_ne, ne_eq] at hf
  obtain ⟨fs, fd, hu, hfd, hp⟩ := fieldsAt_struct hfa
  simp only [Prod.mk.injEq] at hp
  obtain ⟨rfl, hn⟩ := hp
  obtain ⟨rfl, hn0⟩ := hf
  have hsz : sz? P fd.type = some n := by
   cases hq : sz? P fd.type with
   | none => simp [hq] at hn; exact absurd hn hn0
   | some m => simp [hq] at hn; simp [hn]
  split at he <;> simp only [Option.some.injEq, Prod.mk.injEq, reduceCtorEq] at he <;> obtain ⟨rfl, rfl⟩ := he
  ·rename_i b o hb
   rw [hb] at hx
   simp only [PR] at hx
   obtain ⟨g, z, hg, hit, hx⟩ := hx
   refine ⟨h1, h2, .pointer (some ⟨g, o + fd.offset, none⟩), ?_, by simp only [PR]; exact ⟨g, z, hg, hit, rfl⟩⟩
   unfold execOp
   simp [hop, hx, Instr.fieldAt, run_underlying hu, hfd, Instr.sureAddr, fieldPlace, run_sizeOf hsz, hn0, Addr.add_lit]
  ·rename_i cs hb
   rw [hb] at hx
   simp only [PR] at hx
   obtain ⟨g, o, hx, hc⟩ := hx
   refine ⟨h1, h2, .pointer (some ⟨g, o + fd.offset, none⟩), ?_, by simp only [PR]; exact ⟨g, _, rfl, hc.drop _⟩⟩
   unfold execOp
   simp [hop, hx, Instr.fieldAt, run_underlying hu, hfd, Instr.sureAddr, fieldPlace, run_sizeOf hsz, hn0, Addr.add_lit]
 case ia d' sz x i =>
  simp only [mt1, Bool.and_eq_true, slotOk_iff] at hm
  obtain ⟨⟨h1, h2⟩, hm⟩ := hm
  split at hm <;> (try cases hm)
  rename_i t x' i' hop
  simp only [Bool.and_eq_true] at hm
  have hx := mX_sound h hm.1.2
  have hi := mX_sound h hm.2
  obtain ⟨e, hu, hsz⟩ : ∃ e, P.underlying t = some (.slice e) ∧ sz? P e = some sz := by
   have := hm.1.1
   split at this <;> simp_all
  split at he
  ·rename_i rows k n hb hc
   rw [hb] at hx; rw [hc] at hi
   simp only [PR] at hx hi
   split at he
   ·rename_i hn
    split at he
    ·rename_i row hrow
     split at he
     ·rename_i hl
      simp only [Option.some.injEq, Prod.mk.injEq] at he
      obtain ⟨rfl, rfl⟩ := he
      obtain ⟨hlt, _⟩ := List.getElem?_eq_some_iff.1 hrow
      rcases hx with ⟨hx, hr⟩ | ⟨ad, cap, k', hx, _, hr⟩
      ·subst hr; simp at hrow
      ·rcases hr with hr | ⟨hsp, hr⟩
       ·subst hr; simp at hrow
       ·obtain ⟨g1, g2⟩ := hr.get hrow
        have hk : k' = sz := by rw [← g1, hl]
        subst hk
        obtain ⟨bk, of, sp⟩ := ad
        simp only at hsp g2
        subst hsp
        refine ⟨h1, h2, .pointer (some ⟨bk, of + n.toNat * k', none⟩), ?_, by simp only [PR]; exact ⟨_, _, rfl, g2⟩⟩
        unfold execOp
        have hb2 : 0 ≤ n ∧ n < (rows.length : Int) := by omega
        simp [hop, hx, hi, Instr.indexAt, asIntOf, run_underlying hu, run_sizeOf hsz, hb2, Addr.add_lit]
     ·cases he
    ·cases he
   ·cases he
  ·rename_i b bo n k kk i0 hb hc
   rw [hb] at hx; rw [hc] at hi
   simp only [PR] at hx hi
   split at he
   ·rename_i hn
    simp only [Option.some.injEq, Prod.mk.injEq] at he
    obtain ⟨rfl, rfl⟩ := he
    obtain ⟨g, z, cap, hg, hit, hx, _, _, _⟩ := hx
    refine ⟨h1, h2, .pointer (some ⟨g, bo + i0.toNat * sz, none⟩), ?_, by simp only [PR]; exact ⟨g, z, hg, hit, rfl⟩⟩
    unfold execOp
    have hb2 : 0 ≤ i0 ∧ i0 < (n : Int) := ⟨hn.1, hn.2.1⟩
    simp [hop, hx, hi, Instr.indexAt, asIntOf, run_underlying hu, run_sizeOf hsz, hb2, Addr.add_lit]
   ·cases he
  ·cases he
 case iaa d' sz n x i =>
  simp only [mt1, Bool.and_eq_true, slotOk_iff] at hm
  obtain ⟨⟨h1, h2⟩, hm⟩ := hm
  split at hm <;> (try cases hm)
  rename_i t x' i' hop
  simp only [Bool.and_eq_true] at hm
  have hx := mX_sound h hm.1.2
  have hi := mX_sound h hm.2
  obtain ⟨e, hu, hsz⟩ : ∃ e, P.underlying t = some (.array n e) ∧ sz? P e = some sz := by
   have := hm.1.1
   split at this <;> simp_all
  split at he
  ·rename_i b o kk i0 hb hc
   rw [hb] at hx; rw [hc] at hi
   simp only [PR] at hx hi
   split at he
   ·rename_i hn
    simp only [Option.some.injEq, Prod.mk.injEq] at he
    obtain ⟨rfl, rfl⟩ := he
    obtain ⟨g, z, hg, hit, hx⟩ := hx
    refine ⟨h1, h2, .pointer (some ⟨g, o + i0.toNat * sz, none⟩), ?_, by simp only [PR]; exact ⟨g, z, hg, hit, rfl⟩⟩
    unfold execOp
    simp [hop, hx, hi, Instr.indexAt, asIntOf, run_underlying hu, run_sizeOf hsz, hn, Instr.sureAddr, Addr.add_lit]
   ·cases he
  ·rename_i cs kk i0 hb hc
   rw [hb] at hx; rw [hc] at hi
   simp only [PR] at hx hi
   split at he
   ·rename_i hn
    simp only [Option.some.injEq, Prod.mk.injEq] at he
    obtain ⟨rfl, rfl⟩ := he
    obtain ⟨g, o, hx, hcs⟩ := hx
    refine ⟨h1, h2, .pointer (some ⟨g, o + i0.toNat * sz, none⟩), ?_, by simp only [PR]; exact ⟨g, _, rfl, hcs.drop _⟩⟩
    unfold execOp
    simp [hop, hx, hi, Instr.indexAt, asIntOf, run_underlying hu, run_sizeOf hsz, hn, Instr.sureAddr, Addr.add_lit]
   ·cases he
  ·cases he
 case lds d' x =>
  simp only [mt1, Bool.and_eq_true, slotOk_iff] at hm
  obtain ⟨⟨h1, h2⟩, hm⟩ := hm
  split at hm <;> (try cases hm)
  rename_i t x' hop
  simp only [Bool.and_eq_true] at hm
  have hx := mX_sound h hm.2
  split at he
  ·rename_i v' hl
   simp only [Option.some.injEq, Prod.mk.injEq] at he
   obtain ⟨rfl, rfl⟩ := he
   obtain ⟨u, hu, hp⟩ := loadS_sound h hm.1 hl hx
   exact ⟨h1, h2, u, by unfold execOp; simp [hop, hu], hp⟩
  ·cases he
 case lda d' n x =>
  simp only [mt1, Bool.and_eq_true, slotOk_iff] at hm
  obtain ⟨⟨h1, h2⟩, hm⟩ := hm
  split at hm <;> (try cases hm)
  rename_i t x' hop
  simp only [Bool.and_eq_true, beq_iff_eq] at hm
  have hx := mX_sound h hm.2
  split at he
  ·rename_i v' hl
   simp only [Option.some.injEq, Prod.mk.injEq] at he
   obtain ⟨rfl, rfl⟩ := he
   obtain ⟨u, hu, hp⟩ := loadN_sound h hm.1.1 hm.1.2 hl hx
   exact ⟨h1, h2, u, by unfold execOp; simp [hop, hu], hp⟩
  ·cases he
 case bd d' z ps =>
  simp only [mt1, Bool.and_eq_true, slotOk_iff] at hm
  obtain ⟨⟨h1, h2⟩, hm⟩ := hm
  split at hm <;> (try cases hm)
  rename_i t ps' hop
  simp only [Bool.and_eq_true] at hm
  obtain ⟨hz, hb⟩ := hm
  split at hz <;> (try cases hz)
  rename_i inf hinf
  split at hz <;> (try cases hz)
  rename_i z' hz'
  simp only [Bool.and_eq_true] at hz
  split at he
  ·rename_i cs hcs
   simp only [Option.some.injEq, Prod.mk.injEq] at he
   obtain ⟨rfl, rfl⟩ := he
   split at hb
   ·rename_i fs hu
    simp only [Bool.and_eq_true] at hb
    obtain ⟨hfs, hb⟩ := hb
    obtain ⟨us, g1, g2, g3⟩ := buildA_sound h (fieldsAt P t) hb hcs (zs := z') (cstL_sound _ _ hz.2) (fun u hu => List.all_eq_true.1 hz.1 u hu)
    refine ⟨h1, h2, .agg us, ?_, by simp only [PR]; exact ⟨us, rfl, g3, g2⟩⟩
    have hpl : ∀ (l : List Field) (acc : Array (Nat × Nat)), (l.all fun f => (sz? P f.type).isSome) = true →
      (l.foldlM (fun (bs : Array (Nat × Nat)) (f : Field) => (Functor.map bs.push (do pure (f.offset, ← sizeOf f.type) : Sem (Nat × Nat)) : Sem (Array (Nat × Nat)))) acc).run P w = .ok (acc ++ (l.map fun f => (f.offset, (sz? P f.type).getD 0)).toArray) w := by
     intro l
     induction l with
     | nil => intro acc _; simp
     | cons f r ih =>
      intro acc hall
      simp only [List.all_cons, Bool.and_eq_true] at hall
      obtain ⟨n, hn⟩ := Option.isSome_iff_exists.1 hall.1
      simp only [List.foldlM_cons, Sem.run_bind, Sem.run_map, run_sizeOf hn, Result.andThen_ok, Sem.run_pure]
      rw [ih _ hall.2]
      simp [hn]
    have hmap : (fs.mapM fun (f : Field) => (do pure (f.offset, ← sizeOf f.type) : Sem (Nat × Nat))).run P w = .ok (fieldsAt P t).toArray w := by
     rw [Array.mapM_eq_foldlM, ← Array.foldlM_toList]
     rw [hpl fs.toList #[] hfs]
     simp [fieldsAt, hu]
    have hfill : Instr.fill (fun x => (fieldsAt P t).toArray[x]?) z' (Array.map (fun x => (x.1, a.eval x.2)) ps').toList = some us := by
     simpa using g1
    unfold execOp
    simp only [hop, Instr.build, Sem.run_bind, zeroValue, typeInfo, run_program, Result.andThen_ok, hinf, Sem.run_pure, hz', Value.cells, run_underlying hu]
    rw [hmap]
    simp only [Result.andThen_ok]
    simp only [hfill, Sem.run_pure, Result.andThen_ok]
   ·rename_i n e hu
    split at hb
    ·rename_i sz hsz
     obtain ⟨us, g1, g2, g3⟩ := buildA_sound h _ hb hcs (zs := z') (cstL_sound _ _ hz.2) (fun u hu => List.all_eq_true.1 hz.1 u hu)
     refine ⟨h1, h2, .agg us, ?_, by simp only [PR]; exact ⟨us, rfl, g3, g2⟩⟩
     have hfill : Instr.fill (fun i => some (i * sz, sz)) z' (Array.map (fun x => (x.1, a.eval x.2)) ps').toList = some us := by
      refine fill_mono (fun i p hp => ?_) (by simpa using g1)
      simp only [List.getElem?_map, Option.map_eq_some_iff] at hp
      obtain ⟨k, hk, rfl⟩ := hp
      obtain ⟨hk1, hk2⟩ := List.getElem?_eq_some_iff.1 hk
      simp only [List.getElem_range] at hk2
      rw [hk2]
     unfold execOp
     simp only [hop, Instr.build, Sem.run_bind, zeroValue, typeInfo, run_program, Result.andThen_ok, hinf, Sem.run_pure, hz', Value.cells, run_underlying hu, run_sizeOf hsz]
     simp only [hfill, Sem.run_pure, Result.andThen_ok]
    ·cases hb
   ·cases hb
  ·cases he
 case fls d' off x =>
  simp only [mt1, Bool.and_eq_true, slotOk_iff] at hm
  obtain ⟨⟨h1, h2⟩, hm⟩ := hm
  split at hm <;> (try cases hm)
  rename_i t x' f hop
  simp only [Bool.and_eq_true] at hm
  have hx := mX_sound h hm.2
  obtain ⟨hf, _⟩ := hm
  split at hf <;> (try cases hf)
  rename_i fs hu
  split at hf <;> (try cases hf)
  rename_i fd hfd
  simp only [Bool.and_eq_true, beq_iff_eq] at hf
  obtain ⟨hsc, rfl⟩ := hf
  split at he
  ·rename_i cs hb
   rw [hb] at hx
   simp only [PR] at hx
   obtain ⟨us, hx, h0, hl⟩ := hx
   split at he
   ·rename_i v' hv
    simp only [Option.some.injEq, Prod.mk.injEq] at he
    obtain ⟨rfl, rfl⟩ := he
    obtain ⟨u, hu1, hp⟩ := hl.get hv
    exact ⟨h1, h2, u, by unfold execOp; simp [hop, hx, Instr.field, run_underlying hu, hfd, asAgg, run_part_s hsc (us := us) (u := u) (by simpa using hu1)], hp⟩
   ·cases he
  ·cases he
 case fla d' off n x =>
  simp only [mt1, Bool.and_eq_true, slotOk_iff] at hm
  obtain ⟨⟨h1, h2⟩, hm⟩ := hm
  split at hm <;> (try cases hm)
  rename_i t x' f hop
  simp only [Bool.and_eq_true] at hm
  have hx := mX_sound h hm.2
  obtain ⟨hf, _⟩ := hm
  split at hf <;> (try cases hf)
  rename_i fs hu
  split at hf <;> (try cases hf)
  rename_i fd hfd
  simp only [Bool.and_eq_true, beq_iff_eq] at hf
  obtain ⟨⟨hag, hsz⟩, rfl⟩ := hf
  split at he
  ·rename_i cs hb
   rw [hb] at hx
   simp only [PR] at hx
   obtain ⟨us, hx, h0, hl⟩ := hx
   split at he
   ·rename_i hle
    simp only [Option.some.injEq, Prod.mk.injEq] at he
    obtain ⟨rfl, rfl⟩ := he
    refine ⟨h1, h2, .agg (us.extract fd.offset (fd.offset + n)), by unfold execOp; simp [hop, hx, Instr.field, run_underlying hu, hfd, asAgg, run_part_a hag hsz], ?_⟩
    simp only [PR]
    have e : (us.extract fd.offset (fd.offset + n)).toList = (us.toList.drop fd.offset).take n := by simp [List.extract_eq_take_drop]
    refine ⟨_, rfl, ?_, ?_⟩
    ·rw [e]; exact fun u hu => h0 u (List.mem_of_mem_drop (List.mem_of_mem_take hu))
    ·rw [e]; exact (hl.drop _).take _
   ·cases he
  ·cases he
 case ixs d' x i =>
  simp only [mt1, Bool.and_eq_true, slotOk_iff] at hm
  obtain ⟨⟨h1, h2⟩, hm⟩ := hm
  split at hm <;> (try cases hm)
  rename_i t x' i' hop
  simp only [Bool.and_eq_true] at hm
  have hx := mX_sound h hm.1.2
  have hi := mX_sound h hm.2
  have hu : P.underlying t = some .string := by
   have := hm.1.1
   split at this <;> simp_all
  split at he
  ·rename_i s k n hb hc
   rw [hb] at hx; rw [hc] at hi
   simp only [PR] at hx hi
   split at he
   ·rename_i hn
    split at he
    ·rename_i b hsb
     simp only [Option.some.injEq, Prod.mk.injEq] at he
     obtain ⟨rfl, rfl⟩ := he
     have e1 : (ByteArray.mk s.toArray)[n.toNat]? = some b := by
      obtain ⟨hlt, hb2⟩ := List.getElem?_eq_some_iff.1 hsb
      have e2 : n.toNat < (ByteArray.mk s.toArray).size := hlt
      exact (getElem?_pos (ByteArray.mk s.toArray) n.toNat e2).trans (by rw [← hb2]; rfl)
     exact ⟨h1, h2, .int .u8 b.toNat, by unfold execOp; simp [hop, hx, hi, Instr.index, asIntOf, run_underlying hu, hn, e1], by simp [PR]⟩
    ·cases he
   ·cases he
  ·cases he
 case exq d' x i =>
  simp only [mt1, Bool.and_eq_true, slotOk_iff] at hm
  obtain ⟨⟨h1, h2⟩, hm⟩ := hm
  split at hm <;> (try cases hm)
  rename_i x' i' hop
  simp only [Bool.and_eq_true, beq_iff_eq] at hm
  have hx := mX_sound h hm.2
  obtain rfl := hm.1
  split at he
  ·rename_i vs hb
   rw [hb] at hx
   simp only [PR] at hx
   obtain ⟨us, hx, hl⟩ := hx
   split at he
   ·rename_i v' hv
    simp only [Option.some.injEq, Prod.mk.injEq] at he
    obtain ⟨rfl, rfl⟩ := he
    obtain ⟨u, hu1, hp⟩ := hl.get hv
    simp only [Array.getElem?_toList] at hu1
    exact ⟨h1, h2, u, by unfold execOp; simp [hop, hx, Instr.extract, hu1], hp⟩
   ·cases he
  ·cases he
 case ixa d' sz n agg x i =>
  simp only [mt1, Bool.and_eq_true, slotOk_iff] at hm
  obtain ⟨⟨h1, h2⟩, hm⟩ := hm
  split at hm <;> (try cases hm)
  rename_i t x' i' hop
  simp only [Bool.and_eq_true] at hm
  have hx := mX_sound h hm.1.2
  have hi := mX_sound h hm.2
  obtain ⟨⟨hu, _⟩, _⟩ := hm
  split at hu <;> (try cases hu)
  rename_i m e hu0
  simp only [Bool.and_eq_true, beq_iff_eq] at hu
  obtain ⟨⟨rfl, hsz⟩, hag⟩ := hu
  split at he
  ·rename_i cs k j hb hc
   rw [hb] at hx; rw [hc] at hi
   simp only [PR] at hx hi
   obtain ⟨us, hx, h0, hl⟩ := hx
   split at he
   ·rename_i hn
    obtain ⟨n0, n1, n2⟩ := hn
    split at he
    ·rename_i hagg
     rw [if_pos hagg] at hag
     simp only [Option.some.injEq, Prod.mk.injEq] at he
     obtain ⟨rfl, rfl⟩ := he
     refine ⟨h1, h2, .agg (us.extract (j.toNat * sz) (j.toNat * sz + sz)), by unfold execOp; simp [hop, hx, hi, Instr.index, asIntOf, run_underlying hu0, n0, n1, run_sizeOf hsz, run_part_a hag hsz], ?_⟩
     simp only [PR]
     have e : (us.extract (j.toNat * sz) (j.toNat * sz + sz)).toList = (us.toList.drop (j.toNat * sz)).take sz := by simp [List.extract_eq_take_drop]
     refine ⟨_, rfl, ?_, ?_⟩
     ·rw [e]; exact fun u hu => h0 u (List.mem_of_mem_drop (List.mem_of_mem_take hu))
     ·rw [e]; exact (hl.drop _).take _
    ·rename_i hagg
     rw [if_neg hagg] at hag
     split at he
     ·rename_i v' hv
      simp only [Option.some.injEq, Prod.mk.injEq] at he
      obtain ⟨rfl, rfl⟩ := he
      obtain ⟨u, hu1, hp⟩ := hl.get hv
      exact ⟨h1, h2, u, by unfold execOp; simp [hop, hx, hi, Instr.index, asIntOf, run_underlying hu0, n0, n1, run_sizeOf hsz, run_part_s hag (us := us) (u := u) (by simpa using hu1)], hp⟩
     ·cases he
   ·cases he
  ·cases he
 case mf d' f xs =>
  simp only [mt1, Bool.and_eq_true, slotOk_iff] at hm
  obtain ⟨⟨h1, h2⟩, hm⟩ := hm
  split at hm <;> (try cases hm)
  rename_i f' first cap hop
  simp only [Bool.and_eq_true, beq_iff_eq] at hm
  obtain ⟨⟨rfl, hf⟩, hxs⟩ := hm
  simp only [Option.some.injEq, Prod.mk.injEq] at he
  obtain ⟨rfl, rfl⟩ := he
  have hl := mXs_sound h hxs
  have hf0 : first = #[] := Array.eq_empty_of_size_eq_zero hf
  refine ⟨h1, h2, .func (.func f) #[] (cap.map a.eval), by unfold execOp; simp [hop, Instr.makeFunc, hf0], ?_⟩
  simp only [PR]
  exact ⟨_, rfl, by simpa using hl⟩
 case bq d' x =>
  simp only [mt1, Bool.and_eq_true, slotOk_iff] at hm
  obtain ⟨⟨h1, h2⟩, hm⟩ := hm
  split at hm <;> (try cases hm)
  rename_i s t x' hop
  simp only [Bool.and_eq_true] at hm
  obtain ⟨⟨hs, ht⟩, hx⟩ := hm
  have hx := mX_sound h hx
  have ht' : P.underlying t = some .string := by split at ht <;> simp_all
  obtain ⟨e, hs', he', hsz⟩ : ∃ e, P.underlying s = some (.slice e) ∧ P.underlying e = some (.int .u8) ∧ sz? P e = some 1 := by
   split at hs <;> (try cases hs)
   rename_i e hse
   split at hs <;> (try cases hs)
   rename_i hue
   exact ⟨e, hse, hue, by simpa using hs⟩
  split at he
  ·rename_i str hb
   have hb := bytesA_nil (bx := σ.bx) hb
   simp only [Option.some.injEq, Prod.mk.injEq] at he
   obtain ⟨rfl, rfl⟩ := he
   refine ⟨h1, h2, .string ⟨str.toArray⟩, ?_, by simp [PR]⟩
   unfold execOp
   simp only [hop]
   have := b2s_sound (P := P) h hx hb
   have hr : (convert s t (a.eval x')).run P w = (Conv.bytesToString (a.eval x')).run P w := by
    rcases b2s_shape hx hb with hn | ⟨ad, n, c, hn⟩
    ·rw [hn]; simp [convert, run_underlying hs', run_underlying ht', run_underlying he']
    ·rw [hn]; simp [convert, run_underlying hs', run_underlying ht', run_underlying he']
   simp only [Sem.run_bind, hr, this, Result.andThen_ok, Sem.run_pure]
  ·cases he
 case b2s d' x =>
  simp only [mt1, Bool.and_eq_true, slotOk_iff] at hm
  obtain ⟨⟨h1, h2⟩, hm⟩ := hm
  split at hm <;> (try cases hm)
  rename_i s t x' hop
  simp only [Bool.and_eq_true] at hm
  obtain ⟨⟨hs, ht⟩, hx⟩ := hm
  have hx := mX_sound h hx
  have ht' : P.underlying t = some .string := by split at ht <;> simp_all
  obtain ⟨e, hs', he', hsz⟩ : ∃ e, P.underlying s = some (.slice e) ∧ P.underlying e = some (.int .u8) ∧ sz? P e = some 1 := by
   split at hs <;> (try cases hs)
   rename_i e hse
   split at hs <;> (try cases hs)
   rename_i hue
   exact ⟨e, hse, hue, by simpa using hs⟩
  split at he
  ·rename_i str hb
   simp only [Option.some.injEq, Prod.mk.injEq] at he
   obtain ⟨rfl, rfl⟩ := he
   refine ⟨h1, h2, .string ⟨str.toArray⟩, ?_, by simp [PR]⟩
   unfold execOp
   simp only [hop]
   have := b2s_sound (P := P) h hx hb
   have hr : (convert s t (a.eval x')).run P w = (Conv.bytesToString (a.eval x')).run P w := by
    rcases b2s_shape hx hb with hn | ⟨ad, n, c, hn⟩
    ·rw [hn]; simp [convert, run_underlying hs', run_underlying ht', run_underlying he']
    ·rw [hn]; simp [convert, run_underlying hs', run_underlying ht', run_underlying he']
   simp only [Sem.run_bind, hr, this, Result.andThen_ok, Sem.run_pure]
  ·cases he
 case mpl d' x =>
  simp only [mt1, Bool.and_eq_true, slotOk_iff] at hm
  obtain ⟨⟨h1, h2⟩, hm⟩ := hm
  split at hm <;> (try cases hm)
  rename_i as ts hop
  split at hm <;> (try cases hm)
  rename_i x' t has hts
  simp only [Bool.and_eq_true] at hm
  have hx := mX_sound h hm.2
  obtain ⟨kt, et, ht'⟩ : ∃ kt et, P.underlying t = some (.map kt et) := by
   have := hm.1
   split at this <;> simp_all
  have has' : as = #[x'] := by cases as; simp_all
  have hts' : ts = #[t] := by cases ts; simp_all
  subst has'; subst hts'
  split at he
  ·rename_i b es hb
   simp only [Option.some.injEq, Prod.mk.injEq] at he
   obtain ⟨rfl, rfl⟩ := he
   obtain ⟨g, z, _, hx, _, _, e3, _⟩ := mapOf_sound h hb hx
   refine ⟨h1, h2, .int .i64 es.length, ?_, by simp [PR]⟩
   unfold execOp
   simp [hop, resolve, invoke, builtin, hx, Builtin.len_, run_underlying ht', goInt, MapKept.run_getObj_map e3, mapEnts]
  ·cases he
 case mlk d' q z m k ok =>
  simp only [mt1, Bool.and_eq_true, slotOk_iff] at hm
  obtain ⟨⟨h1, h2⟩, hm⟩ := hm
  split at hm <;> (try cases hm)
  rename_i t m' k' ok' hop
  simp only [Bool.and_eq_true, beq_iff_eq] at hm
  obtain ⟨⟨⟨ht, rfl⟩, hmm⟩, hkk⟩ := hm
  split at ht <;> (try cases ht)
  rename_i kt et ht'
  simp only [Bool.and_eq_true] at ht
  obtain ⟨d, hd, hq⟩ := fkT_sound ht.1
  have hz := mkZ_sound (w := w) ht.2
  have hx := mX_sound h hmm
  have hy := mX_sound h hkk
  split at he
  ·rename_i b es key hb hk
   obtain ⟨g, z', _, hx, _, _, e3, _⟩ := mapOf_sound h hb hx
   have hy := mkk_PR hk hy
   split at he
   ·rename_i i v hf
    simp only [Option.some.injEq, Prod.mk.injEq] at he
    obtain ⟨rfl, rfl⟩ := he
    have h3 := (find_sound hq hk es 0 hf).1
    refine ⟨h1, h2, if ok = true then .tuple #[v.val, .bool true] else v.val, ?_, ?_⟩
    ·unfold execOp
     have := MapKept.run_findKey (P := P) (w := w) (kt := kt) hd h3
     cases ok <;> simp [hop, Instr.lookup, run_underlying ht', hx, hy, MapKept.run_getObj_map e3, run_checkKey' hd hq, mapEnts_eq, this, Result.andThen]
    ·cases ok
     ·exact av_PR v
     ·simp only [if_true, PR, PRlist]
      exact ⟨_, rfl, _, _, rfl, av_PR v, _, _, rfl, rfl, rfl⟩
   ·rename_i hf
    simp only [Option.some.injEq, Prod.mk.injEq] at he
    obtain ⟨rfl, rfl⟩ := he
    have h3 := (find_sound hq hk es 0 hf).1
    refine ⟨h1, h2, if ok = true then .tuple #[z.val, .bool false] else z.val, ?_, ?_⟩
    ·unfold execOp
     have := MapKept.run_findKey (P := P) (w := w) (kt := kt) hd h3
     cases ok <;> simp [hop, Instr.lookup, run_underlying ht', hx, hy, MapKept.run_getObj_map e3, run_checkKey' hd hq, mapEnts_eq, this, Result.andThen, hz]
    ·cases ok
     ·exact av_PR z
     ·simp only [if_true, PR, PRlist]
      exact ⟨_, rfl, _, _, rfl, av_PR z, _, _, rfl, rfl, rfl⟩
   ·cases he
  ·cases he
 case mn d' x y =>
  simp only [mt1, Bool.and_eq_true, slotOk_iff] at hm
  obtain ⟨⟨h1, h2⟩, hm⟩ := hm
  split at hm <;> (try cases hm)
  rename_i as ts hop
  split at hm <;> (try cases hm)
  rename_i x' y' has
  simp only [Bool.and_eq_true] at hm
  have hx := mX_sound h hm.1
  have hy := mX_sound h hm.2
  have has' : as = #[x', y'] := by cases as; simp_all
  subst has'
  split at he
  ·rename_i k n k' n' hb hc
   simp only [Option.some.injEq, Prod.mk.injEq] at he
   obtain ⟨rfl, rfl⟩ := he
   rw [hb] at hx; rw [hc] at hy
   simp only [PR] at hx hy
   exact ⟨h1, h2, _, by unfold execOp; simp [hop, resolve, invoke, builtin, hx, hy, Builtin.min_, Builtin.min2]; rfl, by simp [PR]⟩
  ·cases he
 case mx d' x y =>
  simp only [mt1, Bool.and_eq_true, slotOk_iff] at hm
  obtain ⟨⟨h1, h2⟩, hm⟩ := hm
  split at hm <;> (try cases hm)
  rename_i as ts hop
  split at hm <;> (try cases hm)
  rename_i x' y' has
  simp only [Bool.and_eq_true] at hm
  have hx := mX_sound h hm.1
  have hy := mX_sound h hm.2
  have has' : as = #[x', y'] := by cases as; simp_all
  subst has'
  split at he
  ·rename_i k n k' n' hb hc
   simp only [Option.some.injEq, Prod.mk.injEq] at he
   obtain ⟨rfl, rfl⟩ := he
   rw [hb] at hx; rw [hc] at hy
   simp only [PR] at hx hy
   exact ⟨h1, h2, _, by unfold execOp; simp [hop, resolve, invoke, builtin, hx, hy, Builtin.max_, Builtin.max2]; rfl, by simp [PR]⟩
  ·cases he
 case nc d' x =>
  simp only [mt1, Bool.and_eq_true, slotOk_iff] at hm
  obtain ⟨⟨h1, h2⟩, hm⟩ := hm
  split at hm <;> (try cases hm)
  rename_i x' hop
  have hx := mX_sound h hm
  split at he
  ·rename_i b o hb
   simp only [Option.some.injEq, Prod.mk.injEq] at he
   obtain ⟨rfl, rfl⟩ := he
   rw [hb] at hx
   have hx' := hx
   simp only [PR] at hx
   obtain ⟨g, z, hg, hit, hx⟩ := hx
   exact ⟨h1, h2, a.eval x', by unfold execOp; simp [hop, hx], hx'⟩
  ·rename_i cs hb
   simp only [Option.some.injEq, Prod.mk.injEq] at he
   obtain ⟨rfl, rfl⟩ := he
   rw [hb] at hx
   have hx' := hx
   simp only [PR] at hx
   obtain ⟨g, o, hx, _⟩ := hx
   exact ⟨h1, h2, a.eval x', by unfold execOp; simp [hop, hx], hx'⟩
  ·cases he
end Go.Ai
