/- AiFun: a part of the proof: the rules, or what functions compute. Conditions: as each theorem says. -/
import Derived.Test.YtidcomakahbepaaGreatDoorAiSound
set_option linter.unusedSimpArgs false
set_option linter.unusedVariables false
namespace Go.Ai
open Go.RowKit
variable {P : Program} {F : Fr} {S : Mem} {gb : Gb} {σ : St} {a : Act} {w : World}

inductive AR where
 | t (s : Nat)
 | cs (s : Nat)
 | ca (s n : Nat)

structure AF where
 c : AC
 rs : List AR
 np : Nat
 N : Nat

def resA (σ : St) : List AR → Option (List AV)
 | [] => some []
 | .t s :: r => match resA σ r with
  | some vs => some (lk σ.e s :: vs)
  | none => none
 | .cs s :: r => match loadS σ.bx (lk σ.e s), resA σ r with
  | some v, some vs => some (v :: vs)
  | _, _ => none
 | .ca s n :: r => match loadN σ.bx n (lk σ.e s), resA σ r with
  | some v, some vs => some (v :: vs)
  | _, _ => none

def oneA : List AV → AV
 | [v] => v
 | vs => .tup vs

def postA (rs : List AR) (r : AV) : AE → St → Prop
 | .x _, _ => False
 | _, σ => match resA σ rs with
  | some vs => shut (oneA vs) = some r
  | none => False

def initE : Nat → List AV → List (Nat × AV)
 | _, [] => []
 | i, v :: r => (i, v) :: initE (i + 1) r

def mRs (P : Program) : List AR → List ResultVar → Bool
 | [], [] => true
 | .t s :: r, .tmp t :: q => s == t && mRs P r q
 | .cs s :: r, .cell t T :: q => s == t && scal P T && mRs P r q
 | .ca s n :: r, .cell t T :: q => s == t && aggT P T && sz? P T == some n && mRs P r q
 | _, _ => false

def mF (P : Program) (GL : List (Nat × List Value)) (dr : Array Oper → List (List Nat) → List AOp → Bool) (fn : Func) (f : AF) : Bool :=
 fn.name != "runtime.NumGoroutine" && fn.params.size + fn.nfree == f.np && fn.ntmps == f.N && Nat.ble f.np f.N && mRs P f.rs fn.results.toList && (match fn.body with | some c => mC P GL f.N dr c f.c | none => false)

def resG (tmps : Array Value) : ResultVar → Sem Value
 | .tmp t => pure (tmps.getD t undef)
 | .cell a t => do loadVar t (← asAddr (tmps.getD a undef))
theorem results_eq (fn : Func) (tmps : Array Value) : results fn tmps = (do let vs ← fn.results.mapM (resG tmps); pure (if h : vs.size = 1 then vs[0] else .tuple vs)) := rfl

theorem res_sound (h : Rel F S gb σ a w) : ∀ {rs : List AR} {qs : List ResultVar} {vs : List AV}, mRs P rs qs = true → resA σ rs = some vs → ∀ (acc : Array Value),
  ∃ us, (qs.foldlM (fun (bs : Array Value) (q : ResultVar) => (Functor.map bs.push (resG a.tmps q) : Sem (Array Value))) acc).run P w = .ok (acc ++ us.toArray) w ∧ PRlist S gb vs us ∧ ∀ (i s : Nat), rs[i]? = some (AR.t s) → us[i]? = some (tv a s)
 | [], qs, vs, hm, hr, acc => by
  cases qs <;> simp [mRs] at hm
  simp [resA] at hr; subst hr
  exact ⟨[], by simp, by simp [PRlist], by simp⟩
 | .t s :: r, qs, vs, hm, hr, acc => by
  match qs, hm with
  | .tmp t :: q, hm =>
   simp only [mRs, Bool.and_eq_true, beq_iff_eq] at hm
   obtain ⟨rfl, hm⟩ := hm
   simp only [resA] at hr
   split at hr
   ·rename_i vs' hvs
    simp only [Option.some.injEq] at hr; subst hr
    obtain ⟨us, g1, g2, g3⟩ := res_sound h hm hvs (acc.push (a.tmps.getD s undef))
    refine ⟨a.tmps.getD s undef :: us, ?_, ⟨_, _, rfl, h.env s, g2⟩, by
     intro i s' hi
     cases i with
     | zero => simp at hi; subst hi; rfl
     | succ i => simpa using g3 i s' (by simpa using hi)⟩
    have : (resG a.tmps (.tmp s)).run P w = .ok (a.tmps.getD s undef) w := rfl
    simp only [List.foldlM_cons, Sem.run_bind, Sem.run_map, this, Result.andThen_ok]
    rw [g1]; simp
   ·cases hr
 | .cs s :: r, qs, vs, hm, hr, acc => by
  match qs, hm with
  | .cell t T :: q, hm =>
   simp only [mRs, Bool.and_eq_true, beq_iff_eq] at hm
   obtain ⟨⟨rfl, ht⟩, hm⟩ := hm
   simp only [resA] at hr
   split at hr
   ·rename_i v vs' hl hvs
    simp only [Option.some.injEq] at hr; subst hr
    obtain ⟨u, hu, hp⟩ := loadS_sound h ht hl (h.env s)
    obtain ⟨us, g1, g2, g3⟩ := res_sound h hm hvs (acc.push u)
    refine ⟨u :: us, ?_, ⟨_, _, rfl, hp, g2⟩, by
     intro i s' hi
     cases i with
     | zero => simp at hi
     | succ i => simpa using g3 i s' (by simpa using hi)⟩
    have : (resG a.tmps (.cell s T)).run P w = .ok u w := by
     show (do loadVar T (← asAddr (a.tmps.getD s undef)) : Sem Value).run P w = .ok u w
     have hu : (Instr.loadAt T (a.tmps.getD s undef)).run P w = .ok u w := hu
     generalize a.tmps.getD s undef = pv at hu ⊢
     cases pv <;> simp [Instr.loadAt, Instr.sureAddr] at hu
     rename_i ad
     cases ad <;> simp at hu
     simpa [asAddr] using hu
    simp only [List.foldlM_cons, Sem.run_bind, Sem.run_map, this, Result.andThen_ok]
    rw [g1]; simp
   ·cases hr
 | .ca s n :: r, qs, vs, hm, hr, acc => by
  match qs, hm with
  | .cell t T :: q, hm =>
   simp only [mRs, Bool.and_eq_true, beq_iff_eq] at hm
   obtain ⟨⟨⟨rfl, ht⟩, hn⟩, hm⟩ := hm
   simp only [resA] at hr
   split at hr
   ·rename_i v vs' hl hvs
    simp only [Option.some.injEq] at hr; subst hr
    obtain ⟨u, hu, hp⟩ := loadN_sound h ht hn hl (h.env s)
    obtain ⟨us, g1, g2, g3⟩ := res_sound h hm hvs (acc.push u)
    refine ⟨u :: us, ?_, ⟨_, _, rfl, hp, g2⟩, by
     intro i s' hi
     cases i with
     | zero => simp at hi
     | succ i => simpa using g3 i s' (by simpa using hi)⟩
    have : (resG a.tmps (.cell s T)).run P w = .ok u w := by
     show (do loadVar T (← asAddr (a.tmps.getD s undef)) : Sem Value).run P w = .ok u w
     have hu : (Instr.loadAt T (a.tmps.getD s undef)).run P w = .ok u w := hu
     generalize a.tmps.getD s undef = pv at hu ⊢
     cases pv <;> simp [Instr.loadAt, Instr.sureAddr] at hu
     rename_i ad
     cases ad <;> simp at hu
     simpa [asAddr] using hu
    simp only [List.foldlM_cons, Sem.run_bind, Sem.run_map, this, Result.andThen_ok]
    rw [g1]; simp
   ·cases hr

theorem lk_initE {as : List AV} {us : List Value} (h : PRlist S gb as us) : ∀ (i t : Nat), (t < i → lk (initE i as) t = .undef) ∧ (∀ j, t = i + j → PR S gb (lk (initE i as) t) (us.getD j undef)) := by
 induction as generalizing us with
 | nil => intro i t; simp [initE, lk, PR]
 | cons c r ih =>
  simp only [PRlist] at h
  obtain ⟨u, us', rfl, h1, h2⟩ := h
  intro i t
  simp only [initE, lk]
  constructor
  ·intro hlt
   rw [if_neg (by omega)]
   exact (ih h2 (i + 1) t).1 (by omega)
  ·intro j hj
   split
   ·rename_i e
    have : j = 0 := by omega
    subst this
    simpa using h1
   ·rename_i e
    have : j ≠ 0 := by omega
    obtain ⟨j', rfl⟩ : ∃ j', j = j' + 1 := ⟨j - 1, by omega⟩
    have := (ih h2 (i + 1) t).2 j' (by omega)
    simpa using this

theorem tv_init {vs : List Value} {n t : Nat} : tv { tmps := vs.toArray ++ Array.replicate n undef, defers := [] } t = vs.getD t undef := by
 simp only [tv, Array.getD_eq_getD_getElem?, Array.getElem?_append, List.getD_eq_getElem?_getD]
 split
 ·simp
 ·rename_i hge
  simp only [List.size_toArray, Nat.not_lt] at hge
  rw [List.getElem?_eq_none hge, Array.getElem?_replicate]
  split <;> simp

theorem res_run {fn : Func} {rs : List AR} (h : Rel F S gb σ a w) (h5 : mRs P rs fn.results.toList = true) {vs' : List AV} (hv : resA σ rs = some vs') :
  ∃ us : List Value, (results fn a.tmps).run P w = .ok (if h : us.toArray.size = 1 then us.toArray[0] else .tuple us.toArray) w ∧ PRlist S gb vs' us ∧ ∀ (i s : Nat), rs[i]? = some (AR.t s) → us[i]? = some (tv a s) := by
 obtain ⟨us, g1, g2⟩ := res_sound (P := P) h h5 hv #[]
 refine ⟨us, ?_, g2⟩
 rw [results_eq, Sem.run_bind, Array.mapM_eq_foldlM, ← Array.foldlM_toList]
 simp only [Array.empty_append] at g1
 rw [g1]
 simp
theorem one_PR {vs' : List AV} {us : List Value} (g2 : PRlist S gb vs' us) : PR S gb (oneA vs') (if h : us.toArray.size = 1 then us.toArray[0] else .tuple us.toArray) := by
 match vs', us, g2 with
 | [], us, g2 =>
  simp only [PRlist] at g2; subst g2
  simp only [oneA, PR]; exact ⟨#[], by simp, by simp [PRlist]⟩
 | [v], us, g2 =>
  simp only [PRlist] at g2
  obtain ⟨u, _, rfl, hp, rfl⟩ := g2
  exact hp
 | v1 :: v2 :: r', us, g2 =>
  have hl2 := g2.length
  simp only [oneA, PR]
  refine ⟨us.toArray, ?_, by simpa using g2⟩
  rw [dif_neg]
  simp only [List.length_cons] at hl2
  simp; omega

theorem PR.noids {S : Mem} {gb gb' : Gb} (v : AV) (u : Value) (h : v.ids = []) (hp : PR S gb v u) : PR S gb' v u := PR.restr v u (fun d hd => by rw [h] at hd; cases hd) hp
theorem PRlist.noids {S : Mem} {gb gb' : Gb} (v : List AV) (u : List Value) (h : idsL v = []) (hp : PRlist S gb v u) : PRlist S gb' v u := PRlist.restr v u (fun d hd => by rw [h] at hd; cases hd) hp

def gbUp (gb : Gb) : Gb := fun i => match i with
 | .up j => gb j
 | _ => none

theorem fun_sound {GL : List (Nat × List Value)} {dr : Array Oper → List (List Nat) → List AOp → Bool} {f : Nat} {fn : Func} {af : AF} (hf : P.funcs[f]? = some fn) (hm : mF P GL dr fn af = true) (hd : DrawsOk P GL af.N dr) {l : List AV} {r : AV} (hl : l.length = af.np) (hi : idsL l = [])
  (hw : wpA (Spec P GL) af.c (postA af.rs r) ⟨initE 0 l, [], []⟩) : pureS (Spec P GL) f l r := by
 intro d
 simp only [mF, Bool.and_eq_true, bne_iff_ne, beq_iff_eq] at hm
 obtain ⟨⟨⟨⟨⟨h1, h2⟩, h3⟩, h4⟩, h5⟩, h6⟩ := hm
 split at h6 <;> (try cases h6)
 rename_i c hb
 have h4 := Nat.le_of_ble_eq_true h4
 intro S gb w vs hvs hhr hglo hnw
 have hlen : vs.length = l.length := hvs.length.symm
 unfold Does
 have hcall : (callFunc f vs.toArray).run P w = .ok (.enter f vs.toArray) w := by
  simp [callFunc, hf, hb, h1]
 rw [hcall]
 refine calls_of_wp hf hb ?_
 let F : Fr := ⟨S, w, MS ⟨l, [], []⟩ gb (fun t => vs.getD t undef) w, gb, af.N, GL⟩
 have hrel : Rel F S (gbUp gb) ⟨initE 0 l, [], []⟩ { tmps := vs.toArray ++ Array.replicate (fn.ntmps - vs.toArray.size) undef, defers := [] } w := by
  refine ⟨rfl, ?_, Bw.refl _ _, fun _ _ _ _ => rfl, Mem.le.refl _, ?_, ⟨hhr.agree, ?_, ?_, ?_, ?_, ?_, ?_, ?_⟩, ?_, ?_, ?_, fun d => rfl, hglo⟩
  ·show (vs.toArray ++ Array.replicate (fn.ntmps - vs.toArray.size) undef).size = af.N
   simp; omega
  ·intro t
   have := (lk_initE (PRlist.noids (gb' := gbUp gb) _ _ hi hvs) 0 t).2 t (by omega)
   rw [tv_init]
   exact this
  ·intro d cs hcs; simp [lkB] at hcs
  ·intro d cs hcs; simp [lkB] at hcs
  ·intro d d' g z z' hg; simp [lkB] at hg
  ·intro p k hk; simp [lkP] at hk
  ·intro p q k l b hk; simp [lkP] at hk
  ·intro p k b d z hk; simp [lkP] at hk
  ·intro d off k hk; simp [lkP] at hk
  ·intro d g z hg; simp [lkB] at hg
  ·intro p k g hk; simp [lkP] at hk
  ·intro d hd
   cases d <;> simp [gbUp, Id.isUp] at hd ⊢
 refine code_sound (F := F) hd h6 (Q := postA af.rs r) ?_ hrel hw
 intro e S' gb' σ' a' w' hr hq
 have fin : ∀ vs', resA σ' af.rs = some vs' → shut (oneA vs') = some r → a'.defers = [] ∧ ∃ v, (results fn a'.tmps).run P w' = .ok v w' ∧ (∃ u, Ending.returned v = .returned u ∧ ∃ S'' gb'', PostR d ⟨l, [], []⟩ ⟨r, [], []⟩ S gb (fun t => vs.getD t undef) w S'' gb'' u w') := by
  intro vs' hv hs
  refine ⟨hr.defers, ?_⟩
  obtain ⟨us, hrun, g2, _⟩ := res_run (P := P) hr h5 hv
  refine ⟨_, hrun, _, rfl, S', gb, hr.bw, hr.ext, hr.le, fun _ _ => rfl, fun i hi hne => absurd (hnw i hi) hne, gb0to (shut_PR _ _ _ hs (one_PR g2)), ⟨hr.hr.agree, ?_, ?_, ?_, ?_, ?_, ?_, ?_⟩, ?_, ?_⟩
  ·intro d cs hcs; simp [lkB] at hcs
  ·intro d cs hcs; simp [lkB] at hcs
  ·intro d d' g z z' hg; simp [lkB] at hg
  ·intro p k hk; simp [lkP] at hk
  ·intro p q k l b hk; simp [lkP] at hk
  ·intro p k b d z hk; simp [lkP] at hk
  ·intro d off k hk; simp [lkP] at hk
  ·intro d g z hg; simp [lkB] at hg
  ·intro p k g hk; simp [lkP] at hk
 cases e
 ·simp only [postA] at hq
  split at hq
  ·rename_i vs' hv; exact fin vs' hv hq
  ·cases hq
 ·exact hq.elim
 ·simp only [postA] at hq
  split at hq
  ·rename_i vs' hv; exact fin vs' hv hq
  ·cases hq
end Go.Ai
