/- YtbepaingfmlpeaaAiCore: part of the abstract interpreter library (values, rules, soundness against the model) or of what a function of the seat computes. Conditions: as each theorem says. -/
import Derived.WalkKit
import Derived.Laws.StructEq
import Derived.Orders
namespace Go.Ai
/-- Abstract values: data, no addresses but those of boxes of the running function. -/
inductive AV where
  | undef
  | int (k : IntKind) (n : Int)
  | bool (b : Bool)
  | str (s : List UInt8)
  | nils
  | sl (rows : List (List AV))
  | pin (cs : List AV)
  | ptr (d off : Nat)
  | ms (d n sz : Nat)
  | nilp
  | agg (cs : List AV)
  | tup (vs : List AV)
  deriving Inhabited

inductive FK where
  | b | i | s
  deriving DecidableEq

inductive X where
  | s (t : Nat)
  | c (v : AV)

/-- Places that may hold a slice whose array is the running function's own. -/
inductive Pl where
  | s (t : Nat)
  | b (d off : Nat)
  deriving DecidableEq

structure St where
  e : List (Nat × AV)
  bx : List (Nat × List AV)
  pm : List (Pl × Nat)

def lk : List (Nat × AV) → Nat → AV
  | [], _ => .undef
  | (k, v) :: r, t => if k = t then v else lk r t
def lkB : List (Nat × List AV) → Nat → Option (List AV)
  | [], _ => none
  | (k, v) :: r, t => if k = t then some v else lkB r t
def stB : List (Nat × List AV) → Nat → List AV → List (Nat × List AV)
  | [], _, _ => []
  | (k, v) :: r, d, cs => if k = d then (k, cs) :: r else (k, v) :: stB r d cs
def lkP : List (Pl × Nat) → Pl → Option Nat
  | [], _ => none
  | (q, k) :: r, p => if q = p then some k else lkP r p
def dl : List (Pl × Nat) → Pl → List (Pl × Nat)
  | [], _ => []
  | (q, k) :: r, p => if q = p then dl r p else (q, k) :: dl r p

/-- Without the places 'off' to 'off + n' of box 'd'. -/
def dlr : List (Pl × Nat) → Nat → Nat → Nat → List (Pl × Nat)
  | [], _, _, _ => []
  | (.b e o, k) :: r, d, off, n => if e = d ∧ off ≤ o ∧ o < off + n then dlr r d off n else (.b e o, k) :: dlr r d off n
  | (.s t, k) :: r, d, off, n => (.s t, k) :: dlr r d off n

def St.v (σ : St) : X → AV
  | .s t => lk σ.e t
  | .c v => v
def St.put (σ : St) (d : Nat) (v : AV) : St := ⟨(d, v) :: σ.e, σ.bx, dl σ.pm (.s d)⟩
def St.puto (σ : St) (d : Nat) (v : AV) (k : Nat) : St := ⟨(d, v) :: σ.e, σ.bx, (.s d, k) :: dl σ.pm (.s d)⟩

/-- Operations, their types resolved. -/
inductive AOp where
  | mv (d : Nat) (x : X)
  | mo (d s : Nat)
  | pk (d : Nat) (c a b : X)
  | bi (d : Nat) (op : BinOp) (x y : X)
  | bb (d : Nat) (neg : Bool) (x y : X)
  | ea (d : Nat) (neg : Bool) (ks : List FK) (x y : X)
  | un (d : Nat) (op : UnOp) (x : X)
  | cv (d : Nat) (k : IntKind) (x : X)
  | ln (d : Nat) (x : X)
  | lns (d : Nat) (x : X)
  | slc (d : Nat) (sz : Nat) (x : X) (lo hi : Option X)
  | sls (d : Nat) (x : X) (lo hi : Option X)
  | fa (d : Nat) (x : X) (off : Nat)
  | ia (d sz : Nat) (x i : X)
  | iaa (d sz n : Nat) (x i : X)
  | lds (d : Nat) (x : X)
  | lda (d n : Nat) (x : X)
  | st (n : Nat) (x v : X)
  | lo (d : Nat) (x : X)
  | so (x : X) (s : Nat)
  | al (d : Nat) (z : List AV)
  | bx (d : Nat) (x : X)
  | bd (d : Nat) (z : List AV) (ps : List (Nat × Nat × X))
  | bs (d sz : Nat) (ps : List X)
  | fls (d off : Nat) (x : X)
  | fla (d off n : Nat) (x : X)
  | ixs (d : Nat) (x i : X)
  | ex (d : Nat) (x : X) (i : Nat)
  | cl (d f : Nat) (xs : List X)
  | ap (d sz bytes : Nat) (s : X) (y : X)
  | mk (d sz bytes : Nat) (z : List AV) (l c : X)
  | mn (d : Nat) (x y : X)
  | mx (d : Nat) (x y : X)
  | nc (d : Nat) (x : X)
  | no
  | gd (s : Nat) (b : Bool) (d : Nat) (o : AOp)

/-- A value as cells. -/
def AV.cs : AV → Option (List AV)
  | .undef => none
  | .tup _ => none
  | .agg cs => some cs
  | v => some [v]

mutual
/-- What leaves the function: boxes' addresses do not. -/
def shut : AV → Option AV
  | .undef => none
  | .nils => some (.sl [])
  | .ptr _ _ => none
  | .ms _ _ _ => none
  | .agg cs => (shutL cs).map .agg
  | .tup cs => (shutL cs).map .tup
  | v => some v
def shutL : List AV → Option (List AV)
  | [] => some []
  | v :: r => match shut v, shutL r with
    | some v', some r' => some (v' :: r')
    | _, _ => none
end

/-- Two operands: integers, strings. -/
def bin (op : BinOp) : AV → AV → Option AV
  | .int k a, .int k' b =>
    match op with
    | .add => if k = k' then some (.int k (k.wrap (a + b))) else none
    | .sub => if k = k' then some (.int k (k.wrap (a - b))) else none
    | .mul => if k = k' then some (.int k (k.wrap (a * b))) else none
    | .quo => if k = k' ∧ b ≠ 0 then some (.int k (k.wrap (a.tdiv b))) else none
    | .rem => if k = k' ∧ b ≠ 0 then some (.int k (a.tmod b)) else none
    | .shl => if 0 ≤ b then some (.int k (k.wrap (a * 2 ^ (min b.toNat k.bits)))) else none
    | .shr => if 0 ≤ b then some (.int k (a.fdiv (2 ^ (min b.toNat k.bits)))) else none
    | .eql => if k = k' then some (.bool (a == b)) else none
    | .neq => if k = k' then some (.bool (a != b)) else none
    | .lss => if k = k' then some (.bool (decide (a < b))) else none
    | .leq => if k = k' then some (.bool (decide (a ≤ b))) else none
    | .gtr => if k = k' then some (.bool (decide (b < a))) else none
    | .geq => if k = k' then some (.bool (decide (b ≤ a))) else none
    | op => if k = k' then some (.int k (bits op k a b)) else none
  | .str a, .str b =>
    match op with
    | .add => if a.length + b.length ≤ 9223372036854775807 then some (.str (a ++ b)) else none
    | .eql => some (.bool (a == b))
    | .neq => some (.bool (!(a == b)))
    | .lss => some (.bool (Op.bytesLess a b))
    | .leq => some (.bool (Op.bytesLess a b || a == b))
    | .gtr => some (.bool (!(Op.bytesLess a b || a == b)))
    | .geq => some (.bool (!(Op.bytesLess a b)))
    | _ => none
  | _, _ => none

def cellEq : FK → AV → AV → Option Bool
  | .i, .int k a, .int k' b => if k = k' then some (a == b) else none
  | .b, .bool a, .bool b => some (a == b)
  | .s, .str a, .str b => some (a == b)
  | _, _, _ => none
def cellsEq : List FK → List AV → List AV → Option Bool
  | [], [], [] => some true
  | k :: ks, a :: r, b :: s => match cellEq k a b, cellsEq ks r s with
    | some x, some y => some (x && y)
    | _, _ => none
  | _, _, _ => none

/-- 'vs' laid into 'z' from 'off' on. -/
def fillA (z : List AV) (off : Nat) (vs : List AV) : List AV := z.take off ++ vs ++ z.drop (off + vs.length)

def buildA (σ : St) : List (Nat × Nat × X) → List AV → Option (List AV)
  | [], z => some z
  | (off, n, x) :: r, z => match (σ.v x).cs with
    | some cs => if cs.length = n ∧ off + n ≤ z.length then buildA σ r (fillA z off cs) else none
    | none => none

def rowsOf (σ : St) (sz : Nat) : List X → Option (List (List AV))
  | [] => some []
  | x :: r => match (σ.v x).cs with
    | some cs => match shutL cs, rowsOf σ sz r with
      | some cs, some rs => if cs.length = sz then some (cs :: rs) else none
      | _, _ => none
    | none => none

def loadS (bx : List (Nat × List AV)) : AV → Option AV
  | .ptr d off => match lkB bx d with
    | some cs => cs[off]?
    | none => none
  | .pin cs => cs[0]?
  | _ => none
def loadN (bx : List (Nat × List AV)) (n : Nat) : AV → Option AV
  | .ptr d off => match lkB bx d with
    | some cs => if off + n ≤ cs.length then some (.agg ((cs.drop off).take n)) else none
    | none => none
  | .pin cs => if n ≤ cs.length then some (.agg (cs.take n)) else none
  | _ => none

/-- Pure operations and those that only read: the slot and the value. -/
def ev (σ : St) : AOp → Option (Nat × AV)
  | .mv d x => some (d, σ.v x)
  | .pk d c a b => match σ.v c with
    | .bool t => some (d, if t = true then σ.v a else σ.v b)
    | _ => none
  | .bi d op x y => match bin op (σ.v x) (σ.v y) with
    | some v => some (d, v)
    | none => none
  | .bb d neg x y => match σ.v x, σ.v y with
    | .bool a, .bool b => some (d, .bool (if neg = true then a != b else a == b))
    | _, _ => none
  | .ea d neg ks x y => match σ.v x, σ.v y with
    | .agg a, .agg b => match cellsEq ks a b with
      | some t => some (d, .bool (if neg = true then !t else t))
      | none => none
    | _, _ => none
  | .un d op x => match op, σ.v x with
    | .not, .bool b => some (d, .bool (!b))
    | .neg, .int k n => some (d, .int k (k.wrap (0 - n)))
    | _, _ => none
  | .cv d k x => match σ.v x with
    | .int _ n => some (d, .int k (k.wrap n))
    | _ => none
  | .lns d x => match σ.v x with
    | .str s => some (d, .int .i64 s.length)
    | _ => none
  | .ln d x => match σ.v x with
    | .sl rows => some (d, .int .i64 rows.length)
    | .nils => some (d, .int .i64 0)
    | .ms _ n _ => some (d, .int .i64 n)
    | _ => none
  | .fa d x off => match σ.v x with
    | .ptr b o => some (d, .ptr b (o + off))
    | .pin cs => some (d, .pin (cs.drop off))
    | _ => none
  | .ia d sz x i => match σ.v x, σ.v i with
    | .sl rows, .int _ n =>
      if 0 ≤ n then match rows[n.toNat]? with
        | some row => if row.length = sz then some (d, .pin row) else none
        | none => none
      else none
    | .ms b n k, .int _ i => if 0 ≤ i ∧ i < n ∧ k = sz then some (d, .ptr b (i.toNat * sz)) else none
    | _, _ => none
  | .iaa d sz n x i => match σ.v x, σ.v i with
    | .ptr b o, .int _ i => if 0 ≤ i ∧ i < n then some (d, .ptr b (o + i.toNat * sz)) else none
    | _, _ => none
  | .lds d x => match loadS σ.bx (σ.v x) with
    | some v => some (d, v)
    | none => none
  | .lda d n x => match loadN σ.bx n (σ.v x) with
    | some v => some (d, v)
    | none => none
  | .bd d z ps => match buildA σ ps z with
    | some cs => some (d, .agg cs)
    | none => none
  | .fls d off x => match σ.v x with
    | .agg cs => match cs[off]? with
      | some v => some (d, v)
      | none => none
    | _ => none
  | .fla d off n x => match σ.v x with
    | .agg cs => if off + n ≤ cs.length then some (d, .agg ((cs.drop off).take n)) else none
    | _ => none
  | .ixs d x i => match σ.v x, σ.v i with
    | .str s, .int _ n => if 0 ≤ n then match s[n.toNat]? with
        | some b => some (d, .int .u8 b.toNat)
        | none => none
      else none
    | _, _ => none
  | .ex d x i => match σ.v x with
    | .tup vs => match vs[i]? with
      | some v => some (d, v)
      | none => none
    | _ => none
  | .mn d x y => match σ.v x, σ.v y with
    | .int k a, .int _ b => some (d, .int k (if b < a then b else a))
    | _, _ => none
  | .mx d x y => match σ.v x, σ.v y with
    | .int k a, .int _ b => some (d, .int k (if a < b then b else a))
    | _, _ => none
  | .nc d x => match σ.v x with
    | .ptr b o => some (d, .ptr b o)
    | .pin cs => some (d, .pin cs)
    | _ => none
  | _ => none

def lim : Nat := 140737488355328

def bnd (σ : St) (dflt : Nat) : Option X → Option Int
  | none => some dflt
  | some x => match σ.v x with
    | .int _ n => some n
    | _ => none

section
variable (S : Nat → List AV → AV → Prop)
/-- One operation. -/
def wp1 : AOp → (St → Prop) → St → Prop
  | .mo d s, K, σ => match lkP σ.pm (.s s) with
    | some k => K ⟨(d, lk σ.e s) :: σ.e, σ.bx, (.s d, k) :: dl (dl σ.pm (.s s)) (.s d)⟩
    | none => K (σ.put d (lk σ.e s))
  | .al d z, K, σ => match lkB σ.bx d with
    | none => K ⟨(d, .ptr d 0) :: σ.e, (d, z) :: σ.bx, dl σ.pm (.s d)⟩
    | some _ => False
  | .bx d x, K, σ => match lkB σ.bx d with
    | none => match (σ.v x).cs with
      | some cs => K ⟨(d, .ptr d 0) :: σ.e, (d, cs) :: σ.bx, dl σ.pm (.s d)⟩
      | none => False
    | some _ => False
  | .bs d sz ps, K, σ => match rowsOf σ sz ps with
    | some rows => K (σ.puto d (.sl rows) sz)
    | none => False
  | .st n x v, K, σ => match σ.v x with
    | .ptr d off => match lkB σ.bx d with
      | some cs => match (σ.v v).cs with
        | some vs => vs.length = n ∧ off + n ≤ cs.length ∧ K ⟨σ.e, stB σ.bx d (fillA cs off vs), dlr σ.pm d off n⟩
        | none => False
      | none => False
    | _ => False
  | .lo d x, K, σ => match σ.v x with
    | .ptr b off => match lkB σ.bx b with
      | some cs => match cs[off]? with
        | some v => match lkP σ.pm (.b b off) with
          | some k => K ⟨(d, v) :: σ.e, σ.bx, (.s d, k) :: dl (dl σ.pm (.b b off)) (.s d)⟩
          | none => K (σ.put d v)
        | none => False
      | none => False
    | .pin cs => match cs[0]? with
      | some v => K (σ.put d v)
      | none => False
    | _ => False
  | .so x s, K, σ => match σ.v x with
    | .ptr d off => match lkB σ.bx d with
      | some cs => match lkP σ.pm (.s s) with
        | some k => off < cs.length ∧ K ⟨σ.e, stB σ.bx d (cs.set off (lk σ.e s)), (.b d off, k) :: dl (dl σ.pm (.s s)) (.b d off)⟩
        | none => match (lk σ.e s).cs with
          | some vs => vs.length = 1 ∧ off + 1 ≤ cs.length ∧ K ⟨σ.e, stB σ.bx d (fillA cs off vs), dlr σ.pm d off 1⟩
          | none => False
      | none => False
    | _ => False
  | .ap d sz bytes s y, K, σ => match shut (σ.v y) with
    | some (.sl news) => (match σ.v s, s with
      | .sl rows, .s t => lkP σ.pm (.s t) = some sz ∧ (rows.length + news.length) * bytes ≤ lim ∧ (∀ r ∈ rows, r.length = sz) ∧ (∀ r ∈ news, r.length = sz) ∧ K ⟨(d, .sl (rows ++ news)) :: σ.e, σ.bx, (.s d, sz) :: dl (dl σ.pm (.s t)) (.s d)⟩
      | .nils, _ => news.length * bytes ≤ lim ∧ (∀ r ∈ news, r.length = sz) ∧ K (σ.puto d (.sl news) sz)
      | _, _ => False)
    | _ => False
  | .mk d sz bytes z l c, K, σ => match σ.v l, σ.v c with
    | .int _ l, .int _ c => 0 ≤ l ∧ l ≤ c ∧ c * bytes ≤ lim ∧ K (σ.puto d (.sl (List.replicate l.toNat z)) sz)
    | _, _ => False
  | .sls d x lo hi, K, σ => match σ.v x with
    | .str s => match bnd σ 0 lo, bnd σ s.length hi with
      | some l, some h => 0 ≤ l ∧ l ≤ h ∧ h ≤ s.length ∧ K (σ.put d (.str ((s.take h.toNat).drop l.toNat)))
      | _, _ => False
    | _ => False
  | .slc d sz x lo hi, K, σ => match σ.v x with
    | .sl rows => match bnd σ 0 lo, bnd σ rows.length hi with
      | some l, some h => 0 ≤ l ∧ l ≤ h ∧ h ≤ rows.length ∧ (∀ r ∈ rows, r.length = sz) ∧ K (σ.put d (.sl ((rows.take h.toNat).drop l.toNat)))
      | _, _ => False
    | _ => False
  | .cl d f xs, K, σ => match shutL (xs.map σ.v) with
    | some as => ∃ r, S f as r ∧ K (σ.put d r)
    | none => False
  | .gd s b d o, K, σ => match lk σ.e s with
    | .bool t => if t = b then wp1 o K σ else K (σ.put d .undef)
    | _ => False
  | o, K, σ => match ev σ o with
    | some (d, v) => K (σ.put d v)
    | none => False

def wpL : List AOp → (St → Prop) → St → Prop
  | [], K, σ => K σ
  | o :: r, K, σ => wp1 S o (wpL r K) σ

/-- The box that an operation touches or reads. -/
def bid (σ : St) : AOp → Option Nat
  | .lds _ x => match σ.v x with | .ptr b _ => some b | _ => none
  | .lda _ _ x => match σ.v x with | .ptr b _ => some b | _ => none
  | .st _ x _ => match σ.v x with | .ptr b _ => some b | _ => none
  | .lo _ x => match σ.v x with | .ptr b _ => some b | _ => none
  | .so x _ => match σ.v x with | .ptr b _ => some b | _ => none
  | .al d _ => some d
  | .bx d _ => some d
  | .gd s b _ o => match lk σ.e s with
    | .bool t => if t = b then bid σ o else none
    | _ => none
  | _ => none
/-- No operation of 'u' has touched box 'b'. -/
def offH : List (Nat × Nat) → List Nat → Nat → Prop
  | [], _, _ => True
  | (i, b') :: h, u, b => (i ∈ u → b' ≠ b) ∧ offH h u b
def offO (h : List (Nat × Nat)) (u : List Nat) : Option Nat → Prop
  | none => True
  | some b => offH h u b
def addH (h : List (Nat × Nat)) (j : Nat) : Option Nat → List (Nat × Nat)
  | none => h
  | some b => (j, b) :: h
/-- A region that draws its order: 'u' lists, for each operation, those ahead of it that may come behind it and must not touch its box. -/
def wpLd : List (List Nat) → List AOp → Nat → List (Nat × Nat) → (St → Prop) → St → Prop
  | u :: us, o :: r, j, h, K, σ => offO h u (bid σ o) ∧ wp1 S o (wpLd us r (j + 1) (addH h j (bid σ o)) K) σ
  | [], [], _, _, K, σ => K σ
  | _, _, _, _, _, _ => False

inductive AC where
  | sk
  | rg (l : List AOp)
  | rd (us : List (List Nat)) (l : List AOp)
  | sq (a b : AC)
  | cd (x : X) (a b : AC)
  | bl (i : Nat) (a : AC)
  | lp (a : AC)
  | ex (i : Nat)
  | rt

inductive AE where
  | n
  | x (i : Nat)
  | r

mutual
/-- The boxes that a value names. -/
def AV.ids : AV → List Nat
  | .ptr d _ => [d]
  | .ms d _ _ => [d]
  | .agg cs => idsL cs
  | .tup cs => idsL cs
  | _ => []
def idsL : List AV → List Nat
  | [] => []
  | v :: r => v.ids ++ idsL r
end
def Pl.ids : Pl → List Nat
  | .s _ => []
  | .b d _ => [d]

/-- The same, or nil told as an empty slice. -/
def wk (v u : AV) : Prop := v = u ∨ (v = .nils ∧ u = .sl [])
def wkL : List AV → List AV → Prop
  | [], [] => True
  | v :: r, u :: s => wk v u ∧ wkL r s
  | _, _ => False
def wkB (l : List (Nat × List AV)) (d : Nat) (cs : List AV) : Prop :=
  match lkB l d with
  | some cs' => wkL cs' cs
  | none => False
def nilAt (σ : St) : Pl → Prop
  | .s t => lk σ.e t = .nils
  | .b d off => match lkB σ.bx d with
    | some cs => cs[off]? = some .nils
    | none => False
/-- What a loop's head keeps. -/
structure Weak (σ τ : St) : Prop where
  e : ∀ p ∈ τ.e, wk (lk σ.e p.1) p.2
  b : ∀ p ∈ τ.bx, wkB σ.bx p.1 p.2
  p : ∀ p ∈ τ.pm, lkP σ.pm p.1 = some p.2 ∨ nilAt σ p.1
  ei : ∀ p ∈ τ.e, ∀ d ∈ p.2.ids, (lkB τ.bx d).isSome
  bi : ∀ p ∈ τ.bx, ∀ d ∈ idsL p.2, (lkB τ.bx d).isSome
  pi : ∀ p ∈ τ.pm, ∀ d ∈ p.1.ids, (lkB τ.bx d).isSome

def AE.sq (B : St → Prop) (Q : AE → St → Prop) : AE → St → Prop
  | .n, σ => B σ
  | .x i, σ => Q (.x i) σ
  | .r, σ => Q .r σ
def AE.bl (i : Nat) (Q : AE → St → Prop) : AE → St → Prop
  | .n, σ => Q .n σ
  | .x j, σ => if j = i then Q .n σ else Q (.x j) σ
  | .r, σ => Q .r σ

def itA (F : (AE → St → Prop) → St → Prop) (Q : AE → St → Prop) : Nat → St → Prop
  | 0, _ => False
  | n + 1, σ => ∃ τ, Weak σ τ ∧ F (AE.sq (itA F Q n) Q) τ

def wpA : AC → (AE → St → Prop) → St → Prop
  | .sk, Q, σ => Q .n σ
  | .rg l, Q, σ => wpL S l (Q .n) σ
  | .rd us l, Q, σ => wpLd S us l 0 [] (Q .n) σ
  | .sq a b, Q, σ => wpA a (AE.sq (wpA b Q) Q) σ
  | .cd x a b, Q, σ => match σ.v x with
    | .bool t => if t = true then wpA a Q σ else wpA b Q σ
    | _ => False
  | .bl i a, Q, σ => wpA a (AE.bl i Q) σ
  | .lp a, Q, σ => ∃ n, itA (wpA a) Q n σ
  | .ex i, Q, σ => Q (.x i) σ
  | .rt, Q, σ => Q .r σ
end
end Go.Ai
