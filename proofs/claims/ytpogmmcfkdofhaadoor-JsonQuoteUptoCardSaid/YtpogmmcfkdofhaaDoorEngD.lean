/-
  Operations that compute on values alone: moves, numbers, bools, strings; their reckoning and that it speaks true.
-/
import Derived.Test.YtpogmmcfkdofhaaDoorEngC
import Derived.Laws.Entries
import Derived.Laws.Cells
namespace Go.Eng

/-! ### What is left to whoever proves: markers -/

/-- A bool that is known only as a term: both ways. -/
def BIf (t : Bool) (A B : Prop) : Prop := match t with | true => A | false => B
theorem BIf.out {t : Bool} {A B : Prop} (h : BIf t A B) : (t = true ∧ A) ∨ (t = false ∧ B) := by
  cases t
  · exact .inr ⟨rfl, h⟩
  · exact .inl ⟨rfl, h⟩

/-- A comparison's outcome. -/
structure CmpK (p : Bool) (K : Bool → Prop) : Prop where
  out : K p
theorem cmp_dec {q : Prop} [Decidable q] {K : Bool → Prop} (h1 : q → K true) (h2 : ¬ q → K false) : CmpK (decide q) K := by
  constructor
  by_cases h : q
  · rw [decide_eq_true h]; exact h1 h
  · rw [decide_eq_false h]; exact h2 h
theorem cmp_yes {q : Prop} [Decidable q] {K : Bool → Prop} (h : q) (h1 : K true) : CmpK (decide q) K := by constructor; rw [decide_eq_true h]; exact h1
theorem cmp_no {q : Prop} [Decidable q] {K : Bool → Prop} (h : ¬ q) (h1 : K false) : CmpK (decide q) K := by constructor; rw [decide_eq_false h]; exact h1
theorem cmp_keep {p : Bool} {K : Bool → Prop} (h : K p) : CmpK p K := ⟨h⟩
theorem cmp_is {p : Bool} (t : Bool) {K : Bool → Prop} (h : p = t) (h1 : K t) : CmpK p K := ⟨by rw [h]; exact h1⟩

/-- A number that may wrap. -/
structure ArK (k : IntKind) (e : Int) (K : Int → Prop) : Prop where
  out : K (k.wrap e)
theorem ar_wrap {k : IntKind} {e : Int} {K : Int → Prop} (h : K (k.wrap e)) : ArK k e K := ⟨h⟩
theorem wrap_id64 {e : Int} (h1 : -9223372036854775808 ≤ e) (h2 : e ≤ 9223372036854775807) : IntKind.i64.wrap e = e := by
  have hb : (IntKind.i64.wrap e) = e := by
    simp only [IntKind.wrap]
    rw [show ((2 : Int) ^ (IntKind.i64.bits - 1)) = 9223372036854775808 from by decide, show ((2 : Int) ^ IntKind.i64.bits) = 18446744073709551616 from by decide]
    simp [IntKind.signed]; omega
  exact hb
theorem ar {e : Int} {K : Int → Prop} (h : -9223372036854775808 ≤ e ∧ e ≤ 9223372036854775807) (h1 : K e) : ArK .i64 e K := by
  constructor; rw [wrap_id64 h.1 h.2]; exact h1
theorem ar_is {k : IntKind} {e : Int} {K : Int → Prop} (r : Int) (h : k.wrap e = r) (h1 : K r) : ArK k e K := by constructor; rw [h]; exact h1

structure DivK (y : Int) (K : Prop) : Prop where
  out : y ≠ 0 ∧ K
theorem div_ok {y : Int} {K : Prop} (h : y ≠ 0) (h1 : K) : DivK y K := ⟨h, h1⟩

/-- An index i into n places. -/
structure IdxK (i : Int) (n : Nat) (K : Nat → Prop) : Prop where
  out : ∃ j : Nat, i = (j : Int) ∧ j < n ∧ K j
theorem idx {i : Int} {n : Nat} {K : Nat → Prop} (j : Nat) (h : i = (j : Int)) (h1 : j < n) (h2 : K j) : IdxK i n K := ⟨j, h, h1, h2⟩

/-- A length that must be so. -/
structure SameK (m n : Nat) (K : Prop) : Prop where
  out : m = n ∧ K
theorem same_is {m n : Nat} {K : Prop} (h : m = n) (h1 : K) : SameK m n K := ⟨h, h1⟩

/-- An index i into a list. -/
structure GetK {β : Type} (i : Int) (l : List β) (K : Nat → β → Prop) : Prop where
  out : ∃ (j : Nat) (x : β), i = (j : Int) ∧ l[j]? = some x ∧ K j x
theorem get_at {β : Type} {i : Int} {l : List β} {K : Nat → β → Prop} (j : Nat) {x : β} (h : i = (j : Int)) (h1 : l[j]? = some x) (h2 : K j x) : GetK i l K := ⟨j, x, h, h1, h2⟩

/-- A bound i, at most n, of a slice. -/
structure BndK (i : Int) (n : Nat) (K : Nat → Prop) : Prop where
  out : ∃ j : Nat, i = (j : Int) ∧ j ≤ n ∧ K j
theorem bnd {i : Int} {n : Nat} {K : Nat → Prop} (j : Nat) (h : i = (j : Int)) (h1 : j ≤ n) (h2 : K j) : BndK i n K := ⟨j, h, h1, h2⟩

/-! ### Numbers, bools, strings -/

def boolK (a : AV) (K : Bool → Prop) : Prop := match a with | .d (.b t) => K t | _ => False
def intK (a : AV) (K : IntKind → Int → Prop) : Prop := match a with | .d (.i k n) => K k n | _ => False

def bitsOp (op : BinOp) (k : IntKind) (x y : Int) : Int :=
  match op with
  | .and => k.wrap (BitVec.ofInt k.bits x &&& BitVec.ofInt k.bits y).toNat
  | .or => k.wrap (BitVec.ofInt k.bits x ||| BitVec.ofInt k.bits y).toNat
  | .xor => k.wrap (BitVec.ofInt k.bits x ^^^ BitVec.ofInt k.bits y).toNat
  | _ => k.wrap (BitVec.ofInt k.bits x &&& ~~~ BitVec.ofInt k.bits y).toNat

def intOpK (op : BinOp) (k : IntKind) (x y : Int) (K : AV → Prop) : Prop :=
  match op with
  | .add => ArK k (x + y) fun r => K (.d (.i k r))
  | .sub => ArK k (x - y) fun r => K (.d (.i k r))
  | .mul => ArK k (x * y) fun r => K (.d (.i k r))
  | .quo => DivK y (ArK k (x.tdiv y) fun r => K (.d (.i k r)))
  | .rem => DivK y (K (.d (.i k (x.tmod y))))
  | .and => K (.d (.i k (bitsOp .and k x y)))
  | .or => K (.d (.i k (bitsOp .or k x y)))
  | .xor => K (.d (.i k (bitsOp .xor k x y)))
  | .andNot => K (.d (.i k (bitsOp .andNot k x y)))
  | .eql => CmpK (decide (x = y)) fun t => K (.d (.b t))
  | .neq => CmpK (decide (x ≠ y)) fun t => K (.d (.b t))
  | .lss => CmpK (decide (x < y)) fun t => K (.d (.b t))
  | .leq => CmpK (decide (x ≤ y)) fun t => K (.d (.b t))
  | .gtr => CmpK (decide (y < x)) fun t => K (.d (.b t))
  | .geq => CmpK (decide (y ≤ x)) fun t => K (.d (.b t))
  | _ => False

def shiftK (op : BinOp) (k : IntKind) (x y : Int) (K : AV → Prop) : Prop :=
  match op with
  | .shl => 0 ≤ y ∧ ArK k (x * 2 ^ (min y.toNat k.bits)) fun r => K (.d (.i k r))
  | .shr => 0 ≤ y ∧ K (.d (.i k (x.fdiv (2 ^ (min y.toNat k.bits)))))
  | _ => False

structure LenK (n : Nat) (K : Prop) : Prop where
  out : n ≤ 9223372036854775807 ∧ K
theorem len_ok {n : Nat} {K : Prop} (h : n ≤ 9223372036854775807) (h1 : K) : LenK n K := ⟨h, h1⟩

def strOpK (op : BinOp) (x y : List UInt8) (K : AV → Prop) : Prop :=
  match op with
  | .add => LenK (x.length + y.length) (K (.d (.s (x ++ y))))
  | .eql => CmpK (decide (x = y)) fun t => K (.d (.b t))
  | .neq => CmpK (decide (x ≠ y)) fun t => K (.d (.b t))
  | .lss => CmpK (Op.bytesLess x y) fun t => K (.d (.b t))
  | _ => False

def isShift (op : BinOp) : Bool := match op with | .shl | .shr => true | _ => false

def binK (C : Ctx) (T : TypeId) (op : BinOp) (a b : AV) (K : AV → Prop) : Prop :=
  match a, b with
  | .d (.i k x), .d (.i k' y) => match isShift op with
    | true => shiftK op k x y K
    | false => match kindB k k' with | true => intOpK op k x y K | false => False
  | .d (.s x), .d (.s y) => strOpK op x y K
  | .d (.b x), .d (.b y) => lookK C.tab T fun ti => match ti.kd with
    | .bool => match op with
      | .eql => CmpK (x == y) fun t => K (.d (.b t))
      | .neq => CmpK (x != y) fun t => K (.d (.b t))
      | _ => False
    | _ => False
  | _, _ => False

theorem intOpK_out {P : Program} {op : BinOp} {T : TypeId} {k : IntKind} {x y : Int} {K : AV → Prop} (hsh : isShift op = false) (h : intOpK op k x y K) :
    ∃ d : D, K (.d d) ∧ ∀ w X, ∃ v, (binOp op T (.int k x) (.int k y)).run P w = .ok v w ∧ Rd w X d v := by
  cases op <;> first | (simp [isShift] at hsh; done) | skip
  case add => exact ⟨_, ArK.out h, fun w X => ⟨_, by simp [binOp, Op.intArith], .i _ _⟩⟩
  case sub => exact ⟨_, ArK.out h, fun w X => ⟨_, by simp [binOp, Op.intArith], .i _ _⟩⟩
  case mul => exact ⟨_, ArK.out h, fun w X => ⟨_, by simp [binOp, Op.intArith], .i _ _⟩⟩
  case quo => exact ⟨_, ArK.out (DivK.out h).2, fun w X => ⟨_, by simp [binOp, Op.intDiv, (DivK.out h).1], .i _ _⟩⟩
  case rem => exact ⟨_, (DivK.out h).2, fun w X => ⟨_, by simp [binOp, Op.intDiv, (DivK.out h).1], .i _ _⟩⟩
  case and => exact ⟨_, h, fun w X => ⟨_, by simp [binOp, Op.intBits, bitsOp], .i _ _⟩⟩
  case or => exact ⟨_, h, fun w X => ⟨_, by simp [binOp, Op.intBits, bitsOp], .i _ _⟩⟩
  case xor => exact ⟨_, h, fun w X => ⟨_, by simp [binOp, Op.intBits, bitsOp], .i _ _⟩⟩
  case andNot => exact ⟨_, h, fun w X => ⟨_, by simp [binOp, Op.intBits, bitsOp], .i _ _⟩⟩
  case eql => exact ⟨_, CmpK.out h, fun w X => ⟨_, by simp [binOp, Op.intCmp]; rfl, .b _⟩⟩
  case neq => exact ⟨_, CmpK.out h, fun w X => ⟨_, by simp [binOp, Op.intCmp, bne]; rfl, by rw [show (!(x == y)) = decide (x ≠ y) from by simp [BEq.beq]]; exact .b _⟩⟩
  case lss => exact ⟨_, CmpK.out h, fun w X => ⟨_, by simp [binOp, Op.intCmp], .b _⟩⟩
  case leq => exact ⟨_, CmpK.out h, fun w X => ⟨_, by simp [binOp, Op.intCmp], .b _⟩⟩
  case gtr => exact ⟨_, CmpK.out h, fun w X => ⟨_, by simp [binOp, Op.intCmp], .b _⟩⟩
  case geq => exact ⟨_, CmpK.out h, fun w X => ⟨_, by simp [binOp, Op.intCmp], .b _⟩⟩

end Go.Eng
