/-
  A data-level view of the model's memory, program independent: values that read as data (D), what a slot holds (AV), the blocks that a call owns, and the relation Sim between that view and a world. Basic lemmas.
-/
import Derived.Below
import Derived.Calls
import Derived.Orders
import Derived.Laws.Sem
namespace Go.Eng

inductive D where
  | b (t : Bool)
  | i (k : IntKind) (n : Int)
  | s (l : List UInt8)
  | sl (sz : Nat) (xs : List D)
  | agg (cs : List D)
  | x (v : Value)

instance : Inhabited D := ⟨.b false⟩

def D.cells : D → List D
  | .agg cs => cs
  | d => [d]

def D.one : D → Bool
  | .agg _ => false
  | .x v => v.oneCell'
  | _ => true

/-- An element of sz cells. -/
def D.wd (sz : Nat) (x : D) : Prop := x.cells.length = sz ∧ ∀ c, c ∈ x.cells → c.one = true

/-- The value v of world w reads as the datum; no block of X is read. -/
inductive Rd (w : World) (X : Nat → Prop) : D → Value → Prop where
  | b (t : Bool) : Rd w X (.b t) (.bool t)
  | i (k : IntKind) (n : Int) : Rd w X (.i k n) (.int k n)
  | s (l : List UInt8) : Rd w X (.s l) (.string ⟨l.toArray⟩)
  | x (v : Value) : Rd w X (.x v) v
  | agg (cs : List D) (vs : Array Value) : cs.length = vs.size → (∀ (j : Nat) (c : D) (v : Value), cs[j]? = some c → vs[j]? = some v → Rd w X c v) → Rd w X (.agg cs) (.agg vs)
  | slnil (sz : Nat) : Rd w X (.sl sz []) (.slice none 0 0)
  | sle (sz : Nat) (a : Addr) (cap : Nat) : Rd w X (.sl sz []) (.slice (some a) 0 cap)
  | sl (sz : Nat) (xs : List D) (blk off n cap : Nat) (arr : Array Value) (T : TypeId) (fz : Nat × Nat) (f : Nat → Nat → Value) :
      w.heap[blk]? = some (.cells arr T fz) → ¬ X blk → xs.length = n → n ≤ cap →
      (∀ (j : Nat) (x : D), xs[j]? = some x → x.wd sz) →
      (∀ (j m : Nat) (x c : D), xs[j]? = some x → x.cells[m]? = some c → arr[off + j * sz + m]? = some (f j m)) →
      (∀ (j m : Nat) (x c : D), xs[j]? = some x → x.cells[m]? = some c → Rd w X c (f j m)) →
      Rd w X (.sl sz xs) (.slice (some ⟨blk, off, none⟩) n cap)

theorem Rd.mono {w w' : World} {X X' : Nat → Prop} (hw : ∀ b o, w.heap[b]? = some o → ¬ X b → w'.heap[b]? = some o ∧ ¬ X' b)
    {d : D} {v : Value} (h : Rd w X d v) : Rd w' X' d v := by
  induction h with
  | b t => exact .b t
  | i k n => exact .i k n
  | s l => exact .s l
  | x v => exact .x v
  | agg cs vs hl _ ih => exact .agg cs vs hl ih
  | slnil sz => exact .slnil sz
  | sle sz a cap => exact .sle sz a cap
  | sl sz xs blk off n cap arr T fz f hh hx hl hc hw1 ha _ ih =>
    exact .sl sz xs blk off n cap arr T fz f (hw _ _ hh hx).1 (hw _ _ hh hx).2 hl hc hw1 ha ih

inductive AV where
  | any
  | d (x : D)
  | agg (cs : List AV)
  | op (k i j : Nat)
  | os (k : Nat)
  | nl (sz : Nat)
  | pp (x : D) (j : Nat)
  | gp (g : Nat)
  | tup (vs : List AV)
  | fn (f : Fn) (first captured : List AV)

instance : Inhabited AV := ⟨.any⟩

def AV.cells : AV → List AV
  | .agg cs => cs
  | .d (.agg cs) => cs.map .d
  | a => [a]

def AV.one : AV → Bool
  | .any | .agg _ | .tup _ => false
  | .d x => x.one
  | _ => true

structure Loc where
  blk : Nat
  off : Nat
  sz : Nat
  nil : Bool
  hv : Value

/-- An owned block: a variable of the given cells (box), an array (arr), or a slice's row (buf). -/
inductive Ent where
  | box (cs : List AV)
  | arr (sz : Nat) (xs : List D)
  | buf (sz : Nat) (xs : List D)

def Ent.cell : Ent → Nat → Nat → Option AV
  | .box cs, i, j => if i = 0 then cs[j]? else none
  | .arr _ xs, i, j => (xs[i]?).bind fun x => (x.cells[j]?).map .d
  | .buf _ xs, i, j => (xs[i]?).bind fun x => (x.cells[j]?).map .d

def Ent.sz : Ent → Nat
  | .box cs => cs.length
  | .arr sz _ => sz
  | .buf sz _ => sz

def Ent.len : Ent → Nat
  | .box _ => 1
  | .arr _ xs => xs.length
  | .buf _ xs => xs.length

def Ent.wide : Ent → Prop
  | .box cs => ∀ c, c ∈ cs → c.one = true
  | .arr sz xs => ∀ (j : Nat) (x : D), xs[j]? = some x → x.wd sz
  | .buf sz xs => ∀ (j : Nat) (x : D), xs[j]? = some x → x.wd sz

def Ent.vars : Ent → List AV
  | .box cs => cs
  | _ => []

inductive RdA (w : World) (α : Nat → Loc) (X : Nat → Prop) : AV → Value → Prop where
  | any (v : Value) : RdA w α X .any v
  | d (x : D) (v : Value) : Rd w X x v → RdA w α X (.d x) v
  | agg (cs : List AV) (vs : Array Value) : cs.length = vs.size → (∀ (j : Nat) (c : AV) (v : Value), cs[j]? = some c → vs[j]? = some v → RdA w α X c v) → RdA w α X (.agg cs) (.agg vs)
  | op (k i j : Nat) : RdA w α X (.op k i j) (.pointer (some ⟨(α k).blk, (α k).off + i * (α k).sz + j, none⟩))
  | os (k : Nat) : (α k).hv.oneCell' = true → RdA w α X (.os k) (α k).hv
  | nl (sz : Nat) : RdA w α X (.nl sz) (.slice none 0 0)
  | pp (x : D) (i : Nat) (blk off : Nat) (arr : Array Value) (T : TypeId) (fz : Nat × Nat) (f : Nat → Value) :
      w.heap[blk]? = some (.cells arr T fz) → ¬ X blk →
      (∀ (j : Nat) (c : D), x.cells[j]? = some c → arr[off + j]? = some (f j)) → (∀ (j : Nat) (c : D), x.cells[j]? = some c → Rd w X c (f j)) →
      RdA w α X (.pp x i) (.pointer (some ⟨blk, off + i, none⟩))
  | gp (g : Nat) : RdA w α X (.gp g) (.pointer (some ⟨g, 0, none⟩))
  | tup (cs : List AV) (vs : Array Value) : cs.length = vs.size → (∀ (j : Nat) (c : AV) (v : Value), cs[j]? = some c → vs[j]? = some v → RdA w α X c v) → RdA w α X (.tup cs) (.tuple vs)
  | fn (g : Fn) (as bs : List AV) (va vb : Array Value) : as.length = va.size → bs.length = vb.size →
      (∀ (j : Nat) (c : AV) (v : Value), as[j]? = some c → va[j]? = some v → RdA w α X c v) →
      (∀ (j : Nat) (c : AV) (v : Value), bs[j]? = some c → vb[j]? = some v → RdA w α X c v) → RdA w α X (.fn g as bs) (.func g va vb)

/-- Which names an AV may mention. -/
inductive AV.ok (p : Nat → Prop) : AV → Prop where
  | any : AV.ok p .any
  | d (x : D) : AV.ok p (.d x)
  | agg (cs : List AV) : (∀ c, c ∈ cs → AV.ok p c) → AV.ok p (.agg cs)
  | op (k i j : Nat) : p k → AV.ok p (.op k i j)
  | os (k : Nat) : p k → AV.ok p (.os k)
  | nl (sz : Nat) : AV.ok p (.nl sz)
  | pp (x : D) (i : Nat) : AV.ok p (.pp x i)
  | gp (g : Nat) : AV.ok p (.gp g)
  | tup (cs : List AV) : (∀ c, c ∈ cs → AV.ok p c) → AV.ok p (.tup cs)
  | fn (g : Fn) (as bs : List AV) : (∀ c, c ∈ as → AV.ok p c) → (∀ c, c ∈ bs → AV.ok p c) → AV.ok p (.fn g as bs)

theorem AV.ok.mono {p q : Nat → Prop} (h : ∀ k, p k → q k) {a : AV} (ha : a.ok p) : a.ok q := by
  induction ha with
  | any => exact .any
  | d x => exact .d x
  | agg cs _ ih => exact .agg cs ih
  | op k i j hk => exact .op k i j (h k hk)
  | os k hk => exact .os k (h k hk)
  | nl sz => exact .nl sz
  | pp x i => exact .pp x i
  | gp g => exact .gp g
  | tup cs _ ih => exact .tup cs ih
  | fn g as bs _ _ ih1 ih2 => exact .fn g as bs ih1 ih2

theorem AV.ok.cell {p : Nat → Prop} {a : AV} (ha : a.ok p) {m : Nat} {c : AV} (hc : a.cells[m]? = some c) : c.ok p := by
  have hm := List.mem_of_getElem? hc
  cases ha with
  | any => simp [AV.cells] at hm; subst hm; exact .any
  | d x =>
    cases x with
    | agg cs => simp [AV.cells] at hm; obtain ⟨y, _, rfl⟩ := hm; exact .d y
    | _ => simp [AV.cells] at hm; subst hm; exact .d _
  | agg cs h => exact h c hm
  | op k i j hk => simp [AV.cells] at hm; subst hm; exact .op k i j hk
  | os k hk => simp [AV.cells] at hm; subst hm; exact .os k hk
  | nl sz => simp [AV.cells] at hm; subst hm; exact .nl sz
  | pp x i => simp [AV.cells] at hm; subst hm; exact .pp x i
  | gp g => simp [AV.cells] at hm; subst hm; exact .gp g
  | tup cs h => simp [AV.cells] at hm; subst hm; exact .tup cs h
  | fn g as bs h1 h2 => simp [AV.cells] at hm; subst hm; exact .fn g as bs h1 h2

theorem RdA.mono {w w' : World} {α α' : Nat → Loc} {X X' : Nat → Prop} {p : Nat → Prop}
    (hw : ∀ b o, w.heap[b]? = some o → ¬ X b → w'.heap[b]? = some o ∧ ¬ X' b) (hα : ∀ k, p k → α' k = α k)
    {a : AV} {v : Value} (h : RdA w α X a v) (ha : a.ok p) : RdA w' α' X' a v := by
  induction h with
  | any v => exact .any v
  | d x v h => exact .d x v (h.mono hw)
  | agg cs vs hl _ ih => cases ha with | agg _ hc => exact .agg cs vs hl fun j c v h1 h2 => ih j c v h1 h2 (hc c (List.mem_of_getElem? h1))
  | op k i j => cases ha with | op _ _ _ hk => rw [← hα k hk]; exact .op k i j
  | os k ho => cases ha with | os _ hk => rw [← hα k hk] at ho ⊢; exact .os k ho
  | nl sz => exact .nl sz
  | pp x i blk off arr T fz f hh hx h1 h2 => exact .pp x i blk off arr T fz f (hw _ _ hh hx).1 (hw _ _ hh hx).2 h1 fun j c hc => (h2 j c hc).mono hw
  | gp g => exact .gp g
  | tup cs vs hl _ ih => cases ha with | tup _ hc => exact .tup cs vs hl fun j c v h1 h2 => ih j c v h1 h2 (hc c (List.mem_of_getElem? h1))
  | fn g as bs va vb h1 h2 _ _ ih1 ih2 =>
    cases ha with
    | fn _ _ _ hc1 hc2 => exact .fn g as bs va vb h1 h2 (fun j c v x y => ih1 j c v x y (hc1 c (List.mem_of_getElem? x))) fun j c v x y => ih2 j c v x y (hc2 c (List.mem_of_getElem? x))

theorem Ent.cell_ok {p : Nat → Prop} {e : Ent} (h : ∀ x, x ∈ e.vars → x.ok p) {j m : Nat} {c : AV} (hc : e.cell j m = some c) : c.ok p := by
  cases e with
  | box cs =>
    simp only [Ent.cell] at hc
    split at hc
    · exact h c (List.mem_of_getElem? hc)
    · cases hc
  | arr sz xs =>
    simp only [Ent.cell, Option.bind_eq_some_iff, Option.map_eq_some_iff] at hc
    obtain ⟨x, _, y, _, rfl⟩ := hc; exact .d y
  | buf sz xs =>
    simp only [Ent.cell, Option.bind_eq_some_iff, Option.map_eq_some_iff] at hc
    obtain ⟨x, _, y, _, rfl⟩ := hc; exact .d y

/-- What block of cells an owned entry is. -/
structure OwnB (w : World) (α : Nat → Loc) (X : Nat → Prop) (l : Loc) (e : Ent) (arr : Array Value) (T : TypeId) (fz : Nat × Nat) (cap : Nat) : Prop where
  heap : w.heap[l.blk]? = some (.cells arr T fz)
  hsz : l.sz = e.sz
  len : e.len ≤ cap
  bnd : l.off + cap * e.sz ≤ arr.size
  nf : ∀ o, l.off ≤ o → o < l.off + cap * e.sz → ¬ (fz.1 ≤ o ∧ o < fz.2)
  wid : e.wide
  rd : ∀ (j m : Nat) (c : AV), e.cell j m = some c → ∃ v, arr[l.off + j * e.sz + m]? = some v ∧ RdA w α X c v
  hv : ∀ sz xs, e = .buf sz xs → l.hv = .slice (some ⟨l.blk, l.off, none⟩) xs.length cap
  hone : l.hv.oneCell' = true

def Own (w : World) (α : Nat → Loc) (X : Nat → Prop) (k : Nat) (e : Ent) : Prop :=
  ((α k).nil = true ∧ (∃ sz, e = .buf sz []) ∧ (α k).hv = .slice none 0 0) ∨
  ((α k).nil = false ∧ ∃ arr T fz cap, OwnB w α X (α k) e arr T fz cap)

structure SS where
  env : Nat → Option AV
  own : Nat → Option Ent

def XX (α : Nat → Loc) (own : Nat → Option Ent) (X0 : Nat → Prop) (b : Nat) : Prop :=
  (∃ k e, own k = some e ∧ (α k).nil = false ∧ (α k).blk = b) ∨ X0 b

/-- What the variable (block g) holds: elements of sz cells each. -/
structure Gl where
  g : Nat
  sz : Nat
  xs : List D

def GlobAt (w : World) (X : Nat → Prop) (x : Gl) : Prop :=
  ∃ arr T fz, w.heap[x.g]? = some (.cells arr T fz) ∧ arr.size = x.xs.length * x.sz ∧ (∀ (j : Nat) (d : D), x.xs[j]? = some d → d.wd x.sz) ∧
    ∀ (j m : Nat) (d c : D), x.xs[j]? = some d → d.cells[m]? = some c → ∃ v, arr[j * x.sz + m]? = some v ∧ Rd w X c v

/-- The blocks that the caller lent, and what names are fixed. -/
structure Fr where
  b : Nat → Prop
  fix : Nat → Option Loc
instance : CoeFun Fr (fun _ => Nat → Prop) := ⟨Fr.b⟩

/-- The view S of the slots a and the world w. w0: the world at the call's start; F: the blocks that the caller lent to be written; X0: blocks that are not looked at. -/
structure Sim (G : List Gl) (X0 : Nat → Prop) (F : Fr) (w0 : World) (n : Nat) (p : Nat → Prop) (α : Nat → Loc) (S : SS) (a : Act) (w : World) : Prop where
  size : a.tmps.size = n
  defers : a.defers = []
  env : ∀ t av, S.env t = some av → RdA w α (XX α S.own X0) av (a.tmps.getD t undef)
  ok : ∀ t av, S.env t = some av → av.ok p
  own : ∀ k e, S.own k = some e → Own w α (XX α S.own X0) k e
  oko : ∀ k e, S.own k = some e → p k ∧ ∀ x, x ∈ e.vars → x.ok p
  inj : ∀ k e k' e', S.own k = some e → S.own k' = some e' → (α k).nil = false → (α k').nil = false → (α k).blk = (α k').blk → k = k'
  mine : ∀ k e, S.own k = some e → (α k).nil = false → (w0.heap.size ≤ (α k).blk ∨ F (α k).blk) ∧ ¬ X0 (α k).blk
  x0 : ∀ b, X0 b → b < w0.heap.size
  fr : ∀ b, b < w0.heap.size → ¬ F b → w.heap[b]? = w0.heap[b]?
  grow : w0.heap.size ≤ w.heap.size
  os : w.os = w0.os
  tape : w.tape = w0.tape
  output : w.output = w0.output
  gl : ∀ x, x ∈ G → x.g < w0.heap.size ∧ ¬ F x.g ∧ ¬ X0 x.g ∧ GlobAt w0 (fun b => X0 b ∨ F b) x
  fix : ∀ k l, F.fix k = some l → α k = l ∧ p k

theorem Own.lt {w : World} {α : Nat → Loc} {X : Nat → Prop} {k : Nat} {e : Ent} (h : Own w α X k e) (hn : (α k).nil = false) : (α k).blk < w.heap.size := by
  rcases h with ⟨h, _⟩ | ⟨_, arr, T, fz, cap, h⟩
  · rw [hn] at h; cases h
  · have := h.heap
    rcases Nat.lt_or_ge (α k).blk w.heap.size with hlt | hge
    · exact hlt
    · rw [Array.getElem?_eq_none hge] at this; cases this

theorem Own.mono {w w' : World} {α α' : Nat → Loc} {X X' : Nat → Prop} {p : Nat → Prop} {k : Nat} {e : Ent}
    (hw : ∀ b o, w.heap[b]? = some o → ¬ X b → w'.heap[b]? = some o ∧ ¬ X' b) (hα : ∀ k, p k → α' k = α k)
    (hk : p k) (he : ∀ x, x ∈ e.vars → x.ok p) (hb : (α k).nil = false → w'.heap[(α k).blk]? = w.heap[(α k).blk]?)
    (h : Own w α X k e) : Own w' α' X' k e := by
  rcases h with ⟨h1, h2⟩ | ⟨h1, arr, T, fz, cap, h⟩
  · exact .inl (by rw [hα k hk]; exact ⟨h1, h2⟩)
  · refine .inr ⟨by rw [hα k hk]; exact h1, arr, T, fz, cap, ?_⟩
    rw [hα k hk]
    refine ⟨by rw [hb h1]; exact h.heap, h.hsz, h.len, h.bnd, h.nf, h.wid, fun j m c hm => ?_, h.hv, h.hone⟩
    obtain ⟨v, hv, hr⟩ := h.rd j m c hm
    exact ⟨v, hv, hr.mono hw hα (Ent.cell_ok he hm)⟩

end Go.Eng
