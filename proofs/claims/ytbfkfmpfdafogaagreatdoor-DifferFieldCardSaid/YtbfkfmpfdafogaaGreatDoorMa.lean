import Derived.Below
import Derived.MapKept
import Derived.Calls
import Derived.Orders
import Derived.Laws.Sem
import Derived.Laws.Entries
import Derived.Laws.Cells
import Derived.Laws.Strings
/-
  A data-level view of the model's memory, program independent: values that read as data (D), what a slot holds (AV), the blocks that a call owns, and the relation Sim between that view and a world. Basic lemmas.
-/
namespace Go.Eng

inductive D where
  | b (t : Bool)
  | i (k : IntKind) (n : Int)
  | s (l : List UInt8)
  | sl (sz : Nat) (xs : List D)
  | agg (cs : List D)
  | x (v : Value)

instance : Inhabited D := ⟨.b false⟩

def D.cells : D → List D
  | .agg cs => cs
  | d => [d]

def D.one : D → Bool
  | .agg _ => false
  | .x v => v.oneCell'
  | _ => true

/-- An element of sz cells. -/
def D.wd (sz : Nat) (x : D) : Prop := x.cells.length = sz ∧ ∀ c, c ∈ x.cells → c.one = true

/-- The value v of world w reads as the datum; no block of X is read. -/
inductive Rd (w : World) (X : Nat → Prop) : D → Value → Prop where
  | b (t : Bool) : Rd w X (.b t) (.bool t)
  | i (k : IntKind) (n : Int) : Rd w X (.i k n) (.int k n)
  | s (l : List UInt8) : Rd w X (.s l) (.string ⟨l.toArray⟩)
  | x (v : Value) : Rd w X (.x v) v
  | agg (cs : List D) (vs : Array Value) : cs.length = vs.size → (∀ (j : Nat) (c : D) (v : Value), cs[j]? = some c → vs[j]? = some v → Rd w X c v) → Rd w X (.agg cs) (.agg vs)
  | slnil (sz : Nat) : Rd w X (.sl sz []) (.slice none 0 0)
  | sle (sz : Nat) (a : Addr) (cap : Nat) : Rd w X (.sl sz []) (.slice (some a) 0 cap)
  | sl (sz : Nat) (xs : List D) (blk off n cap : Nat) (arr : Array Value) (T : TypeId) (fz : Nat × Nat) (f : Nat → Nat → Value) :
      w.heap[blk]? = some (.cells arr T fz) → ¬ X blk → xs.length = n → n ≤ cap →
      (∀ (j : Nat) (x : D), xs[j]? = some x → x.wd sz) →
      (∀ (j m : Nat) (x c : D), xs[j]? = some x → x.cells[m]? = some c → arr[off + j * sz + m]? = some (f j m)) →
      (∀ (j m : Nat) (x c : D), xs[j]? = some x → x.cells[m]? = some c → Rd w X c (f j m)) →
      Rd w X (.sl sz xs) (.slice (some ⟨blk, off, none⟩) n cap)

theorem Rd.mono {w w' : World} {X X' : Nat → Prop} (hw : ∀ b o, w.heap[b]? = some o → ¬ X b → w'.heap[b]? = some o ∧ ¬ X' b)
    {d : D} {v : Value} (h : Rd w X d v) : Rd w' X' d v := by
  induction h with
  | b t => exact .b t
  | i k n => exact .i k n
  | s l => exact .s l
  | x v => exact .x v
  | agg cs vs hl _ ih => exact .agg cs vs hl ih
  | slnil sz => exact .slnil sz
  | sle sz a cap => exact .sle sz a cap
  | sl sz xs blk off n cap arr T fz f hh hx hl hc hw1 ha _ ih =>
    exact .sl sz xs blk off n cap arr T fz f (hw _ _ hh hx).1 (hw _ _ hh hx).2 hl hc hw1 ha ih

inductive AV where
  | any
  | ab
  | ap
  | d (x : D)
  | agg (cs : List AV)
  | op (k i j : Nat)
  | os (k : Nat)
  | nl (sz : Nat)
  | pp (x : D) (j : Nat)
  | gp (g : Nat)
  | tup (vs : List AV)
  | fn (f : Fn) (first captured : List AV)

instance : Inhabited AV := ⟨.any⟩

def AV.cells : AV → List AV
  | .agg cs => cs
  | .d (.agg cs) => cs.map .d
  | a => [a]

def AV.one : AV → Bool
  | .any | .agg _ | .tup _ => false
  | .d x => x.one
  | _ => true

structure Loc where
  blk : Nat
  off : Nat
  sz : Nat
  nil : Bool
  hv : Value

/-- An owned block: a variable of the given cells (box), an array (arr), or a slice's row (buf). -/
inductive Ent where
  | box (cs : List AV) (T : Option TypeId := none)
  | arr (sz : Nat) (xs : List D)
  | buf (sz : Nat) (xs : List D) (T : Option TypeId := none)
  | iset (ks : List Int)
  | iters (s : List UInt8) (pos : Nat)

/-- What the block of a set of numbers (a map from int to bool, every element true) is. -/
def ISet (ks : List Int) (o : Obj) : Prop :=
  ∃ es clock, o = .map es clock ∧ es.toList.map (·.key) = ks.map (.int .i64) ∧ (∀ x ∈ es.toList, x.val = .bool true) ∧ MapKept.Stamped es clock
/-- What the block of a string's iterator is. -/
def IterS (s : List UInt8) (pos : Nat) (o : Obj) : Prop := o = .stringIter ⟨s.toArray⟩ pos

/-- The entries whose block is no row of cells. -/
def Ent.obj : Ent → Option ((Obj → Prop) × Bool)
  | .iset ks => some (ISet ks, true)
  | .iters s pos => some (IterS s pos, false)
  | _ => none

def Ent.cell : Ent → Nat → Nat → Option AV
  | .box cs _, i, j => if i = 0 then cs[j]? else none
  | .arr _ xs, i, j => (xs[i]?).bind fun x => (x.cells[j]?).map .d
  | .buf _ xs _, i, j => (xs[i]?).bind fun x => (x.cells[j]?).map .d
  | .iset _, _, _ => none
  | .iters _ _, _, _ => none

def Ent.sz : Ent → Nat
  | .box cs _ => cs.length
  | .arr sz _ => sz
  | .buf sz _ _ => sz
  | .iset _ => 0
  | .iters _ _ => 0

def Ent.len : Ent → Nat
  | .box _ _ => 1
  | .arr _ xs => xs.length
  | .buf _ xs _ => xs.length
  | .iset _ => 0
  | .iters _ _ => 0

def Ent.wide : Ent → Prop
  | .box cs _ => ∀ c, c ∈ cs → c.one = true
  | .arr sz xs => ∀ (j : Nat) (x : D), xs[j]? = some x → x.wd sz
  | .buf sz xs _ => ∀ (j : Nat) (x : D), xs[j]? = some x → x.wd sz
  | .iset _ => False
  | .iters _ _ => False

/-- The type of a block, where it is told. -/
def Ent.ty : Ent → Option TypeId
  | .box _ T => T
  | .buf _ _ T => T
  | _ => none

def Ent.vars : Ent → List AV
  | .box cs _ => cs
  | _ => []

inductive RdA (w : World) (α : Nat → Loc) (X : Nat → Prop) : AV → Value → Prop where
  | any (v : Value) : RdA w α X .any v
  | ab (t : Bool) : RdA w α X .ab (.bool t)
  | ap (p : Option Addr) : RdA w α X .ap (.pointer p)
  | d (x : D) (v : Value) : Rd w X x v → RdA w α X (.d x) v
  | agg (cs : List AV) (vs : Array Value) : cs.length = vs.size → (∀ (j : Nat) (c : AV) (v : Value), cs[j]? = some c → vs[j]? = some v → RdA w α X c v) → RdA w α X (.agg cs) (.agg vs)
  | op (k i j : Nat) : RdA w α X (.op k i j) (.pointer (some ⟨(α k).blk, (α k).off + i * (α k).sz + j, none⟩))
  | os (k : Nat) : (α k).hv.oneCell' = true → RdA w α X (.os k) (α k).hv
  | nl (sz : Nat) : RdA w α X (.nl sz) (.slice none 0 0)
  | pp (x : D) (i : Nat) (blk off : Nat) (arr : Array Value) (T : TypeId) (fz : Nat × Nat) (f : Nat → Value) :
      w.heap[blk]? = some (.cells arr T fz) → ¬ X blk →
      (∀ (j : Nat) (c : D), x.cells[j]? = some c → arr[off + j]? = some (f j)) → (∀ (j : Nat) (c : D), x.cells[j]? = some c → Rd w X c (f j)) →
      RdA w α X (.pp x i) (.pointer (some ⟨blk, off + i, none⟩))
  | gp (g : Nat) : RdA w α X (.gp g) (.pointer (some ⟨g, 0, none⟩))
  | tup (cs : List AV) (vs : Array Value) : cs.length = vs.size → (∀ (j : Nat) (c : AV) (v : Value), cs[j]? = some c → vs[j]? = some v → RdA w α X c v) → RdA w α X (.tup cs) (.tuple vs)
  | fn (g : Fn) (as bs : List AV) (va vb : Array Value) : as.length = va.size → bs.length = vb.size →
      (∀ (j : Nat) (c : AV) (v : Value), as[j]? = some c → va[j]? = some v → RdA w α X c v) →
      (∀ (j : Nat) (c : AV) (v : Value), bs[j]? = some c → vb[j]? = some v → RdA w α X c v) → RdA w α X (.fn g as bs) (.func g va vb)

/-- Which names an AV may mention. -/
inductive AV.ok (p : Nat → Prop) : AV → Prop where
  | any : AV.ok p .any
  | ab : AV.ok p .ab
  | ap : AV.ok p .ap
  | d (x : D) : AV.ok p (.d x)
  | agg (cs : List AV) : (∀ c, c ∈ cs → AV.ok p c) → AV.ok p (.agg cs)
  | op (k i j : Nat) : p k → AV.ok p (.op k i j)
  | os (k : Nat) : p k → AV.ok p (.os k)
  | nl (sz : Nat) : AV.ok p (.nl sz)
  | pp (x : D) (i : Nat) : AV.ok p (.pp x i)
  | gp (g : Nat) : AV.ok p (.gp g)
  | tup (cs : List AV) : (∀ c, c ∈ cs → AV.ok p c) → AV.ok p (.tup cs)
  | fn (g : Fn) (as bs : List AV) : (∀ c, c ∈ as → AV.ok p c) → (∀ c, c ∈ bs → AV.ok p c) → AV.ok p (.fn g as bs)

theorem AV.ok.mono {p q : Nat → Prop} (h : ∀ k, p k → q k) {a : AV} (ha : a.ok p) : a.ok q := by
  induction ha with
  | any => exact .any
  | ab => exact .ab
  | ap => exact .ap
  | d x => exact .d x
  | agg cs _ ih => exact .agg cs ih
  | op k i j hk => exact .op k i j (h k hk)
  | os k hk => exact .os k (h k hk)
  | nl sz => exact .nl sz
  | pp x i => exact .pp x i
  | gp g => exact .gp g
  | tup cs _ ih => exact .tup cs ih
  | fn g as bs _ _ ih1 ih2 => exact .fn g as bs ih1 ih2

theorem AV.ok.cell {p : Nat → Prop} {a : AV} (ha : a.ok p) {m : Nat} {c : AV} (hc : a.cells[m]? = some c) : c.ok p := by
  have hm := List.mem_of_getElem? hc
  cases ha with
  | any => simp [AV.cells] at hm; subst hm; exact .any
  | ab => simp [AV.cells] at hm; subst hm; exact .ab
  | ap => simp [AV.cells] at hm; subst hm; exact .ap
  | d x =>
    cases x with
    | agg cs => simp [AV.cells] at hm; obtain ⟨y, _, rfl⟩ := hm; exact .d y
    | _ => simp [AV.cells] at hm; subst hm; exact .d _
  | agg cs h => exact h c hm
  | op k i j hk => simp [AV.cells] at hm; subst hm; exact .op k i j hk
  | os k hk => simp [AV.cells] at hm; subst hm; exact .os k hk
  | nl sz => simp [AV.cells] at hm; subst hm; exact .nl sz
  | pp x i => simp [AV.cells] at hm; subst hm; exact .pp x i
  | gp g => simp [AV.cells] at hm; subst hm; exact .gp g
  | tup cs h => simp [AV.cells] at hm; subst hm; exact .tup cs h
  | fn g as bs h1 h2 => simp [AV.cells] at hm; subst hm; exact .fn g as bs h1 h2

theorem RdA.mono {w w' : World} {α α' : Nat → Loc} {X X' : Nat → Prop} {p : Nat → Prop}
    (hw : ∀ b o, w.heap[b]? = some o → ¬ X b → w'.heap[b]? = some o ∧ ¬ X' b) (hα : ∀ k, p k → α' k = α k)
    {a : AV} {v : Value} (h : RdA w α X a v) (ha : a.ok p) : RdA w' α' X' a v := by
  induction h with
  | any v => exact .any v
  | ab t => exact .ab t
  | ap q => exact .ap q
  | d x v h => exact .d x v (h.mono hw)
  | agg cs vs hl _ ih => cases ha with | agg _ hc => exact .agg cs vs hl fun j c v h1 h2 => ih j c v h1 h2 (hc c (List.mem_of_getElem? h1))
  | op k i j => cases ha with | op _ _ _ hk => rw [← hα k hk]; exact .op k i j
  | os k ho => cases ha with | os _ hk => rw [← hα k hk] at ho ⊢; exact .os k ho
  | nl sz => exact .nl sz
  | pp x i blk off arr T fz f hh hx h1 h2 => exact .pp x i blk off arr T fz f (hw _ _ hh hx).1 (hw _ _ hh hx).2 h1 fun j c hc => (h2 j c hc).mono hw
  | gp g => exact .gp g
  | tup cs vs hl _ ih => cases ha with | tup _ hc => exact .tup cs vs hl fun j c v h1 h2 => ih j c v h1 h2 (hc c (List.mem_of_getElem? h1))
  | fn g as bs va vb h1 h2 _ _ ih1 ih2 =>
    cases ha with
    | fn _ _ _ hc1 hc2 => exact .fn g as bs va vb h1 h2 (fun j c v x y => ih1 j c v x y (hc1 c (List.mem_of_getElem? x))) fun j c v x y => ih2 j c v x y (hc2 c (List.mem_of_getElem? x))

theorem Ent.cell_ok {p : Nat → Prop} {e : Ent} (h : ∀ x, x ∈ e.vars → x.ok p) {j m : Nat} {c : AV} (hc : e.cell j m = some c) : c.ok p := by
  cases e with
  | box cs T =>
    simp only [Ent.cell] at hc
    split at hc
    · exact h c (List.mem_of_getElem? hc)
    · cases hc
  | arr sz xs =>
    simp only [Ent.cell, Option.bind_eq_some_iff, Option.map_eq_some_iff] at hc
    obtain ⟨x, _, y, _, rfl⟩ := hc; exact .d y
  | buf sz xs T =>
    simp only [Ent.cell, Option.bind_eq_some_iff, Option.map_eq_some_iff] at hc
    obtain ⟨x, _, y, _, rfl⟩ := hc; exact .d y
  | iset ks => cases hc
  | iters s pos => cases hc

/-- What block of cells an owned entry is. -/
structure OwnB (w : World) (α : Nat → Loc) (X : Nat → Prop) (l : Loc) (e : Ent) (arr : Array Value) (T : TypeId) (fz : Nat × Nat) (cap : Nat) : Prop where
  heap : w.heap[l.blk]? = some (.cells arr T fz)
  hsz : l.sz = e.sz
  len : e.len ≤ cap
  bnd : l.off + cap * e.sz ≤ arr.size
  nf : fz.1 ≤ fz.2 ∧ ∀ o, l.off ≤ o → o < l.off + cap * e.sz → ¬ (fz.1 ≤ o ∧ o < fz.2)
  wid : e.wide
  rd : ∀ (j m : Nat) (c : AV), e.cell j m = some c → ∃ v, arr[l.off + j * e.sz + m]? = some v ∧ RdA w α X c v
  hv : ∀ sz xs T, e = .buf sz xs T → l.hv = .slice (some ⟨l.blk, l.off, none⟩) xs.length cap
  hone : l.hv.oneCell' = true
  ty : ∀ U, e.ty = some U → T = U ∧ l.off = 0 ∧ ∀ cs V, e = .box cs V → arr.size = cs.length

def hvO (mp : Bool) (b : Nat) : Value := match mp with | true => .map (some b) | false => .pointer (some ⟨b, 0, none⟩)
/-- .. of a block that is no row of cells. -/
structure OwnO (w : World) (l : Loc) (Q : Obj → Prop) (mp : Bool) : Prop where
  nil : l.nil = false
  hv : l.hv = hvO mp l.blk
  obj : ∃ o, w.heap[l.blk]? = some o ∧ Q o

def OwnC (w : World) (α : Nat → Loc) (X : Nat → Prop) (k : Nat) (e : Ent) : Prop :=
  ((α k).nil = true ∧ (∃ sz T, e = .buf sz [] T) ∧ (α k).hv = .slice none 0 0) ∨
  ((α k).nil = false ∧ ∃ arr T fz cap, OwnB w α X (α k) e arr T fz cap)

def Own (w : World) (α : Nat → Loc) (X : Nat → Prop) (k : Nat) (e : Ent) : Prop :=
  match e with
  | .iset ks => OwnO w (α k) (ISet ks) true
  | .iters s pos => OwnO w (α k) (IterS s pos) false
  | e => OwnC w α X k e

theorem Own.ofC {w : World} {α : Nat → Loc} {X : Nat → Prop} {k : Nat} {e : Ent} (h : OwnC w α X k e) : Own w α X k e := by
  cases e with
  | iset ks => rcases h with ⟨_, ⟨_, _, h⟩, _⟩ | ⟨_, arr, T, fz, cap, h⟩; cases h; exact h.wid.elim
  | iters s pos => rcases h with ⟨_, ⟨_, _, h⟩, _⟩ | ⟨_, arr, T, fz, cap, h⟩; cases h; exact h.wid.elim
  | _ => exact h

theorem Own.cases {w : World} {α : Nat → Loc} {X : Nat → Prop} {k : Nat} {e : Ent} (h : Own w α X k e) : OwnC w α X k e ∨ ∃ Q mp, e.obj = some (Q, mp) ∧ OwnO w (α k) Q mp := by
  cases e with
  | iset ks => exact .inr ⟨_, _, rfl, h⟩
  | iters s pos => exact .inr ⟨_, _, rfl, h⟩
  | _ => exact .inl h

theorem Own.ofO {w : World} {α : Nat → Loc} {X : Nat → Prop} {k : Nat} {e : Ent} {Q : Obj → Prop} {mp : Bool} (he : e.obj = some (Q, mp)) (h : OwnO w (α k) Q mp) : Own w α X k e := by
  cases e with
  | iset ks => cases he; exact h
  | iters s pos => cases he; exact h
  | _ => cases he

theorem OwnO.one {w : World} {l : Loc} {Q : Obj → Prop} {mp : Bool} (h : OwnO w l Q mp) : l.hv.oneCell' = true := by
  rw [h.hv]; cases mp <;> rfl

structure SS where
  env : Nat → Option AV
  own : Nat → Option Ent

def XX (α : Nat → Loc) (own : Nat → Option Ent) (X0 : Nat → Prop) (b : Nat) : Prop :=
  (∃ k e, own k = some e ∧ (α k).nil = false ∧ (α k).blk = b) ∨ X0 b

/-- What the variable (block g) holds: elements of sz cells each. -/
structure Gl where
  g : Nat
  sz : Nat
  xs : List D

def GlobAt (w : World) (X : Nat → Prop) (x : Gl) : Prop :=
  ∃ arr T fz, w.heap[x.g]? = some (.cells arr T fz) ∧ arr.size = x.xs.length * x.sz ∧ (∀ (j : Nat) (d : D), x.xs[j]? = some d → d.wd x.sz) ∧
    ∀ (j m : Nat) (d c : D), x.xs[j]? = some d → d.cells[m]? = some c → ∃ v, arr[j * x.sz + m]? = some v ∧ Rd w X c v

/-- The blocks that the caller lent, and what names are fixed. -/
structure Fr where
  b : Nat → Prop
  fix : Nat → Option Loc
  dfs : List Deferred
instance : CoeFun Fr (fun _ => Nat → Prop) := ⟨Fr.b⟩

/-- The view S of the slots a and the world w. w0: the world at the call's start; F: the blocks that the caller lent to be written; X0: blocks that are not looked at. -/
structure Sim (G : List Gl) (X0 : Nat → Prop) (F : Fr) (w0 : World) (n : Nat) (p : Nat → Prop) (α : Nat → Loc) (S : SS) (a : Act) (w : World) : Prop where
  size : a.tmps.size = n
  defers : a.defers = F.dfs
  env : ∀ t av, S.env t = some av → RdA w α (XX α S.own X0) av (a.tmps.getD t undef)
  ok : ∀ t av, S.env t = some av → av.ok p
  own : ∀ k e, S.own k = some e → Own w α (XX α S.own X0) k e
  oko : ∀ k e, S.own k = some e → p k ∧ ∀ x, x ∈ e.vars → x.ok p
  inj : ∀ k e k' e', S.own k = some e → S.own k' = some e' → (α k).nil = false → (α k').nil = false → (α k).blk = (α k').blk → k = k'
  mine : ∀ k e, S.own k = some e → (α k).nil = false → (w0.heap.size ≤ (α k).blk ∨ F (α k).blk) ∧ ¬ X0 (α k).blk
  x0 : ∀ b, X0 b → b < w0.heap.size
  fr : ∀ b, b < w0.heap.size → ¬ F b → w.heap[b]? = w0.heap[b]?
  grow : w0.heap.size ≤ w.heap.size
  os : w.os = w0.os
  tape : w.tape = w0.tape
  output : w.output = w0.output
  gl : ∀ x, x ∈ G → x.g < w0.heap.size ∧ ¬ F x.g ∧ ¬ X0 x.g ∧ GlobAt w0 (fun b => X0 b ∨ F b) x
  fix : ∀ k l, F.fix k = some l → α k = l ∧ p k
  nil0 : (α 14).nil = true ∧ (α 14).hv = .slice none 0 0 ∧ p 14

theorem Own.lt {w : World} {α : Nat → Loc} {X : Nat → Prop} {k : Nat} {e : Ent} (h : Own w α X k e) (hn : (α k).nil = false) : (α k).blk < w.heap.size := by
  rcases h.cases with (⟨h, _⟩ | ⟨_, arr, T, fz, cap, h⟩) | ⟨Q, mp, _, h⟩
  · rw [hn] at h; cases h
  · have := h.heap
    rcases Nat.lt_or_ge (α k).blk w.heap.size with hlt | hge
    · exact hlt
    · rw [Array.getElem?_eq_none hge] at this; cases this
  · obtain ⟨o, this, _⟩ := h.obj
    rcases Nat.lt_or_ge (α k).blk w.heap.size with hlt | hge
    · exact hlt
    · rw [Array.getElem?_eq_none hge] at this; cases this

theorem Own.mono {w w' : World} {α α' : Nat → Loc} {X X' : Nat → Prop} {p : Nat → Prop} {k : Nat} {e : Ent}
    (hw : ∀ b o, w.heap[b]? = some o → ¬ X b → w'.heap[b]? = some o ∧ ¬ X' b) (hα : ∀ k, p k → α' k = α k)
    (hk : p k) (he : ∀ x, x ∈ e.vars → x.ok p) (hb : (α k).nil = false → w'.heap[(α k).blk]? = w.heap[(α k).blk]?)
    (h : Own w α X k e) : Own w' α' X' k e := by
  rcases h.cases with (⟨h1, h2⟩ | ⟨h1, arr, T, fz, cap, h⟩) | ⟨Q, mp, he, h⟩
  · refine Own.ofC ?_
    exact .inl (by rw [hα k hk]; exact ⟨h1, h2⟩)
  · refine Own.ofC (.inr ⟨by rw [hα k hk]; exact h1, arr, T, fz, cap, ?_⟩)
    rw [hα k hk]
    refine ⟨by rw [hb h1]; exact h.heap, h.hsz, h.len, h.bnd, h.nf, h.wid, fun j m c hm => ?_, h.hv, h.hone, h.ty⟩
    obtain ⟨v, hv, hr⟩ := h.rd j m c hm
    exact ⟨v, hv, hr.mono hw hα (Ent.cell_ok he hm)⟩
  · refine Own.ofO he ?_
    rw [hα k hk]
    exact ⟨h.nil, h.hv, by rw [hb h.nil]; exact h.obj⟩

end Go.Eng

/-
  The view's steps: what one operation must show to carry Sim on (Sim.upd), records of operations, a region in the text's order and a region that draws its order (its conflicting operations are ordered by edges).
-/
namespace Go.Eng

def look {β : Type} : List (Nat × β) → Nat → Option β
  | [], _ => none
  | (y, v) :: r, x => match Nat.beq x y with | true => some v | false => look r x

theorem look_mem {β : Type} {l : List (Nat × β)} {x : Nat} {v : β} (h : look l x = some v) : (x, v) ∈ l := by
  induction l with
  | nil => simp [look] at h
  | cons y l ih =>
    obtain ⟨y, u⟩ := y
    simp only [look] at h
    split at h
    · rename_i hb
      have : x = y := Nat.eq_of_beq_eq_true hb
      cases h; subst this; exact List.mem_cons_self
    · exact List.mem_cons_of_mem _ (ih h)

/-- The slots' and the entries' turn of one operation. -/
def SS.upd (S : SS) (dst : Option Nat) (out : AV) (upd : List (Nat × Option Ent)) : SS :=
  ⟨fun t => if dst = some t then some out else S.env t, fun k => match look upd k with | some oe => oe | none => S.own k⟩

theorem put_size (a : Act) (dst : Option Nat) (v : Value) : (a.put dst v).tmps.size = a.tmps.size := by
  cases dst <;> simp [Act.put]

theorem put_defers' (a : Act) (dst : Option Nat) (v : Value) : (a.put dst v).defers = a.defers := by
  cases dst <;> simp [Act.put]

theorem put_get (a : Act) (d : Nat) (v : Value) (h : d < a.tmps.size) : (a.put (some d) v).tmps.getD d undef = v := by
  simp [Act.put, Array.getD, h]

theorem put_get_ne (a : Act) (dst : Option Nat) (t : Nat) (v : Value) (h : dst ≠ some t) : (a.put dst v).tmps.getD t undef = a.tmps.getD t undef := by
  cases dst with
  | none => rfl
  | some d =>
    have hne : d ≠ t := fun e => h (by rw [e])
    simp [Act.put, Array.getD_eq_getD_getElem?, Array.getElem?_setIfInBounds_ne hne]

theorem Sim.mono {G : List Gl} {X0 : Nat → Prop} {F : Fr} {w0 : World} {n : Nat} {p q : Nat → Prop} {α : Nat → Loc} {S : SS} {a : Act} {w : World}
    (h : Sim G X0 F w0 n p α S a w) (hp : ∀ k, p k → q k) : Sim G X0 F w0 n q α S a w :=
  { h with
    ok := fun t av ht => (h.ok t av ht).mono hp
    oko := fun k e hk => ⟨hp k (h.oko k e hk).1, fun x hx => ((h.oko k e hk).2 x hx).mono hp⟩
    fix := fun k l hk => ⟨(h.fix k l hk).1, hp k (h.fix k l hk).2⟩
    nil0 := ⟨h.nil0.1, h.nil0.2.1, hp _ h.nil0.2.2⟩ }

theorem Sim.upd {G : List Gl} {X0 : Nat → Prop} {F : Fr} {w0 : World} {n : Nat} {p : Nat → Prop} {α : Nat → Loc} {S : SS} {a : Act} {w : World}
    (h : Sim G X0 F w0 n p α S a w) (q : Nat → Prop) (hp : ∀ k, p k → q k) (α' : Nat → Loc) (w' : World) (dst : Option Nat) (hd : ∀ d, dst = some d → d < n)
    (out : AV) (upd : List (Nat × Option Ent)) (v : Value)
    (hα : ∀ k, p k → α' k = α k) (hgrow : w.heap.size ≤ w'.heap.size) (hos : w'.os = w.os) (ht : w'.tape = w.tape) (ho : w'.output = w.output)
    (hheap : ∀ b, b < w.heap.size → (∀ k e, S.own k = some e → (look upd k).isSome = true → (α k).nil = false → (α k).blk ≠ b) → w'.heap[b]? = w.heap[b]?)
    (hup : ∀ k e, look upd k = some (some e) → q k)
    (hblk : ∀ k e, look upd k = some (some e) → (α' k).nil = false → w.heap.size ≤ (α' k).blk ∨ ∃ k0 e0, S.own k0 = some e0 ∧ (look upd k0).isSome = true ∧ (α k0).nil = false ∧ (α k0).blk = (α' k).blk)
    (hinj : ∀ k e k' e', look upd k = some (some e) → look upd k' = some (some e') → (α' k).nil = false → (α' k').nil = false → (α' k).blk = (α' k').blk → k = k')
    (hown : (∀ b o, w.heap[b]? = some o → ¬ XX α S.own X0 b → w'.heap[b]? = some o ∧ ¬ XX α' (S.upd dst out upd).own X0 b) →
      ∀ k e, look upd k = some (some e) → Own w' α' (XX α' (S.upd dst out upd).own X0) k e ∧ ∀ x, x ∈ e.vars → x.ok q)
    (hout : (∀ b o, w.heap[b]? = some o → ¬ XX α S.own X0 b → w'.heap[b]? = some o ∧ ¬ XX α' (S.upd dst out upd).own X0 b) →
      RdA w' α' (XX α' (S.upd dst out upd).own X0) out v) (hok : out.ok q) :
    Sim G X0 F w0 n q α' (S.upd dst out upd) (a.put dst v) w' := by
  have hlive : ∀ k e, S.own k = some e → look upd k = none → (S.upd dst out upd).own k = some e := by
    intro k e h1 h2; simp [SS.upd, h2, h1]
  have hcase : ∀ k e, (S.upd dst out upd).own k = some e → look upd k = some (some e) ∨ (look upd k = none ∧ S.own k = some e) := by
    intro k e hk
    simp only [SS.upd] at hk
    cases hl : look upd k with
    | none => simp only [hl] at hk; exact .inr ⟨rfl, hk⟩
    | some oe => simp only [hl] at hk; subst hk; exact .inl rfl
  have hold : ∀ b, XX α' (S.upd dst out upd).own X0 b → b < w.heap.size → XX α S.own X0 b := by
    rintro b (⟨k, e, hk, hn, rfl⟩ | hx) hlt
    · rcases hcase k e hk with hl | ⟨hl, hs⟩
      · rcases hblk k e hl hn with hge | ⟨k0, e0, h1, _, h3, h4⟩
        · omega
        · exact .inl ⟨k0, e0, h1, h3, h4⟩
      · have := hα k (h.oko k e hs).1
        rw [this] at hn
        exact .inl ⟨k, e, hs, hn, by rw [this]⟩
    · exact .inr hx
  have hw : ∀ b o, w.heap[b]? = some o → ¬ XX α S.own X0 b → w'.heap[b]? = some o ∧ ¬ XX α' (S.upd dst out upd).own X0 b := by
    intro b o hb hx
    have hlt : b < w.heap.size := by
      rcases Nat.lt_or_ge b w.heap.size with hlt | hge
      · exact hlt
      · rw [Array.getElem?_eq_none hge] at hb; cases hb
    refine ⟨?_, fun hX => hx (hold b hX hlt)⟩
    rw [hheap b hlt fun k e hk _ hn he => hx (.inl ⟨k, e, hk, hn, he⟩)]; exact hb
  refine ⟨?_, ?_, ?_, ?_, ?_, ?_, ?_, ?_, h.x0, ?_, Nat.le_trans h.grow hgrow, hos.trans h.os, ht.trans h.tape, ho.trans h.output, h.gl, fun k l hk => ⟨(hα k (h.fix k l hk).2).trans (h.fix k l hk).1, hp k (h.fix k l hk).2⟩, by rw [hα 14 h.nil0.2.2]; exact ⟨h.nil0.1, h.nil0.2.1, hp _ h.nil0.2.2⟩⟩
  · rw [put_size]; exact h.size
  · rw [put_defers']; exact h.defers
  · intro t av ht'
    by_cases hdt : dst = some t
    · simp only [SS.upd, hdt, if_true] at ht'
      cases ht'
      rw [hdt, put_get _ _ _ (by rw [h.size]; exact hd t hdt)]
      rw [← hdt]; exact hout hw
    · simp only [SS.upd, hdt, if_false] at ht'
      rw [put_get_ne _ _ _ _ hdt]
      exact (h.env t av ht').mono hw hα (h.ok t av ht')
  · intro t av ht'
    by_cases hdt : dst = some t
    · simp only [SS.upd, hdt, if_true] at ht'
      cases ht'; exact hok
    · simp only [SS.upd, hdt, if_false] at ht'
      exact (h.ok t av ht').mono hp
  · intro k e hk
    rcases hcase k e hk with hl | ⟨hl, hs⟩
    · exact (hown hw k e hl).1
    · refine Own.mono hw hα (h.oko k e hs).1 (h.oko k e hs).2 (fun hn => ?_) (h.own k e hs)
      refine hheap _ ((h.own k e hs).lt hn) fun k1 e1 h1 h2 h3 h4 => ?_
      have := h.inj k1 e1 k e h1 hs h3 hn h4
      subst this; rw [hl] at h2; cases h2
  · intro k e hk
    rcases hcase k e hk with hl | ⟨_, hs⟩
    · exact ⟨hup k _ hl, (hown hw k e hl).2⟩
    · exact ⟨hp k (h.oko k e hs).1, fun x hx => ((h.oko k e hs).2 x hx).mono hp⟩
  · intro k e k' e' hk hk' hn hn' hb
    rcases hcase k e hk with hl | ⟨hl, hs⟩ <;> rcases hcase k' e' hk' with hl' | ⟨hl', hs'⟩
    · exact hinj k e k' e' hl hl' hn hn' hb
    · rw [hα k' (h.oko k' e' hs').1] at hn' hb
      have hlt := (h.own k' e' hs').lt hn'
      rcases hblk k e hl hn with hge | ⟨k0, e0, h1, h2, h3, h4⟩
      · omega
      · have := h.inj k0 e0 k' e' h1 hs' h3 hn' (h4.trans hb)
        subst this; rw [hl'] at h2; cases h2
    · rw [hα k (h.oko k e hs).1] at hn hb
      have hlt := (h.own k e hs).lt hn
      rcases hblk k' e' hl' hn' with hge | ⟨k0, e0, h1, h2, h3, h4⟩
      · omega
      · have := h.inj k0 e0 k e h1 hs h3 hn (h4.trans hb.symm)
        subst this; rw [hl] at h2; cases h2
    · rw [hα k (h.oko k e hs).1] at hn hb
      rw [hα k' (h.oko k' e' hs').1] at hn' hb
      exact h.inj k e k' e' hs hs' hn hn' hb
  · intro k e hk hn
    rcases hcase k e hk with hl | ⟨_, hs⟩
    · rcases hblk k e hl hn with hge | ⟨k0, e0, h1, _, h3, h4⟩
      · refine ⟨.inl (Nat.le_trans h.grow hge), fun hx => ?_⟩
        have h1 := h.x0 _ hx
        have h2 := h.grow
        omega
      · rw [← h4]; exact h.mine k0 e0 h1 h3
    · rw [hα k (h.oko k e hs).1] at hn ⊢
      exact h.mine k e hs hn
  · intro b hb hF
    rw [hheap b (Nat.lt_of_lt_of_le hb h.grow) ?_]
    · exact h.fr b hb hF
    · intro k e h1 _ h3 h4
      subst h4
      rcases (h.mine k e h1 h3).1 with hge | hf
      · omega
      · exact hF hf

/-- An operation that leaves the world alone. -/
theorem Sim.pure {G : List Gl} {X0 : Nat → Prop} {F : Fr} {w0 : World} {n : Nat} {p : Nat → Prop} {α : Nat → Loc} {S : SS} {a : Act} {w : World}
    (h : Sim G X0 F w0 n p α S a w) (dst : Option Nat) (hd : ∀ d, dst = some d → d < n) (out : AV) (v : Value)
    (hout : RdA w α (XX α S.own X0) out v) (hok : out.ok p) : Sim G X0 F w0 n p α (S.upd dst out []) (a.put dst v) w := by
  have e : (S.upd dst out []).own = S.own := by funext k; simp [SS.upd, look]
  exact h.upd p (fun _ h => h) α w dst hd out [] v (fun _ _ => rfl) (Nat.le_refl _) rfl rfl rfl (fun _ _ _ => rfl)
    (fun _ _ hl => by simp [look] at hl) (fun _ _ hl => by simp [look] at hl) (fun _ _ _ _ hl => by simp [look] at hl) (fun _ _ _ hl => by simp [look] at hl)
    (fun _ => by rw [e]; exact hout) hok

/-! ### Records -/

structure Rec where
  ins : List (Nat × AV)
  fp : List (Nat × Ent)
  out : AV
  upd : List (Nat × Option Ent)

def Rec.pre (r : Rec) (S : SS) : Prop := (∀ t av, (t, av) ∈ r.ins → S.env t = some av) ∧ ∀ k e, (k, e) ∈ r.fp → S.own k = some e

def dstOf (ops : Array Oper) (i : Nat) : Option Nat := (ops[i]?).bind (·.dst)

def fam (nm k : Nat) : Prop := k / 16 = nm

/-- The record speaks true of operation i at whatever view meets its premises. -/
def Valid (P : Program) (G : List Gl) (ops : Array Oper) (n N i : Nat) (r : Rec) : Prop :=
  ∀ (X0 : Nat → Prop) (F : Fr) (w0 : World) (p : Nat → Prop) (α : Nat → Loc) (S : SS) (a : Act) (w : World) (Q : Exit → Act → World → Prop) (K : Act → World → Prop),
    Sim G X0 F w0 n p α S a w → r.pre S → (∀ k, fam (N + i) k → ¬ p k) →
    (∀ α' a' w', Sim G X0 F w0 n (fun k => p k ∨ fam (N + i) k) α' (S.upd (dstOf ops i) r.out r.upd) a' w' → K a' w') → wpOp P ops Q i K a w

def Chain (ops : Array Oper) : SS → List (Nat × Rec) → SS → Prop
  | S, [], S' => S' = S
  | S, (i, r) :: l, S' => r.pre S ∧ Chain ops (S.upd (dstOf ops i) r.out r.upd) l S'

def PD (N : Nat) (done : Nat → Prop) (k : Nat) : Prop := k / 16 < N ∨ ∃ j, done j ∧ fam (N + j) k

theorem seq_sound {P : Program} {ops : Array Oper} {n N : Nat} {G : List Gl} {X0 : Nat → Prop} {F : Fr} {w0 : World} {Q : Exit → Act → World → Prop} {S' : SS} :
    ∀ (l : List (Nat × Rec)) (S : SS) (done : Nat → Prop) (α : Nat → Loc) (a : Act) (w : World),
      (∀ x, x ∈ l → Valid P G ops n N x.1 x.2) → Chain ops S l S' → l.Pairwise (fun x y => x.1 < y.1) → (∀ x, x ∈ l → ¬ done x.1) →
      Sim G X0 F w0 n (PD N done) α S a w →
      (∀ α' a' w', Sim G X0 F w0 n (PD N fun j => done j ∨ ∃ x, x ∈ l ∧ x.1 = j) α' S' a' w' → Q .normal a' w') →
      wpOps P ops Q (l.map (·.1)) a w := by
  intro l
  induction l with
  | nil =>
    intro S done α a w _ hc _ _ hs hq
    simp only [Chain] at hc; subst hc
    exact hq α a w (hs.mono fun k hk => hk.imp id fun ⟨j, h1, h2⟩ => ⟨j, .inl h1, h2⟩)
  | cons x l ih =>
    obtain ⟨i, r⟩ := x
    intro S done α a w hv hc hp hd hs hq
    obtain ⟨hpre, hc⟩ := hc
    rw [List.map_cons, wpOps_cons]
    refine hv (i, r) List.mem_cons_self X0 F w0 _ α S a w Q _ hs hpre ?_ ?_
    · rintro k hk (hlt | ⟨j, hj, hj'⟩)
      · simp only [fam] at hk; omega
      · simp only [fam] at hk hj'
        have : j = i := by omega
        subst this; exact hd (j, r) List.mem_cons_self hj
    · intro α' a' w' hs'
      have hp' := List.pairwise_cons.1 hp
      refine ih _ (fun j => done j ∨ j = i) α' a' w' (fun x hx => hv x (List.mem_cons_of_mem _ hx)) hc hp'.2 ?_ (hs'.mono ?_) ?_
      · rintro x hx (hdx | he)
        · exact hd x (List.mem_cons_of_mem _ hx) hdx
        · have := hp'.1 x hx; simp only at this; omega
      · rintro k ((hlt | ⟨j, hj, hj'⟩) | hf)
        · exact .inl hlt
        · exact .inr ⟨j, .inl hj, hj'⟩
        · exact .inr ⟨i, .inr rfl, hf⟩
      · intro α'' a'' w'' hs''
        refine hq α'' a'' w'' (hs''.mono ?_)
        rintro k (hlt | ⟨j, (hj | rfl) | ⟨x, hx, hxj⟩, hj'⟩)
        · exact .inl hlt
        · exact .inr ⟨j, .inl hj, hj'⟩
        · exact .inr ⟨j, .inr ⟨(j, r), List.mem_cons_self, rfl⟩, hj'⟩
        · exact .inr ⟨j, .inr ⟨x, List.mem_cons_of_mem _ hx, hxj⟩, hj'⟩

/-- Two records that may change places. -/
structure Indep (d1 : Option Nat) (r1 : Rec) (d2 : Option Nat) (r2 : Rec) : Prop where
  t12 : ∀ d, d1 = some d → (∀ av, (d, av) ∉ r2.ins) ∧ d2 ≠ some d
  t21 : ∀ d, d2 = some d → ∀ av, (d, av) ∉ r1.ins
  o12 : ∀ k, (look r1.upd k).isSome = true → (∀ e, (k, e) ∉ r2.fp) ∧ look r2.upd k = none
  o21 : ∀ k, (look r2.upd k).isSome = true → ∀ e, (k, e) ∉ r1.fp

theorem Indep.swap {d1 d2 : Option Nat} {r1 r2 : Rec} (h : Indep d1 r1 d2 r2) {S : SS} (h1 : r1.pre S) (h2 : r2.pre (S.upd d1 r1.out r1.upd)) :
    r2.pre S ∧ r1.pre (S.upd d2 r2.out r2.upd) ∧ (S.upd d1 r1.out r1.upd).upd d2 r2.out r2.upd = (S.upd d2 r2.out r2.upd).upd d1 r1.out r1.upd := by
  refine ⟨⟨fun t av ht => ?_, fun k e hk => ?_⟩, ⟨fun t av ht => ?_, fun k e hk => ?_⟩, ?_⟩
  · have := h2.1 t av ht
    by_cases hd : d1 = some t
    · exact absurd ht ((h.t12 t hd).1 av)
    · simpa [SS.upd, hd] using this
  · have := h2.2 k e hk
    cases hl : look r1.upd k with
    | none => simpa [SS.upd, hl] using this
    | some oe => exact absurd hk ((h.o12 k (by rw [hl]; rfl)).1 e)
  · by_cases hd : d2 = some t
    · exact absurd ht (h.t21 t hd av)
    · simpa [SS.upd, hd] using h1.1 t av ht
  · cases hl : look r2.upd k with
    | none => simpa [SS.upd, hl] using h1.2 k e hk
    | some oe => exact absurd hk (h.o21 k (by rw [hl]; rfl) e)
  · simp only [SS.upd, SS.mk.injEq]
    constructor
    · funext t
      by_cases hd1 : d1 = some t
      · have := (h.t12 t hd1).2
        simp [hd1, this]
      · by_cases hd2 : d2 = some t <;> simp [hd1, hd2]
    · funext k
      cases hl1 : look r1.upd k with
      | none => cases hl2 : look r2.upd k <;> simp
      | some oe =>
        have := (h.o12 k (by rw [hl1]; rfl)).2
        simp [this]

theorem bubble {ops : Array Oper} {i : Nat} {r : Rec} {l2 : List (Nat × Rec)} {S' : SS} : ∀ (l1 : List (Nat × Rec)) (S : SS),
    (∀ x, x ∈ l1 → Indep (dstOf ops x.1) x.2 (dstOf ops i) r) → Chain ops S (l1 ++ (i, r) :: l2) S' →
    r.pre S ∧ Chain ops (S.upd (dstOf ops i) r.out r.upd) (l1 ++ l2) S' := by
  intro l1
  induction l1 with
  | nil => intro S _ hc; exact hc
  | cons x l1 ih =>
    obtain ⟨j, q⟩ := x
    intro S hi hc
    obtain ⟨hq, hc⟩ := hc
    obtain ⟨hr, hc⟩ := ih _ (fun x hx => hi x (List.mem_cons_of_mem _ hx)) hc
    obtain ⟨h1, h2, h3⟩ := (hi (j, q) List.mem_cons_self).swap hq hr
    exact ⟨h1, h2, by rw [← h3]; exact hc⟩

/-- i is ordered ahead of j, by edges. -/
inductive Before (ops : Array Oper) : Nat → Nat → Prop
  | edge {j : Nat} {o : Oper} {e : Edge} : ops[j]? = some o → e ∈ o.after → Region.binds .any e = true → Before ops e.on j
  | step {i j : Nat} {o : Oper} {e : Edge} : ops[j]? = some o → e ∈ o.after → Region.binds .any e = true → Before ops i e.on → Before ops i j

/-- What is listed is closed under edges. -/
def Closed (ops : Array Oper) (listed : Array Bool) : Prop := ∀ j o, ops[j]? = some o → listed.getD j true = true → ∀ e ∈ o.after, Region.binds .any e = true → listed.getD e.on true = true
theorem Before.listed {ops : Array Oper} {ls : Array Bool} (hc : Closed ops ls) {i j : Nat} (h : Before ops i j) : (∀ o, ops[j]? = some o → ∀ e ∈ o.after, Region.binds .any e = true → ls.getD e.on true = true) → ls.getD i true = true := by
  induction h with
  | edge h1 h2 h3 => intro h; exact h _ h1 _ h2 h3
  | step h1 h2 h3 _ ih => intro h; exact ih fun o ho => hc _ o ho (h _ h1 _ h2 h3)

/-- x stands ahead of y in the text: they do not touch each other, or an edge orders them. -/
def Apart (ops : Array Oper) (x y : Nat × Rec) : Prop :=
  x.1 < y.1 ∧ (Indep (dstOf ops x.1) x.2 (dstOf ops y.1) y.2 ∨ Before ops x.1 y.1)

theorem any_sound {P : Program} {ops : Array Oper} {n N : Nat} {G : List Gl} {X0 : Nat → Prop} {F : Fr} {w0 : World} {Q : Exit → Act → World → Prop} {S' : SS}
    (hback : ∀ j o, ops[j]? = some o → ∀ e ∈ o.after, Region.binds .any e = true → e.on < j) :
    ∀ (fuel : Nat) (l : List (Nat × Rec)) (listed : Array Bool) (S : SS) (done : Nat → Prop) (α : Nat → Loc) (a : Act) (w : World),
      l.length ≤ fuel → listed.size = ops.size → (∀ j, j < ops.size → (listed.getD j true = false ↔ ∃ x, x ∈ l ∧ x.1 = j)) → (∀ x, x ∈ l → x.1 < ops.size) → Closed ops listed →
      (∀ x, x ∈ l → Valid P G ops n N x.1 x.2) → Chain ops S l S' → l.Pairwise (Apart ops) → (∀ x, x ∈ l → ¬ done x.1) →
      Sim G X0 F w0 n (PD N done) α S a w →
      (∀ α' a' w', Sim G X0 F w0 n (PD N fun j => done j ∨ ∃ x, x ∈ l ∧ x.1 = j) α' S' a' w' → Q .normal a' w') →
      wpAny P .any ops Q fuel listed a w := by
  have fin : ∀ (l : List (Nat × Rec)) (S : SS) (done : Nat → Prop) (α : Nat → Loc) (a : Act) (w : World), l = [] → Chain ops S l S' → Sim G X0 F w0 n (PD N done) α S a w →
      (∀ α' a' w', Sim G X0 F w0 n (PD N fun j => done j ∨ ∃ x, x ∈ l ∧ x.1 = j) α' S' a' w' → Q .normal a' w') → Q .normal a w := by
    intro l S done α a w hl hc hs hq
    subst hl
    simp only [Chain] at hc; subst hc
    exact hq α a w (hs.mono fun k hk => hk.imp id fun ⟨j, h1, h2⟩ => ⟨j, .inl h1, h2⟩)
  have first : ∀ (l : List (Nat × Rec)) (listed : Array Bool), (∀ j, j < ops.size → (listed.getD j true = false ↔ ∃ x, x ∈ l ∧ x.1 = j)) → (∀ x, x ∈ l → x.1 < ops.size) → listed.size = ops.size →
      l.Pairwise (Apart ops) → Region.ready .any ops listed = [] → l = [] := by
    intro l listed hl hlt hsz hp hr
    cases l with
    | nil => rfl
    | cons x l =>
      exfalso
      have hx := hlt x List.mem_cons_self
      have : x.1 ∈ Region.ready .any ops listed := by
        rw [mem_ready]
        refine ⟨(hl _ hx).2 ⟨x, List.mem_cons_self, rfl⟩, ops[x.1], Array.getElem?_eq_getElem hx, fun e he hb => ?_⟩
        have hlt2 := hback x.1 _ (Array.getElem?_eq_getElem hx) e he hb
        have hes : e.on < ops.size := by omega
        cases hg : listed.getD e.on true with
        | false =>
          obtain ⟨y, hy, hye⟩ := (hl _ hes).1 hg
          rcases List.mem_cons.1 hy with rfl | hy
          · omega
          · have := ((List.pairwise_cons.1 hp).1 y hy).1
            omega
        | true =>
          have : e.on < listed.size := by omega
          simpa [Array.getD, this] using hg
      rw [hr] at this; cases this
  intro fuel
  induction fuel with
  | zero =>
    intro l listed S done α a w hf hsz hl hlt hcl hv hc hp hd hs hq
    have h0 : l = [] := List.eq_nil_of_length_eq_zero (by omega)
    refine ⟨?_, fin l S done α a w h0 hc hs hq⟩
    subst h0
    cases hr : Region.ready .any ops listed with
    | nil => rfl
    | cons j js =>
      exfalso
      have : j ∈ Region.ready .any ops listed := by rw [hr]; exact List.mem_cons_self
      rw [mem_ready] at this
      obtain ⟨h1, o, ho, _⟩ := this
      have hj : j < ops.size := (Array.getElem?_eq_some_iff.1 ho).1
      obtain ⟨x, hx, _⟩ := (hl j hj).1 h1
      cases hx
  | succ fuel ih =>
    intro l listed S done α a w hf hsz hl hlt hcl hv hc hp hd hs hq
    refine ⟨fun hr => fin l S done α a w (first l listed hl hlt hsz hp hr) hc hs hq, fun i hi => ?_⟩
    rw [mem_ready] at hi
    obtain ⟨hun, o, ho, hall⟩ := hi
    have hio : i < ops.size := (Array.getElem?_eq_some_iff.1 ho).1
    obtain ⟨⟨i', r⟩, hx, rfl⟩ := (hl i hio).1 hun
    simp only at ho hio hun
    obtain ⟨l1, l2, rfl⟩ := List.append_of_mem hx
    have hp' := List.pairwise_append.1 hp
    have hpred : ∀ o', ops[i']? = some o' → ∀ e ∈ o'.after, Region.binds .any e = true → listed.getD e.on true = true := by
      intro o' ho' e he hb
      rw [ho] at ho'; cases ho'
      have h1 := hall e he hb
      have := hback i' o ho e he hb
      have : e.on < listed.size := by omega
      simpa [Array.getD, this] using h1
    have hind : ∀ x, x ∈ l1 → Indep (dstOf ops x.1) x.2 (dstOf ops i') r := by
      intro x hx1
      rcases (hp'.2.2 x hx1 (i', r) List.mem_cons_self).2 with h | h
      · exact h
      · have h1 := h.listed hcl hpred
        have h2 := (hl x.1 (hlt x (List.mem_append_left _ hx1))).2 ⟨x, List.mem_append_left _ hx1, rfl⟩
        rw [h1] at h2; cases h2
    obtain ⟨hpre, hc'⟩ := bubble l1 S hind hc
    have hne : ∀ x, x ∈ l1 ++ l2 → x.1 ≠ i' := by
      intro x hx1 he
      rcases List.mem_append.1 hx1 with h | h
      · have := (hp'.2.2 x h (i', r) List.mem_cons_self).1; simp only at this; omega
      · have := ((List.pairwise_cons.1 hp'.2.1).1 x h).1; simp only at this; omega
    have hsub : ∀ x, x ∈ l1 ++ l2 → x ∈ l1 ++ (i', r) :: l2 := by
      intro x hx1
      rcases List.mem_append.1 hx1 with h | h
      · exact List.mem_append_left _ h
      · exact List.mem_append_right _ (List.mem_cons_of_mem _ h)
    refine hv (i', r) hx X0 F w0 _ α S a w Q _ hs hpre ?_ ?_
    · rintro k hk (hlt1 | ⟨j, hj, hj'⟩)
      · simp only [fam] at hk; omega
      · simp only [fam] at hk hj'
        have : j = i' := by omega
        subst this; exact hd (j, r) hx hj
    · intro α' a' w' hs'
      refine ih (l1 ++ l2) (listed.setIfInBounds i' true) _ (fun j => done j ∨ j = i') α' a' w' ?_ (by simpa using hsz) ?_ (fun x h => hlt x (hsub x h)) ?_ (fun x h => hv x (hsub x h)) hc' ?_ ?_ (hs'.mono ?_) ?_
      · simp only [List.length_append, List.length_cons] at hf ⊢; omega
      · intro j hj
        by_cases hji : j = i'
        · subst hji
          have : j < listed.size := by omega
          constructor
          · intro h; simp [Array.getD, this] at h
          · rintro ⟨x, h1, h2⟩; exact absurd h2 (hne x h1)
        · rw [getD_set_ne true (fun e => hji e.symm), hl j hj]
          constructor
          · rintro ⟨x, h1, rfl⟩
            rcases List.mem_append.1 h1 with h | h
            · exact ⟨x, List.mem_append_left _ h, rfl⟩
            · rcases List.mem_cons.1 h with rfl | h
              · exact absurd rfl hji
              · exact ⟨x, List.mem_append_right _ h, rfl⟩
          · rintro ⟨x, h1, h2⟩; exact ⟨x, hsub x h1, h2⟩
      · intro j o' ho' hj e he hb
        have hin : ∀ q, listed.getD q true = true → (listed.setIfInBounds i' true).getD q true = true := by
          intro q hq'
          by_cases hqi : q = i'
          · subst hqi
            have : q < listed.size := by omega
            simp [Array.getD, this]
          · rw [getD_set_ne true (fun e => hqi e.symm)]; exact hq'
        by_cases hji : j = i'
        · subst hji; exact hin _ (hpred o' ho' e he hb)
        · rw [getD_set_ne true (fun e => hji e.symm)] at hj
          exact hin _ (hcl j o' ho' hj e he hb)
      · refine List.pairwise_append.2 ⟨hp'.1, (List.pairwise_cons.1 hp'.2.1).2, fun x h1 y h2 => hp'.2.2 x h1 y (List.mem_cons_of_mem _ h2)⟩
      · rintro x h1 (h2 | h2)
        · exact hd x (hsub x h1) h2
        · exact hne x h1 h2
      · rintro k ((h1 | ⟨j, hj, hj'⟩) | hf')
        · exact .inl h1
        · exact .inr ⟨j, .inl hj, hj'⟩
        · exact .inr ⟨i', .inr rfl, hf'⟩
      · intro α'' a'' w'' hs''
        refine hq α'' a'' w'' (hs''.mono ?_)
        rintro k (h1 | ⟨j, (hj | rfl) | ⟨x, h2, h3⟩, hj'⟩)
        · exact .inl h1
        · exact .inr ⟨j, .inl hj, hj'⟩
        · exact .inr ⟨j, .inr ⟨(j, r), hx, rfl⟩, hj'⟩
        · exact .inr ⟨j, .inr ⟨x, hsub x h2, h3⟩, hj'⟩

end Go.Eng

/-
  The reckoning of one operation over the view (opK) and that it speaks true (VOp): operands, types, numbers, strings, loads.
-/
namespace Go.Eng

/-! ### Types -/

inductive Kd where
  | int (k : IntKind)
  | bool
  | str
  | slice (e : Nat)
  | ptr (e : Nat)
  | struct (fs : List (Nat × Nat))
  | array (n e : Nat)
  | uptr
  | map (k e : Nat)
  | iface
  | func
  | other

structure TyI where
  size : Nat
  agg : Bool
  zero : List AV
  bytes : Nat
  kd : Kd

def kindB : IntKind → IntKind → Bool
  | .i8, .i8 | .i16, .i16 | .i32, .i32 | .i64, .i64 | .u8, .u8 | .u16, .u16 | .u32, .u32 | .u64, .u64 => true
  | _, _ => false

theorem kindB_eq {j k : IntKind} (h : kindB j k = true) : j = k := by
  cases j <;> cases k <;> first | rfl | (simp [kindB] at h)

def zm : AV → Value → Bool
  | .d (.b false), .bool false => true
  | .d (.i k n), .int k' m => kindB k k' && decide (n = m)
  | .d (.s []), .string s => Nat.beq s.data.size 0
  | .nl _, .slice none 0 0 => true
  | .d (.x (.pointer none)), .pointer none => true
  | .d (.x .nilFunc), .nilFunc => true
  | .d (.x .nilIface), .nilIface => true
  | .d (.x (.map none)), .map none => true
  | _, _ => false

theorem zm_read {w : World} {α : Nat → Loc} {X : Nat → Prop} {a : AV} {v : Value} (h : zm a v = true) : RdA w α X a v := by
  unfold zm at h
  split at h
  · exact .d _ _ (.b _)
  · simp only [Bool.and_eq_true, decide_eq_true_eq] at h
    rw [kindB_eq h.1, h.2]; exact .d _ _ (.i _ _)
  · rename_i s
    have h1 := Nat.eq_of_beq_eq_true h
    have : s = ⟨[].toArray⟩ := by
      obtain ⟨a⟩ := s
      simp only at h1
      rw [Array.eq_empty_of_size_eq_zero h1]
    rw [this]; exact .d _ _ (.s _)
  · exact .nl _
  · exact .d _ _ (.x _)
  · exact .d _ _ (.x _)
  · exact .d _ _ (.x _)
  · exact .d _ _ (.x _)
  · cases h

theorem zm_ok {p : Nat → Prop} {a : AV} {v : Value} (h : zm a v = true) : a.ok p := by
  unfold zm at h
  split at h <;> first | exact .d _ | exact .nl _ | cases h

def zl : List Value → List AV → Bool
  | [], [] => true
  | v :: vs, a :: as => zm a v && zl vs as
  | _, _ => false

def offsB (P : Program) : List (Nat × Nat) → List Field → Bool
  | [], [] => true
  | o :: os, f :: fs => Nat.beq o.1 f.offset && Nat.beq o.2 f.type && (match P.info? f.type with | some i => !Nat.beq i.size 0 | none => false) && offsB P os fs
  | _, _ => false

theorem offsB_get {P : Program} {os : List (Nat × Nat)} {fs : List Field} (h : offsB P os fs = true) (j : Nat) {o : Nat × Nat} (hj : os[j]? = some o) :
    ∃ f i, fs[j]? = some f ∧ f.offset = o.1 ∧ f.type = o.2 ∧ P.info? f.type = some i ∧ i.size ≠ 0 := by
  induction os generalizing fs j with
  | nil => simp at hj
  | cons x os ih =>
    cases fs with
    | nil => simp [offsB] at h
    | cons f fs =>
      simp only [offsB, Bool.and_eq_true] at h
      obtain ⟨⟨⟨h1, h2⟩, h3⟩, h4⟩ := h
      cases j with
      | zero =>
        simp at hj; subst hj
        split at h3
        · rename_i i hi
          refine ⟨f, i, rfl, (Nat.eq_of_beq_eq_true h1).symm, (Nat.eq_of_beq_eq_true h2).symm, hi, fun h0 => ?_⟩
          rw [h0] at h3; simp at h3
        · cases h3
      | succ j => simpa using ih h4 j (by simpa using hj)

def chkKd (P : Program) : Kd → TypeDesc → Bool
  | .int k, .int k' => kindB k k'
  | .bool, .bool => true
  | .str, .string => true
  | .slice e, .slice e' => Nat.beq e e'
  | .ptr e, .pointer e' => Nat.beq e e'
  | .struct os, .struct fs => offsB P os fs.toList
  | .array n e, .array n' e' => Nat.beq n n' && Nat.beq e e'
  | .uptr, .unsafePointer => true
  | .map k e, .map k' e' => Nat.beq k k' && Nat.beq e e'
  | .iface, .interface _ => true
  | .func, .func _ _ _ => true
  | .other, _ => true
  | _, _ => false

def aggOf : TypeDesc → Bool
  | .struct _ | .array _ _ => true
  | _ => false

def boolB : Bool → Bool → Bool
  | true, true | false, false => true
  | _, _ => false

def chkTy (P : Program) (t : Nat) (ti : TyI) : Bool :=
  match P.info? t, P.underlying t with
  | some i, some u => Nat.beq i.size ti.size && Nat.beq i.bytes ti.bytes && boolB (aggOf u) ti.agg && chkKd P ti.kd u &&
      (match i.zero with | some z => zl z.cells.toList ti.zero | none => false)
  | _, _ => false

structure TyOk (P : Program) (t : Nat) (ti : TyI) : Prop where
  info : ∃ i, P.info? t = some i ∧ i.size = ti.size ∧ i.bytes = ti.bytes ∧ ∃ z, i.zero = some z ∧ zl z.cells.toList ti.zero = true
  und : ∃ u, P.underlying t = some u ∧ aggOf u = ti.agg ∧ chkKd P ti.kd u = true

theorem chkTy_ok {P : Program} {t : Nat} {ti : TyI} (h : chkTy P t ti = true) : TyOk P t ti := by
  unfold chkTy at h
  split at h
  · rename_i i u hi hu
    simp only [Bool.and_eq_true] at h
    obtain ⟨⟨⟨⟨h1, h2⟩, h3⟩, h4⟩, h5⟩ := h
    refine ⟨⟨i, hi, Nat.eq_of_beq_eq_true h1, Nat.eq_of_beq_eq_true h2, ?_⟩, u, hu, ?_, h4⟩
    · split at h5
      · rename_i z hz; exact ⟨z, hz, h5⟩
      · cases h5
    · cases ha : aggOf u <;> cases hb : ti.agg <;> rw [ha, hb] at h3 <;> first | rfl | cases h3
  · cases h

structure Ctx where
  P : Program
  tab : List (Nat × TyI)
  G : List Gl
  tabOk : (tab.all fun x => chkTy P x.1 x.2) = true

theorem Ctx.ty {C : Ctx} {t : Nat} {ti : TyI} (h : look C.tab t = some ti) : TyOk C.P t ti :=
  chkTy_ok (List.all_eq_true.1 C.tabOk (t, ti) (look_mem h))

/-! ### The view's text: lists -/

structure AS where
  env : List (Nat × AV)
  own : List (Nat × Option Ent)
  nx : Nat

def AS.ss (st : AS) : SS := ⟨look st.env, fun k => match look st.own k with | some oe => oe | none => none⟩

def lookK {β : Type} : List (Nat × β) → Nat → (β → Prop) → Prop
  | [], _, _ => False
  | (y, v) :: r, x, K => match Nat.beq x y with | true => K v | false => lookK r x K

theorem lookK_out {β : Type} {l : List (Nat × β)} {x : Nat} {K : β → Prop} (h : lookK l x K) : ∃ v, look l x = some v ∧ K v := by
  induction l with
  | nil => cases h
  | cons y l ih =>
    obtain ⟨y, v⟩ := y
    simp only [lookK] at h
    simp only [look]
    split at h
    · rename_i hb; exact ⟨v, by simp [hb], h⟩
    · rename_i hb; simpa [hb] using ih h

def ownK (st : AS) (k : Nat) (K : Ent → Prop) : Prop := lookK st.own k fun oe => match oe with | some e => K e | none => False

theorem ownK_out {st : AS} {k : Nat} {K : Ent → Prop} (h : ownK st k K) : ∃ e, st.ss.own k = some e ∧ K e := by
  obtain ⟨oe, h1, h2⟩ := lookK_out h
  cases oe with
  | none => cases h2
  | some e => exact ⟨e, by simp [AS.ss, h1], h2⟩

/-! ### Operands -/

def constK (sz : Nat) (v : Value) (K : AV → Prop) : Prop :=
  match v with
  | .bool t => K (.d (.b t))
  | .int k n => K (.d (.i k n))
  | .string s => K (.d (.s s.data.toList))
  | .slice none 0 0 => K (.nl sz)
  | v => K (.d (.x v))

def evK (st : AS) (x : Operand) (K : AV → Prop) : Prop :=
  match x with
  | .tmp t => lookK st.env t K
  | .const v => constK 1 v K
  | .global g => K (.gp g)
  | .func f => K (.fn (.func f) [] [])

/-- av is what operand x holds in the view. -/
inductive Ev (env : Nat → Option AV) : Operand → AV → Prop where
  | tmp (t : Nat) (av : AV) : env t = some av → Ev env (.tmp t) av
  | bool (t : Bool) : Ev env (.const (.bool t)) (.d (.b t))
  | int (k : IntKind) (n : Int) : Ev env (.const (.int k n)) (.d (.i k n))
  | string (s : ByteArray) : Ev env (.const (.string s)) (.d (.s s.data.toList))
  | nl (sz : Nat) : Ev env (.const (.slice none 0 0)) (.nl sz)
  | other (v : Value) : Ev env (.const v) (.d (.x v))
  | global (g : Nat) : Ev env (.global g) (.gp g)
  | func (f : FuncId) : Ev env (.func f) (.fn (.func f) [] [])

theorem constK_out {env : Nat → Option AV} {sz : Nat} {v : Value} {K : AV → Prop} (h : constK sz v K) : ∃ av, Ev env (.const v) av ∧ K av := by
  unfold constK at h
  split at h
  · exact ⟨_, .bool _, h⟩
  · exact ⟨_, .int _ _, h⟩
  · exact ⟨_, .string _, h⟩
  · exact ⟨_, .nl sz, h⟩
  · exact ⟨_, .other _, h⟩

theorem evK_out {st : AS} {x : Operand} {K : AV → Prop} (h : evK st x K) : ∃ av, Ev st.ss.env x av ∧ K av := by
  unfold evK at h
  split at h
  · obtain ⟨av, h1, h2⟩ := lookK_out h
    exact ⟨av, .tmp _ _ h1, h2⟩
  · exact constK_out h
  · exact ⟨_, .global _, h⟩
  · exact ⟨_, .func _, h⟩

def evsK (st : AS) : List Operand → (List AV → Prop) → Prop
  | [], K => K []
  | x :: xs, K => evK st x fun a => evsK st xs fun as => K (a :: as)

inductive Evs (env : Nat → Option AV) : List Operand → List AV → Prop where
  | nil : Evs env [] []
  | cons (x : Operand) (a : AV) (xs : List Operand) (as : List AV) : Ev env x a → Evs env xs as → Evs env (x :: xs) (a :: as)

theorem evsK_out {st : AS} {xs : List Operand} {K : List AV → Prop} (h : evsK st xs K) : ∃ as, Evs st.ss.env xs as ∧ K as := by
  induction xs generalizing K with
  | nil => exact ⟨[], .nil, h⟩
  | cons x xs ih =>
    obtain ⟨a, h1, h2⟩ := evK_out h
    obtain ⟨as, h3, h4⟩ := ih h2
    exact ⟨a :: as, .cons x a xs as h1 h3, h4⟩

def opTmps (o : Oper) : List Nat := o.op.operands.toList.filterMap fun | .tmp t => some t | _ => none

theorem mem_opTmps {o : Oper} {t : Nat} (h : Operand.tmp t ∈ o.op.operands) : t ∈ opTmps o := by
  unfold opTmps
  exact List.mem_filterMap.2 ⟨.tmp t, Array.mem_toList_iff.2 h, rfl⟩

theorem Ev.congr {env env' : Nat → Option AV} {x : Operand} {av : AV} (h : Ev env x av) (he : ∀ t, x = .tmp t → ∀ av, env t = some av → env' t = some av) : Ev env' x av := by
  cases h with
  | tmp t av h => exact .tmp t av (he t rfl av h)
  | bool t => exact .bool t
  | int k n => exact .int k n
  | string s => exact .string s
  | nl sz => exact .nl sz
  | other v => exact .other v
  | global g => exact .global g
  | func f => exact .func f

section
variable {G : List Gl} {X0 : Nat → Prop} {F : Fr} {w0 : World} {n : Nat} {p : Nat → Prop} {α : Nat → Loc} {S : SS} {a : Act} {w : World}

theorem Ev.read (hs : Sim G X0 F w0 n p α S a w) {x : Operand} {av : AV} (h : Ev S.env x av) : RdA w α (XX α S.own X0) av (a.eval x) := by
  cases h with
  | tmp t av h => exact hs.env t av h
  | bool t => exact .d _ _ (.b t)
  | int k n => exact .d _ _ (.i k n)
  | string s => obtain ⟨⟨l⟩⟩ := s; exact .d _ _ (.s _)
  | nl sz => exact .nl sz
  | other v => exact .d _ _ (.x v)
  | global g => exact .gp g
  | func f => exact .fn _ _ _ _ _ rfl rfl (fun j c v h => by simp at h) fun j c v h => by simp at h

theorem Ev.ok (hs : Sim G X0 F w0 n p α S a w) {x : Operand} {av : AV} (h : Ev S.env x av) : av.ok p := by
  cases h with
  | tmp t av h => exact hs.ok t av h
  | nl sz => exact .nl sz
  | global g => exact .gp g
  | func f => exact .fn _ _ _ (fun c h => by cases h) fun c h => by cases h
  | _ => exact .d _

theorem Evs.length {env : Nat → Option AV} {xs : List Operand} {as : List AV} (h : Evs env xs as) : as.length = xs.length := by
  induction h with
  | nil => rfl
  | cons x a xs as _ _ ih => simp [ih]

theorem Evs.get {env : Nat → Option AV} {xs : List Operand} {as : List AV} (h : Evs env xs as) (j : Nat) (av : AV) (hj : as[j]? = some av) : ∃ x, xs[j]? = some x ∧ Ev env x av := by
  induction h generalizing j with
  | nil => simp at hj
  | cons x a xs as h1 _ ih =>
    cases j with
    | zero => simp at hj; subst hj; exact ⟨x, rfl, h1⟩
    | succ j => simpa using ih j (by simpa using hj)

theorem Evs.congr {env env' : Nat → Option AV} {xs : List Operand} {as : List AV} (h : Evs env xs as) (he : ∀ t, Operand.tmp t ∈ xs → ∀ av, env t = some av → env' t = some av) : Evs env' xs as := by
  induction h with
  | nil => exact .nil
  | cons x a xs as h1 _ ih =>
    refine .cons _ _ _ _ (h1.congr fun t e => he t (by rw [e]; exact List.mem_cons_self)) (ih fun t ht => he t (List.mem_cons_of_mem _ ht))
end

/-! ### What it is for an operation's reckoning to speak true -/

def VOp (C : Ctx) (n : Nat) (o : Oper) (nm : Nat) (st : AS) (rd : List Nat) (out : AV) (upd : List (Nat × Option Ent)) : Prop :=
  (∀ k oe, look upd k = some oe → k ∈ rd ∨ fam nm k) ∧
  ∀ (X0 : Nat → Prop) (F : Fr) (w0 : World) (p : Nat → Prop) (α : Nat → Loc) (S : SS) (a : Act) (w : World) (Q : Exit → Act → World → Prop) (next : Act → World → Prop),
    Sim C.G X0 F w0 n p α S a w → (∀ t, Operand.tmp t ∈ o.op.operands → ∀ av, st.ss.env t = some av → S.env t = some av) → (∀ k, k ∈ rd → ∀ e, st.ss.own k = some e → S.own k = some e) →
    (∀ k, fam nm k → ¬ p k) → (∀ d, o.dst = some d → d < n) →
    (∀ α' v w', Sim C.G X0 F w0 n (fun k => p k ∨ fam nm k) α' (S.upd o.dst out upd) (a.put o.dst v) w' → next (a.put o.dst v) w') → o.wp C.P a w next Q

theorem wp_value {P : Program} {o : Oper} {a : Act} {w w' : World} {v : Value} {next : Act → World → Prop} {Q : Exit → Act → World → Prop}
    (h : (execOp a.eval o).run P w = .ok (.value v) w') (hn : next (a.put o.dst v) w') : o.wp P a w next Q := by
  unfold Oper.wp; rw [h]; exact hn

theorem wp_skip' {P : Program} {o : Oper} {a : Act} {w w' : World} {next : Act → World → Prop} {Q : Exit → Act → World → Prop}
    (h : (execOp a.eval o).run P w = .ok .skip w') (hn : next (a.put o.dst undef) w') : o.wp P a w next Q := by
  unfold Oper.wp; rw [h]; exact hn

/-- An operation that only looks. -/
theorem VOp.pure {C : Ctx} {n : Nat} {o : Oper} {nm : Nat} {st : AS} {rd : List Nat} {out : AV}
    (h : ∀ (X0 : Nat → Prop) (F : Fr) (w0 : World) (p : Nat → Prop) (α : Nat → Loc) (S : SS) (a : Act) (w : World), Sim C.G X0 F w0 n p α S a w →
      (∀ t, Operand.tmp t ∈ o.op.operands → ∀ av, st.ss.env t = some av → S.env t = some av) → (∀ k, k ∈ rd → ∀ e, st.ss.own k = some e → S.own k = some e) →
      ∃ v, (execOp a.eval o).run C.P w = .ok (.value v) w ∧ RdA w α (XX α S.own X0) out v ∧ out.ok p) : VOp C n o nm st rd out [] := by
  refine ⟨fun k oe hl => by simp [look] at hl, fun X0 F w0 p α S a w Q next hs he ho _ hd hn => ?_⟩
  obtain ⟨v, hr, h1, h2⟩ := h X0 F w0 p α S a w hs he ho
  exact wp_value hr (hn α v w ((hs.pure o.dst hd out v h1 h2).mono fun k hk => .inl hk))

end Go.Eng

/-
  Operations that compute on values alone: moves, numbers, bools, strings; their reckoning and that it speaks true.
-/
namespace Go.Eng

/-! ### What is left to whoever proves: markers -/

/-- A bool that is known only as a term: both ways. -/
def BIf (t : Bool) (A B : Prop) : Prop := match t with | true => A | false => B
theorem BIf.out {t : Bool} {A B : Prop} (h : BIf t A B) : (t = true ∧ A) ∨ (t = false ∧ B) := by
  cases t
  · exact .inr ⟨rfl, h⟩
  · exact .inl ⟨rfl, h⟩

/-- A comparison's outcome. -/
structure CmpK (p : Bool) (K : Bool → Prop) : Prop where
  out : K p
theorem cmp_dec {q : Prop} [Decidable q] {K : Bool → Prop} (h1 : q → K true) (h2 : ¬ q → K false) : CmpK (decide q) K := by
  constructor
  by_cases h : q
  · rw [decide_eq_true h]; exact h1 h
  · rw [decide_eq_false h]; exact h2 h
theorem cmp_yes {q : Prop} [Decidable q] {K : Bool → Prop} (h : q) (h1 : K true) : CmpK (decide q) K := by constructor; rw [decide_eq_true h]; exact h1
theorem cmp_no {q : Prop} [Decidable q] {K : Bool → Prop} (h : ¬ q) (h1 : K false) : CmpK (decide q) K := by constructor; rw [decide_eq_false h]; exact h1
theorem cmp_keep {p : Bool} {K : Bool → Prop} (h : K p) : CmpK p K := ⟨h⟩
theorem cmp_is {p : Bool} (t : Bool) {K : Bool → Prop} (h : p = t) (h1 : K t) : CmpK p K := ⟨by rw [h]; exact h1⟩

/-- A number that may wrap. -/
structure ArK (k : IntKind) (e : Int) (K : Int → Prop) : Prop where
  out : K (k.wrap e)
theorem ar_wrap {k : IntKind} {e : Int} {K : Int → Prop} (h : K (k.wrap e)) : ArK k e K := ⟨h⟩
theorem wrap_id64 {e : Int} (h1 : -9223372036854775808 ≤ e) (h2 : e ≤ 9223372036854775807) : IntKind.i64.wrap e = e := by
  have hb : (IntKind.i64.wrap e) = e := by
    simp only [IntKind.wrap]
    rw [show ((2 : Int) ^ (IntKind.i64.bits - 1)) = 9223372036854775808 from by decide, show ((2 : Int) ^ IntKind.i64.bits) = 18446744073709551616 from by decide]
    simp [IntKind.signed]; omega
  exact hb
theorem ar {e : Int} {K : Int → Prop} (h : -9223372036854775808 ≤ e ∧ e ≤ 9223372036854775807) (h1 : K e) : ArK .i64 e K := by
  constructor; rw [wrap_id64 h.1 h.2]; exact h1
theorem ar_is {k : IntKind} {e : Int} {K : Int → Prop} (r : Int) (h : k.wrap e = r) (h1 : K r) : ArK k e K := by constructor; rw [h]; exact h1

structure DivK (y : Int) (K : Prop) : Prop where
  out : y ≠ 0 ∧ K
theorem div_ok {y : Int} {K : Prop} (h : y ≠ 0) (h1 : K) : DivK y K := ⟨h, h1⟩

/-- An index i into n places. -/
structure IdxK (i : Int) (n : Nat) (K : Nat → Prop) : Prop where
  out : ∃ j : Nat, i = (j : Int) ∧ j < n ∧ K j
theorem idx {i : Int} {n : Nat} {K : Nat → Prop} (j : Nat) (h : i = (j : Int)) (h1 : j < n) (h2 : K j) : IdxK i n K := ⟨j, h, h1, h2⟩

/-- A length that must be so. -/
structure SameK (m n : Nat) (K : Prop) : Prop where
  out : m = n ∧ K
theorem same_is {m n : Nat} {K : Prop} (h : m = n) (h1 : K) : SameK m n K := ⟨h, h1⟩

/-- An index i into a list. -/
structure GetK {β : Type} (i : Int) (l : List β) (K : Nat → β → Prop) : Prop where
  out : ∃ (j : Nat) (x : β), i = (j : Int) ∧ l[j]? = some x ∧ K j x
theorem get_at {β : Type} {i : Int} {l : List β} {K : Nat → β → Prop} (j : Nat) {x : β} (h : i = (j : Int)) (h1 : l[j]? = some x) (h2 : K j x) : GetK i l K := ⟨j, x, h, h1, h2⟩

/-- A bound i, at most n, of a slice. -/
structure BndK (i : Int) (n : Nat) (K : Nat → Prop) : Prop where
  out : ∃ j : Nat, i = (j : Int) ∧ j ≤ n ∧ K j
theorem bnd {i : Int} {n : Nat} {K : Nat → Prop} (j : Nat) (h : i = (j : Int)) (h1 : j ≤ n) (h2 : K j) : BndK i n K := ⟨j, h, h1, h2⟩

/-! ### Numbers, bools, strings -/

def boolK (a : AV) (K : Bool → Prop) : Prop := match a with | .d (.b t) => K t | _ => False
def intK (a : AV) (K : IntKind → Int → Prop) : Prop := match a with | .d (.i k n) => K k n | _ => False

def bitsOp (op : BinOp) (k : IntKind) (x y : Int) : Int :=
  match op with
  | .and => k.wrap (BitVec.ofInt k.bits x &&& BitVec.ofInt k.bits y).toNat
  | .or => k.wrap (BitVec.ofInt k.bits x ||| BitVec.ofInt k.bits y).toNat
  | .xor => k.wrap (BitVec.ofInt k.bits x ^^^ BitVec.ofInt k.bits y).toNat
  | _ => k.wrap (BitVec.ofInt k.bits x &&& ~~~ BitVec.ofInt k.bits y).toNat

def intOpK (op : BinOp) (k : IntKind) (x y : Int) (K : AV → Prop) : Prop :=
  match op with
  | .add => ArK k (x + y) fun r => K (.d (.i k r))
  | .sub => ArK k (x - y) fun r => K (.d (.i k r))
  | .mul => ArK k (x * y) fun r => K (.d (.i k r))
  | .quo => DivK y (ArK k (x.tdiv y) fun r => K (.d (.i k r)))
  | .rem => DivK y (K (.d (.i k (x.tmod y))))
  | .and => K (.d (.i k (bitsOp .and k x y)))
  | .or => K (.d (.i k (bitsOp .or k x y)))
  | .xor => K (.d (.i k (bitsOp .xor k x y)))
  | .andNot => K (.d (.i k (bitsOp .andNot k x y)))
  | .eql => CmpK (decide (x = y)) fun t => K (.d (.b t))
  | .neq => CmpK (decide (x ≠ y)) fun t => K (.d (.b t))
  | .lss => CmpK (decide (x < y)) fun t => K (.d (.b t))
  | .leq => CmpK (decide (x ≤ y)) fun t => K (.d (.b t))
  | .gtr => CmpK (decide (y < x)) fun t => K (.d (.b t))
  | .geq => CmpK (decide (y ≤ x)) fun t => K (.d (.b t))
  | _ => False

def shiftK (op : BinOp) (k : IntKind) (x y : Int) (K : AV → Prop) : Prop :=
  match op with
  | .shl => 0 ≤ y ∧ ArK k (x * 2 ^ (min y.toNat k.bits)) fun r => K (.d (.i k r))
  | .shr => 0 ≤ y ∧ K (.d (.i k (x.fdiv (2 ^ (min y.toNat k.bits)))))
  | _ => False

structure LenK (n : Nat) (K : Prop) : Prop where
  out : n ≤ 9223372036854775807 ∧ K
theorem len_ok {n : Nat} {K : Prop} (h : n ≤ 9223372036854775807) (h1 : K) : LenK n K := ⟨h, h1⟩

def strOpK (op : BinOp) (x y : List UInt8) (K : AV → Prop) : Prop :=
  match op with
  | .add => LenK (x.length + y.length) (K (.d (.s (x ++ y))))
  | .eql => CmpK (decide (x = y)) fun t => K (.d (.b t))
  | .neq => CmpK (decide (x ≠ y)) fun t => K (.d (.b t))
  | .lss => CmpK (Op.bytesLess x y) fun t => K (.d (.b t))
  | .leq => CmpK (Op.bytesLess x y || x == y) fun t => K (.d (.b t))
  | .gtr => CmpK (!(Op.bytesLess x y || x == y)) fun t => K (.d (.b t))
  | .geq => CmpK (!Op.bytesLess x y) fun t => K (.d (.b t))
  | _ => False

def isShift (op : BinOp) : Bool := match op with | .shl | .shr => true | _ => false

def binK (C : Ctx) (T : TypeId) (op : BinOp) (a b : AV) (K : AV → Prop) : Prop :=
  match a, b with
  | .d (.i k x), .d (.i k' y) => match isShift op with
    | true => shiftK op k x y K
    | false => match kindB k k' with | true => intOpK op k x y K | false => False
  | .d (.s x), .d (.s y) => strOpK op x y K
  | .d (.b x), .d (.b y) => lookK C.tab T fun ti => match ti.kd with
    | .bool => match op with
      | .eql => CmpK (x == y) fun t => K (.d (.b t))
      | .neq => CmpK (x != y) fun t => K (.d (.b t))
      | _ => False
    | _ => False
  | _, _ => False

theorem intOpK_out {P : Program} {op : BinOp} {T : TypeId} {k : IntKind} {x y : Int} {K : AV → Prop} (hsh : isShift op = false) (h : intOpK op k x y K) :
    ∃ d : D, K (.d d) ∧ ∀ w X, ∃ v, (binOp op T (.int k x) (.int k y)).run P w = .ok v w ∧ Rd w X d v := by
  cases op <;> first | (simp [isShift] at hsh; done) | skip
  case add => exact ⟨_, ArK.out h, fun w X => ⟨_, by simp [binOp, Op.intArith], .i _ _⟩⟩
  case sub => exact ⟨_, ArK.out h, fun w X => ⟨_, by simp [binOp, Op.intArith], .i _ _⟩⟩
  case mul => exact ⟨_, ArK.out h, fun w X => ⟨_, by simp [binOp, Op.intArith], .i _ _⟩⟩
  case quo => exact ⟨_, ArK.out (DivK.out h).2, fun w X => ⟨_, by simp [binOp, Op.intDiv, (DivK.out h).1], .i _ _⟩⟩
  case rem => exact ⟨_, (DivK.out h).2, fun w X => ⟨_, by simp [binOp, Op.intDiv, (DivK.out h).1], .i _ _⟩⟩
  case and => exact ⟨_, h, fun w X => ⟨_, by simp [binOp, Op.intBits, bitsOp], .i _ _⟩⟩
  case or => exact ⟨_, h, fun w X => ⟨_, by simp [binOp, Op.intBits, bitsOp], .i _ _⟩⟩
  case xor => exact ⟨_, h, fun w X => ⟨_, by simp [binOp, Op.intBits, bitsOp], .i _ _⟩⟩
  case andNot => exact ⟨_, h, fun w X => ⟨_, by simp [binOp, Op.intBits, bitsOp], .i _ _⟩⟩
  case eql => exact ⟨_, CmpK.out h, fun w X => ⟨_, by simp [binOp, Op.intCmp]; rfl, .b _⟩⟩
  case neq => exact ⟨_, CmpK.out h, fun w X => ⟨_, by simp [binOp, Op.intCmp, bne]; rfl, by rw [show (!(x == y)) = decide (x ≠ y) from by simp [BEq.beq]]; exact .b _⟩⟩
  case lss => exact ⟨_, CmpK.out h, fun w X => ⟨_, by simp [binOp, Op.intCmp], .b _⟩⟩
  case leq => exact ⟨_, CmpK.out h, fun w X => ⟨_, by simp [binOp, Op.intCmp], .b _⟩⟩
  case gtr => exact ⟨_, CmpK.out h, fun w X => ⟨_, by simp [binOp, Op.intCmp], .b _⟩⟩
  case geq => exact ⟨_, CmpK.out h, fun w X => ⟨_, by simp [binOp, Op.intCmp], .b _⟩⟩

end Go.Eng

/-
  Operations that only look: bools, conversions of numbers, slices, indexes, fields, addresses, loads of what is not written.
-/
namespace Go.Eng

theorem RdA.dinv {w : World} {α : Nat → Loc} {X : Nat → Prop} {x : D} {v : Value} (h : RdA w α X (.d x) v) : Rd w X x v := by cases h; assumption
theorem Rd.iinv {w : World} {X : Nat → Prop} {k : IntKind} {n : Int} {v : Value} (h : Rd w X (.i k n) v) : v = .int k n := by cases h; rfl
theorem Rd.binv {w : World} {X : Nat → Prop} {t : Bool} {v : Value} (h : Rd w X (.b t) v) : v = .bool t := by cases h; rfl
theorem Rd.sinv {w : World} {X : Nat → Prop} {l : List UInt8} {v : Value} (h : Rd w X (.s l) v) : v = .string ⟨l.toArray⟩ := by cases h; rfl

theorem size_mk (l : List UInt8) : (ByteArray.mk l.toArray).size = l.length := by simp [ByteArray.size]

theorem append_mk (x y : List UInt8) : (ByteArray.mk x.toArray) ++ (ByteArray.mk y.toArray) = ⟨(x ++ y).toArray⟩ := by
  apply ByteArray.ext; simp

theorem equal_bool {P : Program} {T : TypeId} {ti : TyI} (ht : TyOk P T ti) (hk : ti.kd = .bool) (x y : Bool) (w : World) : (Op.equal T (.bool x) (.bool y)).run P w = .ok (x == y) w := by
  obtain ⟨_, u, hu, _, hc⟩ := ht
  rw [hk] at hc
  cases u <;> simp [chkKd] at hc
  have : ∀ d, (Op.equalIn (d + 1) T (.bool x) (.bool y)).run P w = .ok (x == y) w := fun d => by simp [Op.equalIn, underlying, hu]
  exact this 9999

theorem binK_out {C : Ctx} {op : BinOp} {T : TypeId} {a b : AV} {K : AV → Prop} (h : binK C T op a b K) :
    ∃ d : D, K (.d d) ∧ ∀ w α X va vb (x y : Operand), RdA w α X a va → RdA w α X b vb →
      ∃ v, (do eqGuard op T x y va vb; binOp op T va vb : Sem Value).run C.P w = .ok v w ∧ Rd w X d v := by
  unfold binK at h
  split at h
  · rename_i k x k' y
    split at h
    · rename_i hsh
      unfold shiftK at h
      split at h
      · refine ⟨_, h.2.out, fun w α X va vb ox oy ha hb => ?_⟩
        rw [ha.dinv.iinv, hb.dinv.iinv]
        exact ⟨_, by simp [eqGuard, binOp, Op.shift, Int.not_lt.2 h.1], .i _ _⟩
      · refine ⟨_, h.2, fun w α X va vb ox oy ha hb => ?_⟩
        rw [ha.dinv.iinv, hb.dinv.iinv]
        exact ⟨_, by simp [eqGuard, binOp, Op.shift, Int.not_lt.2 h.1], .i _ _⟩
      · cases h
    · rename_i hsh
      split at h
      · rename_i hk
        have := kindB_eq hk; subst this
        obtain ⟨d, hd, hr⟩ := intOpK_out (P := C.P) (T := T) hsh h
        refine ⟨d, hd, fun w α X va vb ox oy ha hb => ?_⟩
        rw [ha.dinv.iinv, hb.dinv.iinv]
        obtain ⟨v, h1, h2⟩ := hr w X
        refine ⟨v, ?_, h2⟩
        have : (eqGuard op T ox oy (.int k x) (.int k y)).run C.P w = .ok () w := by unfold eqGuard; cases op <;> simp
        simp [this, h1]
      · cases h
  · rename_i x y
    unfold strOpK at h
    split at h
    · refine ⟨_, h.out.2, fun w α X va vb ox oy ha hb => ?_⟩
      rw [ha.dinv.sinv, hb.dinv.sinv]
      have hle := h.out.1
      refine ⟨.string ⟨(x ++ y).toArray⟩, ?_, .s _⟩
      have : ¬ (((ByteArray.mk x.toArray).size + (ByteArray.mk y.toArray).size : Nat) : Int) > IntKind.i64.max := by
        rw [size_mk, size_mk]; have : IntKind.i64.max = 9223372036854775807 := by decide
        omega
      simp only [eqGuard, binOp, Op.stringOp]
      rw [if_neg this, append_mk]
      simp
    · refine ⟨_, h.out, fun w α X va vb ox oy ha hb => ?_⟩
      rw [ha.dinv.sinv, hb.dinv.sinv]
      refine ⟨.bool (decide (x = y)), ?_, .b _⟩
      have : ((x == y) : Bool) = decide (x = y) := by rw [Bool.eq_iff_iff]; simp
      simp [eqGuard, binOp, Op.stringOp, this]
    · refine ⟨_, h.out, fun w α X va vb ox oy ha hb => ?_⟩
      rw [ha.dinv.sinv, hb.dinv.sinv]
      refine ⟨.bool (decide (x ≠ y)), ?_, .b _⟩
      have : ((x == y) : Bool) = decide (x = y) := by rw [Bool.eq_iff_iff]; simp
      simp [eqGuard, binOp, Op.stringOp, this]
    · refine ⟨_, h.out, fun w α X va vb ox oy ha hb => ?_⟩
      rw [ha.dinv.sinv, hb.dinv.sinv]
      exact ⟨_, by simp [eqGuard, binOp, Op.stringOp], .b _⟩
    · refine ⟨_, h.out, fun w α X va vb ox oy ha hb => ?_⟩
      rw [ha.dinv.sinv, hb.dinv.sinv]
      exact ⟨_, by simp [eqGuard, binOp, Op.stringOp], .b _⟩
    · refine ⟨_, h.out, fun w α X va vb ox oy ha hb => ?_⟩
      rw [ha.dinv.sinv, hb.dinv.sinv]
      exact ⟨_, by simp [eqGuard, binOp, Op.stringOp], .b _⟩
    · refine ⟨_, h.out, fun w α X va vb ox oy ha hb => ?_⟩
      rw [ha.dinv.sinv, hb.dinv.sinv]
      exact ⟨_, by simp [eqGuard, binOp, Op.stringOp], .b _⟩
    · cases h
  · rename_i x y
    obtain ⟨ti, hti, h⟩ := lookK_out h
    split at h
    · rename_i hk
      have he := equal_bool (C.ty hti) hk x y
      split at h
      · refine ⟨_, h.out, fun w α X va vb ox oy ha hb => ?_⟩
        rw [ha.dinv.binv, hb.dinv.binv]
        refine ⟨.bool (x == y), ?_, .b _⟩
        simp [eqGuard, binOp, he]
      · refine ⟨_, h.out, fun w α X va vb ox oy ha hb => ?_⟩
        rw [ha.dinv.binv, hb.dinv.binv]
        refine ⟨.bool (x != y), ?_, .b _⟩
        simp [eqGuard, binOp, he, bne]
      · cases h
    · cases h
  · cases h

def unK (op : UnOp) (a : AV) (K : AV → Prop) : Prop :=
  match op, a with
  | .not, .d (.b t) => match t with | true => K (.d (.b false)) | false => K (.d (.b true))
  | .neg, .d (.i k n) => ArK k (0 - n) fun r => K (.d (.i k r))
  | .xor, .d (.i k n) => K (.d (.i k (bitsOp .xor k (if k.signed then -1 else k.max) n)))
  | _, _ => False

theorem unK_out {P : Program} {op : UnOp} {a : AV} {K : AV → Prop} (h : unK op a K) :
    ∃ d : D, K (.d d) ∧ ∀ w α X va, RdA w α X a va → ∃ v, (Op.unary op va).run P w = .ok v w ∧ Rd w X d v := by
  unfold unK at h
  split at h
  · rename_i t
    cases t
    · refine ⟨_, h, fun w α X va ha => ?_⟩
      rw [ha.dinv.binv]; exact ⟨_, by simp [Op.unary], .b _⟩
    · refine ⟨_, h, fun w α X va ha => ?_⟩
      rw [ha.dinv.binv]; exact ⟨_, by simp [Op.unary], .b _⟩
  · refine ⟨_, h.out, fun w α X va ha => ?_⟩
    rw [ha.dinv.iinv]; exact ⟨_, by simp [Op.unary, Op.intArith], .i _ _⟩
  · refine ⟨_, h, fun w α X va ha => ?_⟩
    rw [ha.dinv.iinv]; exact ⟨_, by simp [Op.unary, Op.intBits, bitsOp], .i _ _⟩
  · cases h

/-! ### Lists, one place at a time -/

def nthK {β : Type} : List β → Nat → (β → Prop) → Prop
  | [], _, _ => False
  | x :: _, 0, K => K x
  | _ :: l, j + 1, K => nthK l j K

theorem nthK_out {β : Type} {l : List β} {j : Nat} {K : β → Prop} (h : nthK l j K) : ∃ x, l[j]? = some x ∧ K x := by
  induction l generalizing j with
  | nil => cases h
  | cons y l ih =>
    cases j with
    | zero => exact ⟨y, rfl, h⟩
    | succ j => obtain ⟨x, h1, h2⟩ := ih h; exact ⟨x, by simpa using h1, h2⟩

/-- n places from j on. -/
def takeK {β : Type} : List β → Nat → Nat → (List β → Prop) → Prop
  | _, 0, 0, K => K []
  | x :: l, 0, n + 1, K => takeK l 0 n fun r => K (x :: r)
  | _ :: l, j + 1, n, K => takeK l j n K
  | [], _, _, _ => False

theorem takeK_out {β : Type} {l : List β} {j n : Nat} {K : List β → Prop} (h : takeK l j n K) :
    ∃ r, r.length = n ∧ (∀ m x, r[m]? = some x → l[j + m]? = some x) ∧ K r := by
  induction l generalizing j n K with
  | nil =>
    cases j <;> cases n <;> simp only [takeK] at h
    exact ⟨[], rfl, fun m x hx => by simp at hx, h⟩
  | cons y l ih =>
    cases j with
    | zero =>
      cases n with
      | zero => simp only [takeK] at h; exact ⟨[], rfl, fun m x hx => by simp at hx, h⟩
      | succ n =>
        simp only [takeK] at h
        obtain ⟨r, h1, h2, h3⟩ := ih h
        refine ⟨y :: r, by simp [h1], fun m x hx => ?_, h3⟩
        cases m with
        | zero => simpa using hx
        | succ m => have := h2 m x (by simpa using hx); simpa [Nat.add_comm, Nat.add_left_comm] using this
    | succ j =>
      simp only [takeK] at h
      obtain ⟨r, h1, h2, h3⟩ := ih h
      exact ⟨r, h1, fun m x hx => by have := h2 m x hx; rw [Nat.add_right_comm]; simpa using this, h3⟩

def allDK : List AV → (List D → Prop) → Prop → Prop
  | [], K, _ => K []
  | .d x :: l, K, no => allDK l (fun r => K (x :: r)) no
  | _ :: _, _, no => no

theorem allDK_out {l : List AV} {K : List D → Prop} {no : Prop} (h : allDK l K no) : (∃ ds, l = ds.map .d ∧ K ds) ∨ no := by
  induction l generalizing K with
  | nil => exact .inl ⟨[], rfl, h⟩
  | cons a l ih =>
    cases a with
    | d x =>
      simp only [allDK] at h
      rcases ih h with ⟨ds, h1, h2⟩ | h
      · exact .inl ⟨x :: ds, by simp [h1], h2⟩
      · exact .inr h
    | _ => exact .inr h

def mkAggK (l : List AV) (K : AV → Prop) : Prop := allDK l (fun ds => K (.d (.agg ds))) (K (.agg l))

theorem mkAggK_out {l : List AV} {K : AV → Prop} (h : mkAggK l K) : ∃ av, K av ∧ (∀ p, (∀ c, c ∈ l → c.ok p) → av.ok p) ∧
    ∀ w α X (vs : Array Value), l.length = vs.size → (∀ (j : Nat) (c : AV) (v : Value), l[j]? = some c → vs[j]? = some v → RdA w α X c v) → RdA w α X av (.agg vs) := by
  rcases allDK_out h with ⟨ds, rfl, hk⟩ | hk
  · refine ⟨_, hk, fun p _ => .d _, fun w α X vs hl hr => .d _ _ (.agg ds vs (by simpa using hl) fun j c v hc hv => ?_)⟩
    exact (hr j (.d c) v (by simp [hc]) hv).dinv
  · exact ⟨_, hk, fun p hp => .agg l hp, fun w α X vs hl hr => .agg l vs hl hr⟩

/-! ### Loads -/

theorem run_loadVar_agg {P : Program} {T : TypeId} {ti : TyI} (ht : TyOk P T ti) (hagg : ti.agg = true) (w : World) (b off : Nat) (f : Nat → Value)
    (h : ∀ j, j < ti.size → w.cell? ⟨b, off + j, none⟩ = some (f j)) : (loadVar T ⟨b, off, none⟩).run P w = .ok (.agg ((List.range ti.size).map f).toArray) w := by
  obtain ⟨⟨i, hi, hs, _, _⟩, u, hu, ha, _⟩ := ht
  have hc := run_loadCells (P := P) w ⟨b, off, none⟩ ti.size f (fun j hj => by
    rw [← h j hj]; congr 1; unfold Addr.add; split <;> simp_all)
  have hA : (isAgg T).run P w = .ok true w := by
    rw [← hagg, ← ha]
    simp only [isAgg]
    cases u <;> simp [underlying, hu, aggOf]
  have hS : (sizeOf T).run P w = .ok ti.size w := by simp [sizeOf, typeInfo, hi, hs]
  simp [loadVar, hA, hS, hc]

theorem run_loadVar_one {P : Program} {T : TypeId} {ti : TyI} (ht : TyOk P T ti) (hagg : ti.agg = false) (w : World) (a : Addr) (v : Value)
    (h : w.cell? a = some v) : (loadVar T a).run P w = .ok v w := by
  obtain ⟨_, u, hu, ha, _⟩ := ht
  have hA : (isAgg T).run P w = .ok false w := by
    rw [← hagg, ← ha]
    simp only [isAgg]
    cases u <;> simp [underlying, hu, aggOf]
  simp only [loadVar, Sem.run_bind, hA, Result.andThen]
  simp only [load, Sem.run, h, Bool.false_eq_true, if_false]

theorem cell_of {w : World} {b : Nat} {arr : Array Value} {T : TypeId} {fz : Nat × Nat} (h : w.heap[b]? = some (.cells arr T fz)) (o : Nat) :
    w.cell? ⟨b, o, none⟩ = arr[o]? := by simp [World.cell?, h]

/-- The whole datum, or a part of its cells. -/
def partK (x : D) (j : Nat) (ti : TyI) (K : AV → Prop) : Prop :=
  match ti.agg with
  | true => match j, Nat.beq x.cells.length ti.size with
    | 0, true => match x with | .agg cs => K (.d (.agg cs)) | _ => False
    | j, _ => takeK x.cells j ti.size fun r => K (.d (.agg r))
  | false => nthK x.cells j fun c => K (.d c)

theorem partK_out {x : D} {j : Nat} {ti : TyI} {K : AV → Prop} (h : partK x j ti K) :
    ∃ d, K (.d d) ∧ ((ti.agg = true ∧ ∃ r, d = .agg r ∧ r.length = ti.size ∧ ∀ m c, r[m]? = some c → x.cells[j + m]? = some c) ∨ (ti.agg = false ∧ x.cells[j]? = some d)) := by
  unfold partK at h
  split at h
  · rename_i hagg
    split at h
    · rename_i hb
      split at h
      · rename_i cs
        exact ⟨_, h, .inl ⟨hagg, cs, rfl, Nat.eq_of_beq_eq_true hb, fun m c hc => by simpa [D.cells] using hc⟩⟩
      · cases h
    · obtain ⟨r, h1, h2, h3⟩ := takeK_out h
      exact ⟨_, h3, .inl ⟨hagg, r, rfl, h1, h2⟩⟩
  · rename_i hagg
    obtain ⟨c, h1, h2⟩ := nthK_out h
    exact ⟨c, h2, .inr ⟨hagg, h1⟩⟩

theorem run_load_part {P : Program} {T : TypeId} {ti : TyI} (ht : TyOk P T ti) {w : World} {X : Nat → Prop} {x d : D} {j : Nat} {b off : Nat} {f : Nat → Value}
    (hd : (ti.agg = true ∧ ∃ r, d = .agg r ∧ r.length = ti.size ∧ ∀ m c, r[m]? = some c → x.cells[j + m]? = some c) ∨ (ti.agg = false ∧ x.cells[j]? = some d))
    (h1 : ∀ (m : Nat) (c : D), x.cells[m]? = some c → w.cell? ⟨b, off + m, none⟩ = some (f m)) (h2 : ∀ (m : Nat) (c : D), x.cells[m]? = some c → Rd w X c (f m)) :
    ∃ v, (loadVar T ⟨b, off + j, none⟩).run P w = .ok v w ∧ Rd w X d v := by
  rcases hd with ⟨hagg, r, rfl, hr, hc⟩ | ⟨hagg, hc⟩
  · refine ⟨_, run_loadVar_agg ht hagg w b (off + j) (fun m => f (j + m)) (fun m hm => ?_), ?_⟩
    · rw [Nat.add_assoc]
      exact h1 _ _ (hc m (r[m]'(by omega)) (by simp [hr, hm]))
    · refine .agg r _ (by simp [hr]) fun m c v hm hv => ?_
      have hlt : m < ti.size := by
        have := (List.getElem?_eq_some_iff.1 hm).1; omega
      simp [hlt] at hv
      subst hv
      exact h2 _ _ (hc m c hm)
  · exact ⟨_, run_loadVar_one ht hagg w _ _ (h1 j d hc), h2 j d hc⟩

end Go.Eng

/-
  The reckoning of the operations that leave the world alone, and that it speaks true.
-/
namespace Go.Eng

abbrev KO := AV → List (Nat × Option Ent) → List Nat → Prop

def szK (C : Ctx) (T : TypeId) (K : Nat → Prop) : Prop :=
  lookK C.tab T fun ti => match ti.kd with | .slice e => lookK C.tab e fun te => K te.size | _ => False

def evTK (C : Ctx) (st : AS) (T : TypeId) (x : Operand) (K : AV → Prop) : Prop :=
  match x with
  | .const (.slice none 0 0) => szK C T fun sz => K (.nl sz)
  | x => evK st x K

theorem evTK_out {C : Ctx} {st : AS} {T : TypeId} {x : Operand} {K : AV → Prop} (h : evTK C st T x K) : ∃ av, Ev st.ss.env x av ∧ K av := by
  unfold evTK at h
  split at h
  · unfold szK at h
    replace h := lookK_out h; obtain ⟨ti, _, h⟩ := h
    split at h
    · replace h := lookK_out h; obtain ⟨te, _, h⟩ := h
      exact ⟨_, .nl _, h⟩
    · cases h
  · exact evK_out h

theorem Ev.to {o : Oper} {x : Operand} {av : AV} {env env' : Nat → Option AV} (h : Ev env x av) (hx : x ∈ o.op.operands)
    (he : ∀ t, Operand.tmp t ∈ o.op.operands → ∀ av, env t = some av → env' t = some av) : Ev env' x av :=
  h.congr fun t e => he t (e ▸ hx)

section
variable {C : Ctx} {n : Nat} {o : Oper} {nm : Nat} {st : AS} {K : KO}

theorem move_out {x : Operand} (ho : o.op = .move x) (h : evTK C st o.type x fun a => K a [] []) : ∃ out upd rd, K out upd rd ∧ VOp C n o nm st rd out upd := by
  obtain ⟨av, h1, h2⟩ := evTK_out h
  refine ⟨_, _, _, h2, VOp.pure fun X0 F w0 p α S a w hs he _ => ?_⟩
  have hx := h1.to (by rw [ho]; simp [Op.operands]) he
  exact ⟨a.eval x, by simp [execOp, ho], hx.read hs, hx.ok hs⟩

theorem pick_out {c x y : Operand} (ho : o.op = .pick c x y)
    (h : evK st c fun vc => boolK vc fun t => BIf t (evK st x fun a => K a [] []) (evK st y fun a => K a [] [])) : ∃ out upd rd, K out upd rd ∧ VOp C n o nm st rd out upd := by
  obtain ⟨vc, h1, h2⟩ := evK_out h
  unfold boolK at h2
  split at h2
  · rename_i t
    rcases h2.out with ⟨rfl, h2⟩ | ⟨rfl, h2⟩
    · obtain ⟨av, h3, h4⟩ := evK_out h2
      refine ⟨_, _, _, h4, VOp.pure fun X0 F w0 p α S a w hs he _ => ?_⟩
      have hc := (h1.to (by rw [ho]; simp [Op.operands]) he).read hs
      have hx := h3.to (by rw [ho]; simp [Op.operands]) he
      exact ⟨a.eval x, by simp [execOp, ho, hc.dinv.binv, asBool], hx.read hs, hx.ok hs⟩
    · obtain ⟨av, h3, h4⟩ := evK_out h2
      refine ⟨_, _, _, h4, VOp.pure fun X0 F w0 p α S a w hs he _ => ?_⟩
      have hc := (h1.to (by rw [ho]; simp [Op.operands]) he).read hs
      have hx := h3.to (by rw [ho]; simp [Op.operands]) he
      exact ⟨a.eval y, by simp [execOp, ho, hc.dinv.binv, asBool], hx.read hs, hx.ok hs⟩
  · cases h2

theorem bin_out {op : BinOp} {T T' : TypeId} {x y : Operand} (ho : o.op = .binOp op T x y T')
    (h : evK st x fun a => evK st y fun b => binK C T op a b fun r => K r [] []) : ∃ out upd rd, K out upd rd ∧ VOp C n o nm st rd out upd := by
  replace h := evK_out h; obtain ⟨va, h1, h⟩ := h
  replace h := evK_out h; obtain ⟨vb, h2, h⟩ := h
  obtain ⟨d, h3, h4⟩ := binK_out h
  refine ⟨_, _, _, h3, VOp.pure fun X0 F w0 p α S a w hs he _ => ?_⟩
  have hx := (h1.to (by rw [ho]; simp [Op.operands]) he).read hs
  have hy := (h2.to (by rw [ho]; simp [Op.operands]) he).read hs
  obtain ⟨v, h5, h6⟩ := h4 w α _ _ _ x y hx hy
  refine ⟨v, ?_, .d _ _ h6, .d _⟩
  simp only [execOp, ho, Sem.run_bind]
  simp only [Sem.run_bind] at h5
  rw [h5]; simp [Result.andThen]

theorem un_out {op : UnOp} {T : TypeId} {x : Operand} (ho : o.op = .unOp op T x)
    (h : evK st x fun a => unK op a fun r => K r [] []) : ∃ out upd rd, K out upd rd ∧ VOp C n o nm st rd out upd := by
  replace h := evK_out h; obtain ⟨va, h1, h⟩ := h
  obtain ⟨d, h3, h4⟩ := unK_out (P := C.P) h
  refine ⟨_, _, _, h3, VOp.pure fun X0 F w0 p α S a w hs he _ => ?_⟩
  have hx := (h1.to (by rw [ho]; simp [Op.operands]) he).read hs
  obtain ⟨v, h5, h6⟩ := h4 w α _ _ hx
  exact ⟨v, by simp [execOp, ho, h5], .d _ _ h6, .d _⟩

def extrK (a : AV) (i : Nat) (K : AV → Prop) : Prop := match a with | .tup vs => nthK vs i K | _ => False

theorem extr_out {x : Operand} {i : Nat} (ho : o.op = .extract x i) (h : evK st x fun a => extrK a i fun r => K r [] []) : ∃ out upd rd, K out upd rd ∧ VOp C n o nm st rd out upd := by
  replace h := evK_out h; obtain ⟨va, h1, h⟩ := h
  unfold extrK at h
  split at h
  · rename_i vs
    obtain ⟨r, h2, h3⟩ := nthK_out h
    refine ⟨_, _, _, h3, VOp.pure fun X0 F w0 p α S a w hs he _ => ?_⟩
    have hx := h1.to (by rw [ho]; simp [Op.operands]) he
    have hr := hx.read hs
    have hk := hx.ok hs
    generalize hv : a.eval x = v at hr
    cases hr with
    | tup _ ws hl hc =>
      have hlt : i < ws.size := by rw [← hl]; exact (List.getElem?_eq_some_iff.1 h2).1
      refine ⟨ws[i], by simp [execOp, ho, hv, Instr.extract, hlt], hc i r _ h2 (by simp [hlt]), ?_⟩
      cases hk with | tup _ h => exact h r (List.mem_of_getElem? h2)
  · cases h

/-! #### Conversions that make nothing -/

def convK (C : Ctx) (T : TypeId) (a : AV) (K : AV → Prop) : Prop :=
  lookK C.tab T fun ti => match a, ti.kd with
    | .d (.i _ m), .int k => ArK k m fun r => K (.d (.i k r))
    | .d (.s l), .str => K (.d (.s l))
    | _, _ => False

theorem und_int {P : Program} {T : TypeId} {ti : TyI} {k : IntKind} (ht : TyOk P T ti) (hk : ti.kd = .int k) : P.underlying T = some (.int k) := by
  obtain ⟨_, u, hu, _, hc⟩ := ht
  rw [hk] at hc
  cases u <;> simp [chkKd] at hc
  rw [hu, kindB_eq hc]

theorem und_str {P : Program} {T : TypeId} {ti : TyI} (ht : TyOk P T ti) (hk : ti.kd = .str) : P.underlying T = some .string := by
  obtain ⟨_, u, hu, _, hc⟩ := ht
  rw [hk] at hc
  cases u <;> simp [chkKd] at hc
  exact hu

theorem und_slice {P : Program} {T e : TypeId} {ti : TyI} (ht : TyOk P T ti) (hk : ti.kd = .slice e) : P.underlying T = some (.slice e) := by
  obtain ⟨_, u, hu, _, hc⟩ := ht
  rw [hk] at hc
  cases u <;> simp [chkKd] at hc
  rw [hu, hc]

theorem und_array {P : Program} {T e m : TypeId} {ti : TyI} (ht : TyOk P T ti) (hk : ti.kd = .array m e) : P.underlying T = some (.array m e) := by
  obtain ⟨_, u, hu, _, hc⟩ := ht
  rw [hk] at hc
  cases u <;> simp [chkKd] at hc
  rw [hu, hc.1, hc.2]

theorem und_struct {P : Program} {T : TypeId} {ti : TyI} {os : List (Nat × Nat)} (ht : TyOk P T ti) (hk : ti.kd = .struct os) :
    ∃ fs, P.underlying T = some (.struct fs) ∧ offsB P os fs.toList = true := by
  obtain ⟨_, u, hu, _, hc⟩ := ht
  rw [hk] at hc
  cases u with
  | struct fs => exact ⟨fs, hu, hc⟩
  | _ => simp [chkKd] at hc

theorem conv_out {S T : TypeId} {x : Operand} (ho : o.op = .convert S T x) (hS : ∃ tS, look C.tab S = some tS) (h : evK st x fun a => convK C T a fun r => K r [] []) :
    ∃ out upd rd, K out upd rd ∧ VOp C n o nm st rd out upd := by
  replace h := evK_out h; obtain ⟨va, h1, h⟩ := h
  replace h := lookK_out h; obtain ⟨ti, hti, h⟩ := h
  obtain ⟨tS, htS⟩ := hS
  obtain ⟨_, uS, huS, _⟩ := C.ty htS
  split at h
  · rename_i k m k' hk
    have hT := und_int (C.ty hti) hk
    refine ⟨_, _, _, h.out, VOp.pure fun X0 F w0 p α S a w hs he _ => ?_⟩
    have hx := ((h1.to (by rw [ho]; simp [Op.operands]) he).read hs).dinv.iinv
    exact ⟨_, by simp [execOp, ho, hx, convert, underlying, huS, hT, Conv.intToInt], .d _ _ (.i _ _), .d _⟩
  · rename_i l hk
    have hT := und_str (C.ty hti) hk
    refine ⟨_, _, _, h, VOp.pure fun X0 F w0 p α S a w hs he _ => ?_⟩
    have hx := ((h1.to (by rw [ho]; simp [Op.operands]) he).read hs).dinv.sinv
    exact ⟨_, by simp [execOp, ho, hx, convert, underlying, huS, hT], .d _ _ (.s _), .d _⟩
  · cases h

/-! #### An index into a string, a slice, an array -/

/-- The part of an array's cells that is its element j. -/
def ElemAt (cs : List D) (sz : Nat) (agg : Bool) (j : Nat) (d : D) : Prop :=
  (agg = true ∧ ∃ r, d = .agg r ∧ r.length = sz ∧ ∀ m c, r[m]? = some c → cs[j * sz + m]? = some c) ∨ (agg = false ∧ cs[j * sz]? = some d)
/-- An index into an array of n elements. -/
structure ArrGK (cs : List D) (n sz : Nat) (agg : Bool) (i : Int) (K : D → Prop) : Prop where
  out : ∃ (j : Nat) (d : D), i = (j : Int) ∧ j < n ∧ ElemAt cs sz agg j d ∧ K d
theorem arr_at {cs : List D} {n : Nat} {i : Int} {K : D → Prop} (j : Nat) {d : D} (h : i = (j : Int)) (hn : j < n) (h1 : cs[j]? = some d) (h2 : K d) : ArrGK cs n 1 false i K :=
  ⟨j, d, h, hn, .inr ⟨rfl, by rw [Nat.mul_one]; exact h1⟩, h2⟩
theorem flat_get {sz : Nat} : ∀ {xs : List D}, (∀ x, x ∈ xs → x.cells.length = sz) → ∀ (j m : Nat) (x : D), xs[j]? = some x → m < sz → (xs.flatMap D.cells)[j * sz + m]? = x.cells[m]?
  | [], _, j, m, x, h, _ => by simp at h
  | y :: r, hall, 0, m, x, h, hm => by
    simp at h; subst h
    rw [List.flatMap_cons, Nat.zero_mul, Nat.zero_add, List.getElem?_append_left (by rw [hall y (by simp)]; exact hm)]
  | y :: r, hall, j + 1, m, x, h, hm => by
    have hy := hall y (by simp)
    rw [List.flatMap_cons, List.getElem?_append_right (by rw [hy, Nat.succ_mul]; omega), hy]
    have := flat_get (fun x hx => hall x (List.mem_cons_of_mem _ hx)) j m x (by simpa using h) hm
    rw [← this]; congr 1; rw [Nat.succ_mul]; omega
theorem arr_row {xs : List D} {n sz : Nat} {i : Int} {K : D → Prop} (j : Nat) {r : List D} (h : i = (j : Int)) (hn : j < n) (hall : ∀ x, x ∈ xs → x.cells.length = sz) (hx : xs[j]? = some (.agg r)) (h2 : K (.agg r)) :
    ArrGK (xs.flatMap D.cells) n sz true i K := by
  have hl := hall _ (List.mem_of_getElem? hx)
  refine ⟨j, _, h, hn, .inl ⟨rfl, r, rfl, hl, fun m c hc => ?_⟩, h2⟩
  have hm : m < sz := by rw [← hl]; exact (List.getElem?_eq_some_iff.1 hc).1
  rw [flat_get hall j m _ hx hm]; exact hc

def indexK (C : Ctx) (T : TypeId) (a i : AV) (K : AV → Prop) : Prop :=
  lookK C.tab T fun ti => intK i fun _ j => match a, ti.kd with
    | .d (.s l), .str => GetK j l fun _ c => K (.d (.i .u8 (c.toNat : Int)))
    | .d (.agg cs), .array n e => lookK C.tab e fun te => ArrGK cs n te.size te.agg j fun d => K (.d d)
    | _, _ => False

theorem run_part_agg {P : Program} {T : TypeId} {ti : TyI} (ht : TyOk P T ti) (w : World) (cs : Array Value) (off : Nat) (ha : ti.agg = true) : (part T cs off).run P w = .ok (.agg (cs.extract off (off + ti.size))) w := by
  obtain ⟨⟨i, hi, hs, _, _⟩, u, hu, hagg, _⟩ := ht
  have hA : (isAgg T).run P w = .ok true w := by
    rw [← ha, ← hagg]
    simp only [isAgg]
    cases u <;> simp [underlying, hu, aggOf]
  have hS : (sizeOf T).run P w = .ok ti.size w := by simp [sizeOf, typeInfo, hi, hs]
  simp [part, hA, hS]
theorem run_part_one {P : Program} {T : TypeId} {ti : TyI} (ht : TyOk P T ti) (w : World) (cs : Array Value) (off : Nat) (ha : ti.agg = false) {v : Value} (hv : cs[off]? = some v) : (part T cs off).run P w = .ok v w := by
  obtain ⟨_, u, hu, hagg, _⟩ := ht
  have hA : (isAgg T).run P w = .ok false w := by
    rw [← ha, ← hagg]
    simp only [isAgg]
    cases u <;> simp [underlying, hu, aggOf]
  simp [part, hA, hv]

/-- The part of a value's cells that reads as the element. -/
theorem elem_part {P : Program} {T : TypeId} {ti : TyI} (ht : TyOk P T ti) {w : World} {X : Nat → Prop} {cs : List D} {vs : Array Value} (hl : cs.length = vs.size) (hc : ∀ (j : Nat) (c : D) (v : Value), cs[j]? = some c → vs[j]? = some v → Rd w X c v)
    {j : Nat} {d : D} (h : ElemAt cs ti.size ti.agg j d) : ∃ v, (part T vs (j * ti.size)).run P w = .ok v w ∧ Rd w X d v := by
  rcases h with ⟨ha, r, rfl, hr, hm⟩ | ⟨ha, hd⟩
  · refine ⟨_, run_part_agg ht w vs _ ha, .agg r _ ?_ fun m c v h1 h2 => ?_⟩
    · have hle : j * ti.size + ti.size ≤ vs.size := by
        rcases Nat.eq_zero_or_pos ti.size with h0 | h0
        · rw [h0] at hr ⊢
          simp
        · have hlt : ti.size - 1 < r.length := by omega
          have := (List.getElem?_eq_some_iff.1 (hm (ti.size - 1) _ (List.getElem?_eq_getElem hlt))).1
          omega
      simp; omega
    · refine hc _ c v (hm m c h1) ?_
      simp only [Array.getElem?_extract] at h2
      split at h2
      · exact h2
      · cases h2
  · have hlt : j * ti.size < vs.size := by rw [← hl]; exact (List.getElem?_eq_some_iff.1 hd).1
    exact ⟨vs[j * ti.size], run_part_one ht w vs _ ha (Array.getElem?_eq_getElem hlt), hc _ d _ hd (Array.getElem?_eq_getElem hlt)⟩

theorem index_out {T : TypeId} {x ix : Operand} (ho : o.op = .index T x ix) (h : evK st x fun a => evK st ix fun i => indexK C T a i fun r => K r [] []) :
    ∃ out upd rd, K out upd rd ∧ VOp C n o nm st rd out upd := by
  replace h := evK_out h; obtain ⟨va, h1, h⟩ := h
  replace h := evK_out h; obtain ⟨vi, h2, h⟩ := h
  replace h := lookK_out h; obtain ⟨ti, hti, h⟩ := h
  unfold intK at h
  split at h
  · rename_i k j
    split at h
    · rename_i l hk
      have hT := und_str (C.ty hti) hk
      obtain ⟨m, c, rfl, hc, h⟩ := h
      refine ⟨_, _, _, h, VOp.pure fun X0 F w0 p α S a w hs he _ => ?_⟩
      have hx := ((h1.to (by rw [ho]; simp [Op.operands]) he).read hs).dinv.sinv
      have hi := ((h2.to (by rw [ho]; simp [Op.operands]) he).read hs).dinv.iinv
      refine ⟨_, ?_, .d _ _ (.i _ _), .d _⟩
      have hlt : m < l.length := (List.getElem?_eq_some_iff.1 hc).1
      have hg : (ByteArray.mk l.toArray)[m]? = some c := by
        rw [getElem?_pos _ m (by simpa [ByteArray.size] using hlt)]
        have h3 := (List.getElem?_eq_some_iff.1 hc).2
        exact congrArg some (show (l.toArray)[m]'(by simpa using hlt) = c by simpa using h3)
      simp [execOp, ho, hx, hi, Instr.index, asIntOf, underlying, hT, hg]
    · rename_i cs m e hk
      replace h := lookK_out h; obtain ⟨te, hte, h⟩ := h
      obtain ⟨q, d, rfl, hq, hel, h⟩ := h
      have hT := und_array (C.ty hti) hk
      refine ⟨_, _, _, h, VOp.pure fun X0 F w0 p α S a w hs he _ => ?_⟩
      have hx := ((h1.to (by rw [ho]; simp [Op.operands]) he).read hs).dinv
      have hi := ((h2.to (by rw [ho]; simp [Op.operands]) he).read hs).dinv.iinv
      generalize hvx : a.eval x = vx at hx
      cases hx with
      | agg _ vs hl hc =>
        obtain ⟨v, hv, hr⟩ := elem_part (C.ty hte) (w := w) hl hc hel
        refine ⟨v, ?_, .d _ _ hr, .d _⟩
        have hS : (sizeOf e).run C.P w = .ok te.size w := by
          obtain ⟨⟨i, hi, hs, _, _⟩, _⟩ := C.ty hte
          simp [sizeOf, typeInfo, hi, hs]
        have hq' : (0 : Int) ≤ (q : Int) ∧ (q : Int) < (m : Int) := by omega
        simp [execOp, ho, hvx, hi, Instr.index, asIntOf, underlying, hT, hq, hS, hv]
    · cases h
  · cases h

/-! #### Lengths, the least, the greatest -/

def lenK (st : AS) (a : AV) (K : Nat → List Nat → Prop) : Prop :=
  match a with
  | .d (.s l) => K l.length []
  | .d (.sl _ xs) => K xs.length []
  | .nl _ => K 0 []
  | .os k => ownK st k fun e => match e with | .buf _ xs _ => K xs.length [k] | _ => False
  | _ => False

def isSl (kd : Kd) (a : AV) : Bool :=
  match kd, a with
  | .str, .d (.s _) => true
  | .slice _, .d (.sl _ _) => true
  | .slice _, .nl _ => true
  | .slice _, .os _ => true
  | _, _ => false

theorem Rd.slinv {w : World} {X : Nat → Prop} {sz : Nat} {xs : List D} {v : Value} (h : Rd w X (.sl sz xs) v) : ∃ b cap, v = .slice b xs.length cap := by
  cases h with
  | slnil => exact ⟨none, 0, rfl⟩
  | sle _ a cap => exact ⟨some a, cap, rfl⟩
  | sl _ _ blk off m cap arr T fz f _ _ hl => exact ⟨_, _, by rw [hl]⟩

theorem os_len {G : List Gl} {X0 : Nat → Prop} {F : Fr} {w0 : World} {n : Nat} {p : Nat → Prop} {α : Nat → Loc} {S : SS} {a : Act} {w : World}
    (hs : Sim G X0 F w0 n p α S a w) {k sz : Nat} {xs : List D} {T0 : Option TypeId} (h : S.own k = some (.buf sz xs T0)) : ∃ b cap, (α k).hv = .slice b xs.length cap := by
  rcases hs.own k _ h with ⟨_, ⟨sz', _, he⟩, hv⟩ | ⟨_, arr, T, fz, cap, hB⟩
  · cases he; exact ⟨none, 0, hv⟩
  · exact ⟨_, _, hB.hv sz xs _ rfl⟩

theorem len_out {c : Call} {x : Operand} (ho : o.op = .call c) (hc : c.callee = .builtin .len) (ha : c.args = #[x]) {T : TypeId} (hT : c.argTypes = #[T])
    (h : evK st x fun a => lookK C.tab T fun ti => match isSl ti.kd a with | true => lenK st a fun m rd => K (.d (.i .i64 (m : Int))) [] rd | false => False) :
    ∃ out upd rd, K out upd rd ∧ VOp C n o nm st rd out upd := by
  replace h := evK_out h; obtain ⟨va, h1, h⟩ := h
  replace h := lookK_out h; obtain ⟨ti, hti, h⟩ := h
  have hmem : x ∈ o.op.operands := by rw [ho]; simp [Op.operands, Call.operands, hc, ha]
  have run : ∀ (a : Act) (w : World) (v : Value), (Builtin.len_ #[T] o.type #[a.eval x]).run C.P w = .ok v w → (execOp a.eval o).run C.P w = .ok (.value v) w := by
    intro a w v hv
    simp [execOp, ho, resolve, hc, ha, hT, invoke, builtin, hv]
  split at h
  · rename_i hsl
    unfold isSl at hsl
    split at hsl
    · rename_i l hk
      have hu := und_str (C.ty hti) hk
      refine ⟨_, _, _, h, VOp.pure fun X0 F w0 p α S a w hs he _ => ?_⟩
      have hx := ((h1.to hmem he).read hs).dinv.sinv
      exact ⟨_, run a w _ (by simp [Builtin.len_, hx, underlying, hu, goInt, size_mk]), .d _ _ (.i _ _), .d _⟩
    · rename_i e sz xs hk
      have hu := und_slice (C.ty hti) hk
      refine ⟨_, _, _, h, VOp.pure fun X0 F w0 p α S a w hs he _ => ?_⟩
      obtain ⟨b, cap, hx⟩ := ((h1.to hmem he).read hs).dinv.slinv
      exact ⟨_, run a w _ (by simp [Builtin.len_, hx, underlying, hu, goInt]), .d _ _ (.i _ _), .d _⟩
    · rename_i e sz hk
      have hu := und_slice (C.ty hti) hk
      refine ⟨_, _, _, h, VOp.pure fun X0 F w0 p α S a w hs he _ => ?_⟩
      have hx := (h1.to hmem he).read hs
      generalize hv : a.eval x = v at hx
      cases hx
      exact ⟨_, run a w _ (by simp [Builtin.len_, hv, underlying, hu, goInt]), .d _ _ (.i _ _), .d _⟩
    · rename_i e k hk
      have hu := und_slice (C.ty hti) hk
      replace h := ownK_out h; obtain ⟨en, hen, h⟩ := h
      split at h
      · rename_i sz xs T0
        refine ⟨_, _, _, h, VOp.pure fun X0 F w0 p α S a w hs he ho' => ?_⟩
        have hx := (h1.to hmem he).read hs
        generalize hv : a.eval x = v at hx
        cases hx
        obtain ⟨b, cap, hl⟩ := os_len hs (ho' k (by simp) _ hen)
        rw [hl] at hv
        exact ⟨_, run a w _ (by simp [Builtin.len_, hv, underlying, hu, goInt]), .d _ _ (.i _ _), .d _⟩
      · cases h
    · cases hsl
  · cases h

def minmaxK (mx : Bool) : List AV → (AV → Prop) → Prop
  | [.d (.i k x), .d (.i _ y)], K => match mx with | true => K (.d (.i k (max x y))) | false => K (.d (.i k (min x y)))
  | [.d (.i k x), .d (.i _ y), .d (.i _ z)], K => match mx with | true => K (.d (.i k (max (max x y) z))) | false => K (.d (.i k (min (min x y) z)))
  | _, _ => False

theorem minmax_out {c : Call} (mx : Bool) (ho : o.op = .call c) (hc : c.callee = .builtin (if mx then .max else .min))
    (h : evsK st c.args.toList fun as => minmaxK mx as fun r => K r [] []) : ∃ out upd rd, K out upd rd ∧ VOp C n o nm st rd out upd := by
  replace h := evsK_out h; obtain ⟨as, h1, h⟩ := h
  unfold minmaxK at h
  split at h
  · rename_i k x k' y
    obtain ⟨ox, oy, hxy⟩ : ∃ ox oy, c.args = #[ox, oy] := by
      have := h1.length
      generalize c.args = args at this
      obtain ⟨l⟩ := args
      match l, this with
      | [ox, oy], _ => exact ⟨ox, oy, rfl⟩
    rw [hxy] at h1
    have hm1 : ox ∈ o.op.operands := by rw [ho]; simp [Op.operands, Call.operands, hxy]
    have hm2 : oy ∈ o.op.operands := by rw [ho]; simp [Op.operands, Call.operands, hxy]
    cases h1 with
    | cons _ _ _ _ e1 h1 =>
    cases h1 with
    | cons _ _ _ _ e2 h1 =>
    cases mx with
    | true =>
      refine ⟨_, _, _, h, VOp.pure fun X0 F w0 p α S a w hs he _ => ?_⟩
      have hx := ((e1.to hm1 he).read hs).dinv.iinv
      have hy := ((e2.to hm2 he).read hs).dinv.iinv
      refine ⟨.int k (max x y), ?_, .d _ _ (.i _ _), .d _⟩
      have : (if x < y then y else x) = max x y := by omega
      simp [execOp, ho, resolve, hc, hxy, invoke, builtin, Builtin.max_, Builtin.max2, hx, hy, ← this]
    | false =>
      refine ⟨_, _, _, h, VOp.pure fun X0 F w0 p α S a w hs he _ => ?_⟩
      have hx := ((e1.to hm1 he).read hs).dinv.iinv
      have hy := ((e2.to hm2 he).read hs).dinv.iinv
      refine ⟨.int k (min x y), ?_, .d _ _ (.i _ _), .d _⟩
      have : (if y < x then y else x) = min x y := by omega
      simp [execOp, ho, resolve, hc, hxy, invoke, builtin, Builtin.min_, Builtin.min2, hx, hy, ← this]
  · rename_i k x k' y k'' z
    obtain ⟨ox, oy, oz, hxy⟩ : ∃ ox oy oz, c.args = #[ox, oy, oz] := by
      have := h1.length
      generalize c.args = args at this
      obtain ⟨l⟩ := args
      match l, this with
      | [ox, oy, oz], _ => exact ⟨ox, oy, oz, rfl⟩
    rw [hxy] at h1
    have hm1 : ox ∈ o.op.operands := by rw [ho]; simp [Op.operands, Call.operands, hxy]
    have hm2 : oy ∈ o.op.operands := by rw [ho]; simp [Op.operands, Call.operands, hxy]
    have hm3 : oz ∈ o.op.operands := by rw [ho]; simp [Op.operands, Call.operands, hxy]
    cases h1 with
    | cons _ _ _ _ e1 h1 =>
    cases h1 with
    | cons _ _ _ _ e2 h1 =>
    cases h1 with
    | cons _ _ _ _ e3 h1 =>
    cases mx with
    | true =>
      refine ⟨_, _, _, h, VOp.pure fun X0 F w0 p α S a w hs he _ => ?_⟩
      have hx := ((e1.to hm1 he).read hs).dinv.iinv
      have hy := ((e2.to hm2 he).read hs).dinv.iinv
      have hz := ((e3.to hm3 he).read hs).dinv.iinv
      refine ⟨.int k (max (max x y) z), ?_, .d _ _ (.i _ _), .d _⟩
      have h1 : (if x < y then y else x) = max x y := by omega
      have h2 : (if max x y < z then z else max x y) = max (max x y) z := by omega
      simp [execOp, ho, resolve, hc, hxy, invoke, builtin, Builtin.max_, Builtin.max2, hx, hy, hz, h1, h2]
    | false =>
      refine ⟨_, _, _, h, VOp.pure fun X0 F w0 p α S a w hs he _ => ?_⟩
      have hx := ((e1.to hm1 he).read hs).dinv.iinv
      have hy := ((e2.to hm2 he).read hs).dinv.iinv
      have hz := ((e3.to hm3 he).read hs).dinv.iinv
      refine ⟨.int k (min (min x y) z), ?_, .d _ _ (.i _ _), .d _⟩
      have h1 : (if y < x then y else x) = min x y := by omega
      have h2 : (if z < min x y then z else min x y) = min (min x y) z := by omega
      simp [execOp, ho, resolve, hc, hxy, invoke, builtin, Builtin.min_, Builtin.min2, hx, hy, hz, h1, h2]
  · cases h

end
end Go.Eng

/-
  Addresses, loads, slices of what is not written, aggregates: their reckoning, and that it speaks true.
-/
namespace Go.Eng

def addK (i j : Nat) (K : Nat → Prop) : Prop := match i with | 0 => K j | i => K (i + j)
theorem addK_out {i j : Nat} {K : Nat → Prop} (h : addK i j K) : K (i + j) := by
  unfold addK at h
  split at h
  · simpa using h
  · exact h

theorem Addr.add_mk (b off n : Nat) : (Addr.mk b off none).add n = ⟨b, off + n, none⟩ := by
  unfold Addr.add; split <;> simp_all

theorem gl_at {G : List Gl} {X0 : Nat → Prop} {F : Fr} {w0 : World} {n : Nat} {p : Nat → Prop} {α : Nat → Loc} {S : SS} {a : Act} {w : World}
    (hs : Sim G X0 F w0 n p α S a w) {x : Gl} (hx : x ∈ G) : ∃ arr T fz, w.heap[x.g]? = some (.cells arr T fz) ∧ ¬ XX α S.own X0 x.g ∧ arr.size = x.xs.length * x.sz ∧
      (∀ (j : Nat) (d : D), x.xs[j]? = some d → d.wd x.sz) ∧
      ∀ (j m : Nat) (d c : D), x.xs[j]? = some d → d.cells[m]? = some c → ∃ v, arr[j * x.sz + m]? = some v ∧ Rd w (XX α S.own X0) c v := by
  obtain ⟨h1, h2, h3, arr, T, fz, h4, hsz, h5, h6⟩ := hs.gl x hx
  have hX : ∀ b, b < w0.heap.size → ¬ (X0 b ∨ F b) → ¬ XX α S.own X0 b := by
    rintro b hb hn (⟨k, e, hk, hnil, rfl⟩ | h0)
    · rcases (hs.mine k e hk hnil).1 with hge | hf
      · omega
      · exact hn (.inr hf)
    · exact hn (.inl h0)
  refine ⟨arr, T, fz, by rw [hs.fr x.g h1 h2]; exact h4, hX x.g h1 (fun h => h.elim h3 h2), hsz, h5, fun j m d c hj hm => ?_⟩
  obtain ⟨v, hv, hr⟩ := h6 j m d c hj hm
  refine ⟨v, hv, hr.mono fun b o hb hnx => ?_⟩
  have hlt : b < w0.heap.size := by
    rcases Nat.lt_or_ge b w0.heap.size with h | h
    · exact h
    · rw [Array.getElem?_eq_none h] at hb; cases hb
  exact ⟨by rw [hs.fr b hlt fun hf => hnx (.inr hf)]; exact hb, hX b hlt hnx⟩

def glK (C : Ctx) (g : Nat) (K : Gl → Prop) : Prop := go C.G
where go : List Gl → Prop
  | [] => False
  | x :: l => match Nat.beq x.g g with | true => K x | false => go l

theorem glK_out {C : Ctx} {g : Nat} {K : Gl → Prop} (h : glK C g K) : ∃ x, x ∈ C.G ∧ x.g = g ∧ K x := by
  unfold glK at h
  generalize C.G = l at h
  induction l with
  | nil => cases h
  | cons x l ih =>
    simp only [glK.go] at h
    split at h
    · rename_i hb; exact ⟨x, List.mem_cons_self, Nat.eq_of_beq_eq_true hb, h⟩
    · obtain ⟨y, h1, h2⟩ := ih h; exact ⟨y, List.mem_cons_of_mem _ h1, h2⟩

/-! #### Addresses -/

def faddrK (C : Ctx) (T : TypeId) (f : Nat) (a : AV) (K : AV → Prop) : Prop :=
  lookK C.tab T fun ti => match ti.kd with
    | .struct os => nthK os f fun x => match a with
      | .op k i j => addK j x.1 fun j => K (.op k i j)
      | .pp d j => addK j x.1 fun j => K (.pp d j)
      | .gp _ => False
      | _ => False
    | _ => False

def iaddrK (C : Ctx) (st : AS) (T : TypeId) (a i : AV) (K : AV → List Nat → Prop) : Prop :=
  lookK C.tab T fun ti => intK i fun _ j => match ti.kd, a with
    | .slice e, .d (.sl sz xs) => lookK C.tab e fun te => match Nat.beq te.size sz with
      | true => GetK j xs fun _ x => K (.pp x 0) []
      | false => False
    | .slice e, .os k => lookK C.tab e fun te => ownK st k fun en => match en with
      | .buf sz xs _ => match Nat.beq te.size sz with
        | true => IdxK j xs.length fun j => K (.op k j 0) [k]
        | false => False
      | _ => False
    | .array m e, .op k 0 0 => lookK C.tab e fun te => ownK st k fun en => match en with
      | .arr sz xs => match Nat.beq te.size sz with
        | true => SameK m xs.length (IdxK j m fun j => K (.op k j 0) [k])
        | false => False
      | _ => False
    | .array m e, .gp g => lookK C.tab e fun te => glK C g fun gl => match Nat.beq te.size gl.sz, Nat.beq m gl.xs.length with
      | true, true => GetK j gl.xs fun _ x => K (.pp x 0) []
      | _, _ => False
    | _, _ => False

section
variable {C : Ctx} {n : Nat} {o : Oper} {nm : Nat} {st : AS} {K : KO}

def AV.isPtr : AV → Bool
  | .op .. | .pp .. | .gp .. => true
  | _ => false

theorem ne_nil_ptr {w : World} {α : Nat → Loc} {X : Nat → Prop} {a : AV} {v : Value} (h : RdA w α X a v) (ha : a.isPtr = true) : ∃ b, v = .pointer (some b) := by
  cases h <;> simp [AV.isPtr] at ha
  · exact ⟨_, rfl⟩
  · exact ⟨_, rfl⟩
  · exact ⟨_, rfl⟩

def nilK (a : AV) (K : AV → Prop) : Prop := match a with | .op k i j => K (.op k i j) | .pp d j => K (.pp d j) | .gp g => K (.gp g) | _ => False

theorem nil_out {x : Operand} (ho : o.op = .nilCheck x) (h : evK st x fun a => nilK a fun r => K r [] []) : ∃ out upd rd, K out upd rd ∧ VOp C n o nm st rd out upd := by
  replace h := evK_out h; obtain ⟨va, h1, h⟩ := h
  have hmem : x ∈ o.op.operands := by rw [ho]; simp [Op.operands]
  have fin : va.isPtr = true → K va [] [] → ∃ out upd rd, K out upd rd ∧ VOp C n o nm st rd out upd := by
    intro hp hk
    refine ⟨_, _, _, hk, VOp.pure fun X0 F w0 p α S a w hs he _ => ?_⟩
    have hx := h1.to hmem he
    obtain ⟨b, hb⟩ := ne_nil_ptr (hx.read hs) hp
    refine ⟨a.eval x, ?_, hx.read hs, hx.ok hs⟩
    simp [execOp, ho, hb]
  unfold nilK at h
  split at h
  · exact fin rfl h
  · exact fin rfl h
  · exact fin rfl h
  · cases h

theorem run_fieldAt {P : Program} {T : TypeId} {ti : TyI} {os : List (Nat × Nat)} (ht : TyOk P T ti) (hk : ti.kd = .struct os) {f : Nat} {x : Nat × Nat} (hx : os[f]? = some x)
    (b off : Nat) (w : World) : (Instr.fieldAt T (.pointer (some ⟨b, off, none⟩)) f).run P w = .ok (.pointer (some ⟨b, off + x.1, none⟩)) w := by
  obtain ⟨fs, hu, hB⟩ := und_struct ht hk
  obtain ⟨fd, i, hf, ho, hty, hi, hz⟩ := offsB_get hB f hx
  have hf' : fs[f]? = some fd := by simpa using hf
  have hfp : (fieldPlace ⟨b, off, none⟩ fd).run P w = .ok ⟨b, off + x.1, none⟩ w := by
    simp [fieldPlace, sizeOf, typeInfo, hi, hz, Addr.add_mk, ho]
  simp [Instr.fieldAt, underlying, hu, hf', Instr.sureAddr, hfp]

theorem faddr_out {T : TypeId} {x : Operand} {f : Nat} (ho : o.op = .fieldAddr T x f) (h : evK st x fun a => faddrK C T f a fun r => K r [] []) :
    ∃ out upd rd, K out upd rd ∧ VOp C n o nm st rd out upd := by
  replace h := evK_out h; obtain ⟨va, h1, h⟩ := h
  have hmem : x ∈ o.op.operands := by rw [ho]; simp [Op.operands]
  unfold faddrK at h
  replace h := lookK_out h; obtain ⟨ti, hti, h⟩ := h
  cases hk : ti.kd with
  | struct os =>
    simp only [hk] at h
    replace h := nthK_out h; obtain ⟨y, hy, h⟩ := h
    cases va with
    | op k i j =>
      simp only at h
      replace h := addK_out h
      refine ⟨_, _, _, h, VOp.pure fun X0 F w0 p α S a w hs he _ => ?_⟩
      have hx := h1.to hmem he
      have hr := hx.read hs
      generalize hv : a.eval x = v at hr
      cases hr
      refine ⟨_, by simp [execOp, ho, hv, run_fieldAt (C.ty hti) hk hy]; rfl, ?_, ?_⟩
      · rw [Nat.add_assoc]; exact .op k i (j + y.1)
      · have := hx.ok hs; cases this with | op _ _ _ hk => exact .op _ _ _ hk
    | pp d j =>
      simp only at h
      replace h := addK_out h
      refine ⟨_, _, _, h, VOp.pure fun X0 F w0 p α S a w hs he _ => ?_⟩
      have hx := h1.to hmem he
      have hr := hx.read hs
      generalize hv : a.eval x = v at hr
      cases hr with
      | pp _ _ blk off arr U fz g hh hX h2 h3 =>
        refine ⟨_, by simp [execOp, ho, hv, run_fieldAt (C.ty hti) hk hy]; rfl, ?_, .pp _ _⟩
        rw [Nat.add_assoc]; exact .pp d (j + y.1) blk off arr U fz g hh hX h2 h3
    | _ => simp only at h
  | _ => simp only [hk] at h

theorem run_size {P : Program} {T : TypeId} {ti : TyI} (ht : TyOk P T ti) (w : World) : (sizeOf T).run P w = .ok ti.size w := by
  obtain ⟨⟨i, hi, hs, _⟩, _⟩ := ht
  simp [sizeOf, typeInfo, hi, hs]

theorem run_indexAt_slice {P : Program} {T e : TypeId} {ti te : TyI} (ht : TyOk P T ti) (hk : ti.kd = .slice e) (hte : TyOk P e te) (b off len cap m : Nat) (k : IntKind) (hm : m < len) (w : World) :
    (Instr.indexAt T (.slice (some ⟨b, off, none⟩) len cap) (.int k (m : Int))).run P w = .ok (.pointer (some ⟨b, off + m * te.size, none⟩)) w := by
  have hu := und_slice ht hk
  have h1 : (0 : Int) ≤ (m : Int) ∧ (m : Int) < (len : Int) := by omega
  simp [Instr.indexAt, asIntOf, underlying, hu, run_size hte, Addr.add_mk, hm]

theorem run_indexAt_array {P : Program} {T e l : TypeId} {ti te : TyI} (ht : TyOk P T ti) (hk : ti.kd = .array l e) (hte : TyOk P e te) (b off m : Nat) (k : IntKind) (hm : m < l) (w : World) :
    (Instr.indexAt T (.pointer (some ⟨b, off, none⟩)) (.int k (m : Int))).run P w = .ok (.pointer (some ⟨b, off + m * te.size, none⟩)) w := by
  have hu := und_array ht hk
  simp [Instr.indexAt, asIntOf, underlying, hu, run_size hte, Addr.add_mk, hm, Instr.sureAddr]

theorem Rd.slget {w : World} {X : Nat → Prop} {sz : Nat} {xs : List D} {v : Value} (h : Rd w X (.sl sz xs) v) {m : Nat} {x : D} (hx : xs[m]? = some x) :
    ∃ blk off cap arr T fz, ∃ f : Nat → Value, v = .slice (some ⟨blk, off, none⟩) xs.length cap ∧ w.heap[blk]? = some (.cells arr T fz) ∧ ¬ X blk ∧
      (∀ (j : Nat) (c : D), x.cells[j]? = some c → arr[off + m * sz + j]? = some (f j)) ∧ ∀ (j : Nat) (c : D), x.cells[j]? = some c → Rd w X c (f j) := by
  cases h with
  | slnil => simp at hx
  | sle => simp at hx
  | sl _ _ blk off l cap arr T fz f hh hX hl _ _ h1 h2 =>
    exact ⟨blk, off, cap, arr, T, fz, f m, by rw [hl], hh, hX, fun j c hc => h1 m j x c hx hc, fun j c hc => h2 m j x c hx hc⟩

theorem iaddr_out {T : TypeId} {x ix : Operand} (ho : o.op = .indexAddr T x ix) (h : evK st x fun a => evK st ix fun i => iaddrK C st T a i fun r rd => K r [] rd) :
    ∃ out upd rd, K out upd rd ∧ VOp C n o nm st rd out upd := by
  replace h := evK_out h; obtain ⟨va, h1, h⟩ := h
  replace h := evK_out h; obtain ⟨vi, h2, h⟩ := h
  have hm1 : x ∈ o.op.operands := by rw [ho]; simp [Op.operands]
  have hm2 : ix ∈ o.op.operands := by rw [ho]; simp [Op.operands]
  unfold iaddrK at h
  replace h := lookK_out h; obtain ⟨ti, hti, h⟩ := h
  unfold intK at h
  split at h
  · rename_i ki j
    split at h
    · rename_i e sz xs hk
      replace h := lookK_out h; obtain ⟨te, hte, h⟩ := h
      split at h
      · rename_i hsz
        have hsz := Nat.eq_of_beq_eq_true hsz
        obtain ⟨m, y, rfl, hy, h⟩ := h
        refine ⟨_, _, _, h, VOp.pure fun X0 F w0 p α S a w hs he _ => ?_⟩
        have hi := ((h2.to hm2 he).read hs).dinv.iinv
        obtain ⟨blk, off, cap, arr, U, fz, f, hv, hh, hX, h3, h4⟩ := ((h1.to hm1 he).read hs).dinv.slget hy
        have hlt : m < xs.length := (List.getElem?_eq_some_iff.1 hy).1
        refine ⟨_, by simp [execOp, ho, hv, hi, run_indexAt_slice (C.ty hti) hk (C.ty hte) blk off xs.length cap m ki hlt]; rfl, ?_, .pp _ _⟩
        rw [hsz]
        exact .pp y 0 blk (off + m * sz) arr U fz f hh hX h3 h4
      · cases h
    · rename_i e k hk
      replace h := lookK_out h; obtain ⟨te, hte, h⟩ := h
      replace h := ownK_out h; obtain ⟨en, hen, h⟩ := h
      split at h
      · rename_i sz xs T0
        split at h
        · rename_i hsz
          have hsz := Nat.eq_of_beq_eq_true hsz
          obtain ⟨m, rfl, hm, h⟩ := h
          refine ⟨_, _, _, h, VOp.pure fun X0 F w0 p α S a w hs he ho' => ?_⟩
          have hi := ((h2.to hm2 he).read hs).dinv.iinv
          have hx := h1.to hm1 he
          have hr := hx.read hs
          generalize hv : a.eval x = v at hr
          cases hr
          rcases hs.own k _ (ho' k (by simp) _ hen) with ⟨_, ⟨sz', _, he'⟩, _⟩ | ⟨_, arr, U, fz, cap, hB⟩
          · cases he'; simp at hm
          · have hhv := hB.hv sz xs _ rfl
            rw [hhv] at hv
            refine ⟨_, by simp [execOp, ho, hv, hi, run_indexAt_slice (C.ty hti) hk (C.ty hte) (α k).blk (α k).off xs.length cap m ki hm]; rfl, ?_, ?_⟩
            · have hz := hB.hsz
              simp only [Ent.sz] at hz
              rw [hsz, ← hz]; exact .op k m 0
            · have := hx.ok hs; cases this with | os _ hk => exact .op _ _ _ hk
        · cases h
      · cases h
    · rename_i l e k hk
      replace h := lookK_out h; obtain ⟨te, hte, h⟩ := h
      replace h := ownK_out h; obtain ⟨en, hen, h⟩ := h
      split at h
      · rename_i sz xs
        split at h
        · rename_i hsz
          have hsz := Nat.eq_of_beq_eq_true hsz
          obtain ⟨hl, m, rfl, hm, h⟩ := h
          refine ⟨_, _, _, h, VOp.pure fun X0 F w0 p α S a w hs he ho' => ?_⟩
          have hi := ((h2.to hm2 he).read hs).dinv.iinv
          have hx := h1.to hm1 he
          have hr := hx.read hs
          generalize hv : a.eval x = v at hr
          cases hr
          rcases hs.own k _ (ho' k (by simp) _ hen) with ⟨_, ⟨sz', _, he'⟩, _⟩ | ⟨_, arr, U, fz, cap, hB⟩
          · cases he'
          · refine ⟨_, by simp [execOp, ho, hv, hi, run_indexAt_array (C.ty hti) hk (C.ty hte) (α k).blk _ m ki (by omega)]; rfl, ?_, ?_⟩
            · have hz := hB.hsz
              simp only [Ent.sz] at hz
              rw [hsz, ← hz]
              have := RdA.op (w := w) (α := α) (X := XX α S.own X0) k m 0
              simpa using this
            · have := hx.ok hs; cases this with | op _ _ _ hk => exact .op _ _ _ hk
        · cases h
      · cases h
    · rename_i l e g hk
      replace h := lookK_out h; obtain ⟨te, hte, h⟩ := h
      replace h := glK_out h; obtain ⟨gl, hgl, rfl, h⟩ := h
      split at h
      · rename_i hsz hl
        have hsz := Nat.eq_of_beq_eq_true hsz
        have hl := Nat.eq_of_beq_eq_true hl
        obtain ⟨m, y, rfl, hy, h⟩ := h
        refine ⟨_, _, _, h, VOp.pure fun X0 F w0 p α S a w hs he _ => ?_⟩
        have hi := ((h2.to hm2 he).read hs).dinv.iinv
        have hr := (h1.to hm1 he).read hs
        generalize hv : a.eval x = v at hr
        cases hr
        have hlt : m < gl.xs.length := (List.getElem?_eq_some_iff.1 hy).1
        obtain ⟨arr, U, fz, hh, hX, _, _, h4⟩ := gl_at hs hgl
        refine ⟨_, by simp [execOp, ho, hv, hi, run_indexAt_array (C.ty hti) hk (C.ty hte) gl.g 0 m ki (by omega)]; rfl, ?_, .pp _ _⟩
        rw [hsz]
        have hval : ∀ (j : Nat) (c : D), y.cells[j]? = some c → arr[m * gl.sz + j]? = some (arr.getD (m * gl.sz + j) undef) ∧ Rd w (XX α S.own X0) c (arr.getD (m * gl.sz + j) undef) := by
          intro j c hc
          obtain ⟨v, hv, hr⟩ := h4 m j y c hy hc
          simp [Array.getD_eq_getD_getElem?, hv, hr]
        have := RdA.pp (α := α) y 0 gl.g (m * gl.sz) arr U fz (fun j => arr.getD (m * gl.sz + j) undef) hh hX (fun j c hc => (hval j c hc).1) fun j c hc => (hval j c hc).2
        simpa using this
      · cases h
    · cases h
  · cases h

/-! #### Loads -/

structure AtK {β : Type} (xs : List β) (i : Nat) (K : β → Prop) : Prop where
  out : ∃ x, xs[i]? = some x ∧ K x
theorem at_is {β : Type} {xs : List β} {i : Nat} {K : β → Prop} {x : β} (h : xs[i]? = some x) (h1 : K x) : AtK xs i K := ⟨x, h, h1⟩

/-- A whole array's elements, one after the other. -/
structure WholeK (xs : List D) (n : Nat) (K : List D → Prop) : Prop where
  out : ∃ ds, xs.flatMap D.cells = ds ∧ ds.length = n ∧ K ds
theorem whole_is {xs ds : List D} {n : Nat} {K : List D → Prop} (h : xs.flatMap D.cells = ds) (hl : ds.length = n) (h1 : K ds) : WholeK xs n K := ⟨ds, h, hl, h1⟩
theorem flat_ints {k : IntKind} : ∀ l : List Int, (l.map (D.i k)).flatMap D.cells = l.map (D.i k)
  | [] => rfl
  | x :: r => by rw [List.map_cons, List.flatMap_cons, flat_ints r]; rfl
theorem whole_i {k : IntKind} {l : List Int} {n : Nat} {K : List D → Prop} (hl : l.length = n) (h1 : K (l.map (.i k))) : WholeK (l.map (.i k)) n K := ⟨_, flat_ints l, by simpa using hl, h1⟩
theorem flat_split {sz : Nat} : ∀ {xs : List D}, (∀ x, x ∈ xs → x.cells.length = sz) → ∀ {q : Nat} {c : D}, (xs.flatMap D.cells)[q]? = some c → ∃ j m x, q = j * sz + m ∧ xs[j]? = some x ∧ x.cells[m]? = some c
  | [], _, q, c, h => by simp at h
  | y :: r, hall, q, c, h => by
    have hy := hall y (by simp)
    rw [List.flatMap_cons] at h
    by_cases hq : q < y.cells.length
    · rw [List.getElem?_append_left hq] at h
      exact ⟨0, q, y, by omega, rfl, h⟩
    · rw [List.getElem?_append_right (by omega)] at h
      obtain ⟨j, m, x, e, h1, h2⟩ := flat_split (fun x hx => hall x (List.mem_cons_of_mem _ hx)) h
      refine ⟨j + 1, m, x, ?_, by simpa using h1, h2⟩
      rw [Nat.succ_mul]; omega

def loadK (C : Ctx) (st : AS) (T : TypeId) (a : AV) (K : AV → List Nat → Prop) : Prop :=
  lookK C.tab T fun ti => match a with
    | .pp x j => partK x j ti fun r => K r []
    | .gp g => glK C g fun gl => match ti.agg with
      | false => (match gl.xs, gl.sz with | [d], 1 => nthK d.cells 0 fun c => K (.d c) [] | _, _ => False)
      | true => (match Nat.beq ti.size (gl.xs.length * gl.sz) with | true => K (.d (.agg (gl.xs.flatMap D.cells))) [] | false => False)
    | .op k i j => ownK st k fun en => match en with
      | .box cs _ => match i with
        | 0 => match ti.agg with
          | true => takeK cs j ti.size fun r => mkAggK r fun v => K v [k]
          | false => nthK cs j fun c => K c [k]
        | _ => False
      | .buf _ xs _ => AtK xs i fun x => partK x j ti fun r => K r [k]
      | .arr _ xs => match ti.kd with
        | .array _ _ => match i, j with
          | 0, 0 => WholeK xs ti.size fun ds => K (.d (.agg ds)) [k]
          | _, _ => False
        | _ => AtK xs i fun x => partK x j ti fun r => K r [k]
      | _ => False
    | _ => False

theorem cell_d {e : Ent} {xs : List D} (he : e.cell = fun i j => (xs[i]?).bind fun x => (x.cells[j]?).map .d) {i : Nat} {x : D} (hx : xs[i]? = some x) {m : Nat} {c : D} (hc : x.cells[m]? = some c) : e.cell i m = some (.d c) := by
  rw [he]; simp [hx, hc]

theorem load_elem {P : Program} {T : TypeId} {ti : TyI} (ht : TyOk P T ti) {w : World} {α : Nat → Loc} {X : Nat → Prop} {l : Loc} {e : Ent} {arr : Array Value} {U : TypeId} {fz : Nat × Nat} {cap : Nat}
    (hB : OwnB w α X l e arr U fz cap) {xs : List D} (he : e.cell = fun i j => (xs[i]?).bind fun x => (x.cells[j]?).map .d) {i j : Nat} {x d : D} (hx : xs[i]? = some x)
    (hd : (ti.agg = true ∧ ∃ r, d = .agg r ∧ r.length = ti.size ∧ ∀ m c, r[m]? = some c → x.cells[j + m]? = some c) ∨ (ti.agg = false ∧ x.cells[j]? = some d)) :
    ∃ v, (loadVar T ⟨l.blk, l.off + i * l.sz + j, none⟩).run P w = .ok v w ∧ Rd w X d v := by
  have hval : ∀ (m : Nat) (c : D), x.cells[m]? = some c → w.cell? ⟨l.blk, l.off + i * l.sz + m, none⟩ = some (arr.getD (l.off + i * l.sz + m) undef) ∧ Rd w X c (arr.getD (l.off + i * l.sz + m) undef) := by
    intro m c hc
    obtain ⟨v, hv, hr⟩ := hB.rd i m _ (cell_d he hx hc)
    rw [← hB.hsz] at hv
    rw [cell_of hB.heap]
    simp [Array.getD_eq_getD_getElem?, hv, hr.dinv]
  exact run_load_part ht hd (fun m c hc => (hval m c hc).1) fun m c hc => (hval m c hc).2

theorem load_core {T : TypeId} {va : AV} {K : AV → List Nat → Prop} (h : loadK C st T va K) :
    ∃ out rd, K out rd ∧ ∀ {X0 F w0} {p : Nat → Prop} {α S a w v0}, Sim C.G X0 F w0 n p α S a w → (∀ k, k ∈ rd → ∀ e, st.ss.own k = some e → S.own k = some e) → RdA w α (XX α S.own X0) va v0 →
      ∃ v, (∃ b, v0 = .pointer (some b) ∧ (loadVar T b).run C.P w = .ok v w) ∧ RdA w α (XX α S.own X0) out v ∧ out.ok p := by
  unfold loadK at h
  replace h := lookK_out h; obtain ⟨ti, hti, h⟩ := h
  split at h
  · rename_i y j
    replace h := partK_out h; obtain ⟨d, h, hd⟩ := h
    refine ⟨_, _, h, fun {X0 F w0 p α S a w v0} hs ho' hr => ?_⟩
    cases hr with
    | pp _ _ blk off arr U fz f hh hX h3 h4 =>
      obtain ⟨v, h5, h6⟩ := run_load_part (C.ty hti) hd (fun m c hc => by rw [cell_of hh]; exact h3 m c hc) h4
      exact ⟨v, ⟨_, rfl, h5⟩, .d _ _ h6, .d _⟩
  · rename_i g
    replace h := glK_out h; obtain ⟨gl, hgl, rfl, h⟩ := h
    split at h
    · rename_i hagg
      split at h
      · rename_i d hxs hsz
        replace h := nthK_out h; obtain ⟨c, hc, h⟩ := h
        refine ⟨_, _, h, fun {X0 F w0 p α S a w v0} hs ho' hr => ?_⟩
        cases hr
        obtain ⟨arr, U, fz, hh, hX, _, hw, h4⟩ := gl_at hs hgl
        obtain ⟨v, hv', hr⟩ := h4 0 0 d c (by rw [hxs]; rfl) hc
        exact ⟨v, ⟨_, rfl, run_loadVar_one (C.ty hti) hagg w _ _ (by rw [cell_of hh]; simpa using hv')⟩, .d _ _ hr, .d _⟩
      · cases h
    · rename_i hagg
      split at h
      · rename_i hsz
        have hsz := Nat.eq_of_beq_eq_true hsz
        refine ⟨_, _, h, fun {X0 F w0 p α S a w v0} hs ho' hr => ?_⟩
        cases hr
        obtain ⟨arr, U, fz, hh, hX, hz, hw, h4⟩ := gl_at hs hgl
        have hlen : ∀ (l : List D), (∀ x, x ∈ l → x.cells.length = gl.sz) → (l.flatMap D.cells).length = l.length * gl.sz := by
          intro l
          induction l with
          | nil => simp
          | cons y r ih =>
            intro hall
            rw [List.flatMap_cons, List.length_append, hall y (by simp), ih fun x hx => hall x (List.mem_cons_of_mem _ hx), List.length_cons, Nat.succ_mul]; omega
        have hall : ∀ x, x ∈ gl.xs → x.cells.length = gl.sz := by
          intro x hx
          obtain ⟨j, hj⟩ := List.mem_iff_getElem?.1 hx
          exact (hw j x hj).1
        have hget : ∀ q, q < ti.size → ∃ v, arr[q]? = some v ∧ ∀ c, (gl.xs.flatMap D.cells)[q]? = some c → Rd w (XX α S.own X0) c v := by
          intro q hq
          rw [hsz] at hq
          have hpos : 0 < gl.sz := by
            rcases Nat.eq_zero_or_pos gl.sz with h0 | h0
            · rw [h0] at hq; simp at hq
            · exact h0
          have hj : q / gl.sz < gl.xs.length := Nat.div_lt_of_lt_mul (by rw [Nat.mul_comm]; exact hq)
          have hm := Nat.mod_lt q hpos
          have hqe : q / gl.sz * gl.sz + q % gl.sz = q := by rw [Nat.mul_comm]; exact Nat.div_add_mod q gl.sz
          have hx : gl.xs[q / gl.sz]? = some gl.xs[q / gl.sz] := List.getElem?_eq_getElem hj
          have hfg := flat_get hall _ _ _ hx hm
          rw [hqe] at hfg
          have hcl := hall _ (List.getElem_mem hj)
          obtain ⟨v, hv, hr⟩ := h4 (q / gl.sz) (q % gl.sz) _ ((gl.xs[q / gl.sz]).cells[q % gl.sz]'(by omega)) hx (List.getElem?_eq_getElem (by omega))
          rw [hqe] at hv
          refine ⟨v, hv, fun c hc => ?_⟩
          rw [hfg, List.getElem?_eq_getElem (by omega)] at hc
          cases hc; exact hr
        refine ⟨_, ⟨_, rfl, run_loadVar_agg (C.ty hti) hagg w gl.g 0 (fun j => arr.getD j undef) fun j hj => ?_⟩, .d _ _ (.agg _ _ ?_ fun j c v h1 h2 => ?_), .d _⟩
        · obtain ⟨v, hv, _⟩ := hget j hj
          rw [cell_of hh, Nat.zero_add]; simp [Array.getD_eq_getD_getElem?, hv]
        · rw [hlen _ hall]; simp [hsz]
        · have h3 : j < ti.size := by
            have := (Array.getElem?_eq_some_iff.1 h2).1
            simpa using this
          obtain ⟨u, hv, hr⟩ := hget j h3
          have h4 : v = u := by
            simp [h3] at h2
            rw [← h2]; simp [Array.getD_eq_getD_getElem?, hv]
          rw [h4]; exact hr c h1
      · cases h
  · rename_i k i j
    replace h := ownK_out h; obtain ⟨en, hen, h⟩ := h
    split at h
    · rename_i cs
      split at h
      · split at h
        · rename_i hagg
          replace h := takeK_out h; obtain ⟨r, hr1, hr2, h⟩ := h
          replace h := mkAggK_out h; obtain ⟨av, h, hok, hrd⟩ := h
          refine ⟨_, _, h, fun {X0 F w0 p α S a w v0} hs ho' hr => ?_⟩
          have hso := ho' k (by simp) _ hen
          cases hr
          rcases hs.own k _ hso with ⟨_, ⟨sz', _, he'⟩, _⟩ | ⟨_, arr, U, fz, cap, hB⟩
          · cases he'
          · have hval : ∀ (m : Nat) (c : AV), r[m]? = some c → w.cell? ⟨(α k).blk, (α k).off + 0 * (α k).sz + j + m, none⟩ = some (arr.getD ((α k).off + 0 * (α k).sz + j + m) undef) ∧
                RdA w α (XX α S.own X0) c (arr.getD ((α k).off + 0 * (α k).sz + j + m) undef) := by
              intro m c hc
              obtain ⟨v, hv, hr⟩ := hB.rd 0 (j + m) c (by simp [Ent.cell, hr2 m c hc])
              rw [cell_of hB.heap]
              rw [← hB.hsz, ← Nat.add_assoc] at hv
              simp only [Array.getD_eq_getD_getElem?, hv]
              exact ⟨rfl, hr⟩
            refine ⟨_, ⟨_, rfl, run_loadVar_agg (C.ty hti) hagg w _ _ _ fun m hm => (hval m (r[m]'(by omega)) (by simp [hr1, hm])).1⟩, ?_, hok _ fun c hc => ?_⟩
            · refine hrd w α _ _ (by simp [hr1]) fun m c v hm hv' => ?_
              have hlt : m < ti.size := by
                have := (List.getElem?_eq_some_iff.1 hm).1; omega
              simp [hlt] at hv'
              subst hv'
              have := (hval m c hm).2
              simpa [Array.getD_eq_getD_getElem?] using this
            · obtain ⟨m, hm⟩ := List.mem_iff_getElem?.1 hc
              exact (hs.oko k _ hso).2 c (List.mem_of_getElem? (hr2 m c hm))
        · rename_i hagg
          replace h := nthK_out h; obtain ⟨c, hc, h⟩ := h
          refine ⟨_, _, h, fun {X0 F w0 p α S a w v0} hs ho' hr => ?_⟩
          have hso := ho' k (by simp) _ hen
          cases hr
          rcases hs.own k _ hso with ⟨_, ⟨sz', _, he'⟩, _⟩ | ⟨_, arr, U, fz, cap, hB⟩
          · cases he'
          · obtain ⟨v, hv', hr⟩ := hB.rd 0 j c (by simp [Ent.cell, hc])
            rw [← hB.hsz] at hv'
            exact ⟨v, ⟨_, rfl, run_loadVar_one (C.ty hti) hagg w _ _ (by rw [cell_of hB.heap]; exact hv')⟩, hr, (hs.oko k _ hso).2 c (List.mem_of_getElem? hc)⟩
      · cases h
    · rename_i sz xs T0
      obtain ⟨y, hy, h⟩ := h
      replace h := partK_out h; obtain ⟨d, h, hd⟩ := h
      refine ⟨_, _, h, fun {X0 F w0 p α S a w v0} hs ho' hr => ?_⟩
      cases hr
      rcases hs.own k _ (ho' k (by simp) _ hen) with ⟨_, ⟨sz', _, he'⟩, _⟩ | ⟨_, arr, U, fz, cap, hB⟩
      · cases he'; simp at hy
      · obtain ⟨v, h5, h6⟩ := load_elem (C.ty hti) hB rfl hy hd
        exact ⟨v, ⟨_, rfl, h5⟩, .d _ _ h6, .d _⟩
    · rename_i sz xs
      split at h
      · rename_i m e hk
        split at h
        · obtain ⟨ds, hfl, hln, h⟩ := h
          refine ⟨_, _, h, fun {X0 F w0 p α S a w v0} hs ho' hr => ?_⟩
          cases hr
          rcases hs.own k _ (ho' k (by simp) _ hen) with ⟨_, ⟨sz', _, he'⟩, _⟩ | ⟨_, arr, U, fz, cap, hB⟩
          · cases he'
          · have hagg : ti.agg = true := by
              obtain ⟨_, u, _, ha, hc⟩ := C.ty hti
              rw [hk] at hc
              cases u <;> simp [chkKd] at hc
              rw [← ha]; rfl
            have hall : ∀ x, x ∈ xs → x.cells.length = sz := fun x hx => by
              obtain ⟨j, hj⟩ := List.mem_iff_getElem?.1 hx
              exact (hB.wid j x hj).1
            have hval : ∀ q (hq : q < ti.size), ∃ v, w.cell? ⟨(α k).blk, (α k).off + 0 * (α k).sz + 0 + q, none⟩ = some v ∧ Rd w (XX α S.own X0) (ds[q]'(by omega)) v := fun q hq => by
              have h9 : (xs.flatMap D.cells)[q]? = some (ds[q]'(by omega)) := by rw [hfl]; exact List.getElem?_eq_getElem (by omega)
              obtain ⟨j, m, x, rfl, hx, hc⟩ := flat_split hall h9
              obtain ⟨v, hv, hrd⟩ := hB.rd j m _ (cell_d (e := .arr sz xs) rfl hx hc)
              refine ⟨v, ?_, hrd.dinv⟩
              rw [cell_of hB.heap, Nat.zero_mul, Nat.add_zero, ← Nat.add_assoc]
              exact hv
            obtain ⟨g, hg⟩ : ∃ g : Nat → Value, ∀ q (hq : q < ti.size), w.cell? ⟨(α k).blk, (α k).off + 0 * (α k).sz + 0 + q, none⟩ = some (g q) ∧ Rd w (XX α S.own X0) (ds[q]'(by omega)) (g q) :=
              ⟨fun q => if h : q < ti.size then (hval q h).choose else undef, fun q hq => by dsimp only; rw [dif_pos hq]; exact (hval q hq).choose_spec⟩
            refine ⟨_, ⟨_, rfl, run_loadVar_agg (C.ty hti) hagg w (α k).blk ((α k).off + 0 * (α k).sz + 0) g fun q hq => (hg q hq).1⟩, .d _ _ (.agg _ _ (by simp [hln]) fun q c v h1 h2 => ?_), .d _⟩
            have hq : q < ti.size := by
              have := (List.getElem?_eq_some_iff.1 h1).1; omega
            have h4 := (hg q hq).2
            have h5 : ds[q]'(by omega) = c := (List.getElem?_eq_some_iff.1 h1).2
            simp [hq] at h2
            rw [h2, h5] at h4
            exact h4
        · cases h
      · obtain ⟨y, hy, h⟩ := h
        replace h := partK_out h; obtain ⟨d, h, hd⟩ := h
        refine ⟨_, _, h, fun {X0 F w0 p α S a w v0} hs ho' hr => ?_⟩
        cases hr
        rcases hs.own k _ (ho' k (by simp) _ hen) with ⟨_, ⟨sz', _, he'⟩, _⟩ | ⟨_, arr, U, fz, cap, hB⟩
        · cases he'
        · obtain ⟨v, h5, h6⟩ := load_elem (C.ty hti) hB rfl hy hd
          exact ⟨v, ⟨_, rfl, h5⟩, .d _ _ h6, .d _⟩
    · cases h
  · cases h

theorem load_out {T : TypeId} {x : Operand} (ho : o.op = .load T x) (h : evK st x fun a => loadK C st T a fun r rd => K r [] rd) :
    ∃ out upd rd, K out upd rd ∧ VOp C n o nm st rd out upd := by
  replace h := evK_out h; obtain ⟨va, h1, h⟩ := h
  have hmem : x ∈ o.op.operands := by rw [ho]; simp [Op.operands]
  obtain ⟨out, rd, hk, hrun⟩ := load_core (n := n) h
  refine ⟨_, _, _, hk, VOp.pure fun X0 F w0 p α S a w hs he ho' => ?_⟩
  obtain ⟨v, ⟨b, hb, hl⟩, hr, hok⟩ := hrun hs ho' ((h1.to hmem he).read hs)
  exact ⟨v, by simp [execOp, ho, hb, Instr.loadAt, Instr.sureAddr, hl], hr, hok⟩

end
end Go.Eng

/-
  Operations that make a block, write one, or hand one on: the two general steps.
-/
namespace Go.Eng

theorem fam_mk (nm c : Nat) (h : c < 16) : fam nm (16 * nm + c) := by unfold fam; omega

def updLoc (α : Nat → Loc) (k : Nat) (l : Loc) : Nat → Loc := fun j => if j = k then l else α j

theorem look_kills {β : Type} (kills : List Nat) (k : Nat) : look (kills.map fun k => (k, (none : Option β))) k = none ∨ (look (kills.map fun k => (k, (none : Option β))) k = some none ∧ k ∈ kills) := by
  induction kills with
  | nil => exact .inl rfl
  | cons x l ih =>
    simp only [List.map_cons, look]
    split
    · rename_i hb; exact .inr ⟨rfl, by rw [Nat.eq_of_beq_eq_true hb]; exact List.mem_cons_self⟩
    · rcases ih with h | ⟨h, hm⟩
      · exact .inl h
      · exact .inr ⟨h, List.mem_cons_of_mem _ hm⟩

/-- What must be shown of a block that is made. -/
structure Made (w w' : World) (α : Nat → Loc) (X : Nat → Prop) (p : Nat → Prop) (e : Ent) (hv : Value) (arr : Array Value) (T : TypeId) (fz : Nat × Nat) (cap : Nat) : Prop where
  heap : w'.heap = w.heap.push (.cells arr T fz)
  os : w'.os = w.os
  tape : w'.tape = w.tape
  output : w'.output = w.output
  len : e.len ≤ cap
  bnd : cap * e.sz ≤ arr.size
  nf : fz.1 ≤ fz.2 ∧ ∀ o, o < cap * e.sz → ¬ (fz.1 ≤ o ∧ o < fz.2)
  wid : e.wide
  rd : ∀ (j m : Nat) (c : AV), e.cell j m = some c → ∃ u, arr[j * e.sz + m]? = some u ∧ RdA w α X c u
  vars : ∀ x, x ∈ e.vars → x.ok p
  hvb : ∀ sz xs T, e = .buf sz xs T → hv = .slice (some ⟨w.heap.size, 0, none⟩) xs.length cap
  hone : hv.oneCell' = true
  ty : ∀ U, e.ty = some U → T = U ∧ ∀ cs V, e = .box cs V → arr.size = cs.length

def makeUpd (nm : Nat) (e : Ent) (kills : List Nat) : List (Nat × Option Ent) := (16 * nm, some e) :: kills.map fun k => (k, none)

theorem makeUpd_look {nm : Nat} {e : Ent} {kills : List Nat} : ∀ k oe, look (makeUpd nm e kills) k = some oe → (k = 16 * nm ∧ oe = some e) ∨ (k ∈ kills ∧ oe = none) := by
    unfold makeUpd
    intro k oe hl
    simp only [look] at hl
    split at hl
    · rename_i hb
      exact .inl ⟨Nat.eq_of_beq_eq_true hb, by cases hl; rfl⟩
    · rcases look_kills (β := Ent) kills k with h | ⟨h, hm⟩
      · rw [h] at hl; cases hl
      · rw [h] at hl; cases hl; exact .inr ⟨hm, rfl⟩

theorem Sim.make {G : List Gl} {X0 : Nat → Prop} {F : Fr} {w0 : World} {n nm : Nat} {p : Nat → Prop} {α : Nat → Loc} {S : SS} {a : Act} {w w' : World} {e : Ent} {hv : Value} {arr : Array Value} {T : TypeId} {fz : Nat × Nat} {cap : Nat}
    (hs : Sim G X0 F w0 n p α S a w) (hp : ∀ k, fam nm k → ¬ p k) (hM : Made w w' α (XX α S.own X0) p e hv arr T fz cap) (kills : List Nat) (dst : Option Nat) (hd : ∀ d, dst = some d → d < n) (out : AV)
    (hout : out = .os (16 * nm) ∨ out = .op (16 * nm) 0 0) :
    ∃ α', Sim G X0 F w0 n (fun k => p k ∨ fam nm k) α' (S.upd dst out (makeUpd nm e kills)) (a.put dst (match out with | .os _ => hv | _ => .pointer (some ⟨w.heap.size, 0, none⟩))) w' := by
  have hlk := makeUpd_look (nm := nm) (e := e) (kills := kills)
  have hpn : ¬ p (16 * nm) := hp _ (fam_mk nm 0 (by omega))
  let L : Loc := ⟨w.heap.size, 0, e.sz, false, hv⟩
  have hLk : updLoc α (16 * nm) L (16 * nm) = L := by simp [updLoc]
  have hα : ∀ k, p k → updLoc α (16 * nm) L k = α k := by
    intro k hk
    have : k ≠ 16 * nm := fun h => hpn (h ▸ hk)
    simp [updLoc, this]
  refine ⟨updLoc α (16 * nm) L, hs.upd _ (fun k hk => .inl hk) _ w' dst hd out _ _ hα (by rw [hM.heap]; simp) hM.os hM.tape hM.output ?_ ?_ ?_ ?_ ?_ ?_ ?_⟩
  · intro b hb _
    rw [hM.heap, Array.getElem?_push_lt hb]; simp [hb]
  · intro k e' hl
    rcases hlk k _ hl with ⟨rfl, _⟩ | ⟨_, h⟩
    · exact .inr (fam_mk nm 0 (by omega))
    · cases h
  · intro k e' hl hnil
    rcases hlk k _ hl with ⟨rfl, h⟩ | ⟨_, h⟩
    · rw [hLk]; exact .inl (Nat.le_refl _)
    · cases h
  · intro k e1 k' e2 hl hl' _ _ _
    rcases hlk k _ hl with ⟨rfl, _⟩ | ⟨_, h⟩ <;> rcases hlk k' _ hl' with ⟨rfl, _⟩ | ⟨_, h'⟩
    · rfl
    · cases h'
    · cases h
    · cases h
  · intro hw k e' hl
    rcases hlk k _ hl with ⟨rfl, h⟩ | ⟨_, h⟩
    · cases h
      refine ⟨Own.ofC (.inr ⟨by rw [hLk], arr, T, fz, cap, ?_⟩), fun x hx => (hM.vars x hx).mono fun k hk => .inl hk⟩
      rw [hLk]
      refine ⟨?_, rfl, hM.len, ?_, ⟨hM.nf.1, fun o _ h2 => hM.nf.2 o (by simpa [L] using h2)⟩, hM.wid, fun j m c hc => ?_, fun sz xs T h => hM.hvb sz xs T h, hM.hone, fun U h => ⟨(hM.ty U h).1, rfl, (hM.ty U h).2⟩⟩
      · rw [hM.heap]; simp [L]
      · have := hM.bnd; simpa [L] using this
      · obtain ⟨u, h1, h2⟩ := hM.rd j m c hc
        exact ⟨u, by simpa [L] using h1, h2.mono hw hα (Ent.cell_ok hM.vars hc)⟩
    · cases h
  · intro hw
    rcases hout with rfl | rfl
    · have := RdA.os (w := w') (α := updLoc α (16 * nm) L) (X := XX (updLoc α (16 * nm) L) (S.upd dst (.os (16 * nm)) (makeUpd nm e kills)).own X0) (16 * nm) (by rw [hLk]; exact hM.hone)
      rw [hLk] at this
      exact this
    · have := RdA.op (w := w') (α := updLoc α (16 * nm) L) (X := XX (updLoc α (16 * nm) L) (S.upd dst (.op (16 * nm) 0 0) (makeUpd nm e kills)).own X0) (16 * nm) 0 0
      rw [hLk] at this
      simpa [L] using this
  · rcases hout with rfl | rfl
    · exact .os _ (.inr (fam_mk nm 0 (by omega)))
    · exact .op _ _ _ (.inr (fam_mk nm 0 (by omega)))


theorem VOp.make {C : Ctx} {n : Nat} {o : Oper} {nm : Nat} {st : AS} {rd kills : List Nat} {out : AV} {e : Ent} (hkr : ∀ k, k ∈ kills → k ∈ rd)
    (hout : out = .os (16 * nm) ∨ out = .op (16 * nm) 0 0)
    (H : ∀ (X0 : Nat → Prop) (F : Fr) (w0 : World) (p : Nat → Prop) (α : Nat → Loc) (S : SS) (a : Act) (w : World), Sim C.G X0 F w0 n p α S a w →
      (∀ t, Operand.tmp t ∈ o.op.operands → ∀ av, st.ss.env t = some av → S.env t = some av) → (∀ k, k ∈ rd → ∀ e, st.ss.own k = some e → S.own k = some e) →
      ∃ w' hv arr T fz cap, Made w w' α (XX α S.own X0) p e hv arr T fz cap ∧
        (execOp a.eval o).run C.P w = .ok (.value (match out with | .os _ => hv | _ => .pointer (some ⟨w.heap.size, 0, none⟩))) w') :
    VOp C n o nm st rd out (makeUpd nm e kills) := by
  have hlk := makeUpd_look (nm := nm) (e := e) (kills := kills)
  refine ⟨fun k oe hl => ?_, fun X0 F w0 p α S a w Q next hs he ho hp hd hn => ?_⟩
  · rcases hlk k oe hl with ⟨rfl, _⟩ | ⟨hk, _⟩
    · exact .inr (fam_mk nm 0 (by omega))
    · exact .inl (hkr k hk)
  obtain ⟨w', hv, arr, T, fz, cap, hM, hrun⟩ := H X0 F w0 p α S a w hs he ho
  obtain ⟨α', h⟩ := hs.make hp hM kills o.dst hd out hout
  exact wp_value hrun (hn α' _ w' h)

/-- An empty row without a block. -/
theorem Sim.nilrow {G : List Gl} {X0 : Nat → Prop} {F : Fr} {w0 : World} {n nm : Nat} {p : Nat → Prop} {α : Nat → Loc} {S : SS} {a : Act} {w : World} (hs : Sim G X0 F w0 n p α S a w) (hp : ∀ k, fam nm k → ¬ p k)
    (sz : Nat) (T0 : Option TypeId) (kills : List Nat) (dst : Option Nat) (hd : ∀ d, dst = some d → d < n) :
    ∃ α', Sim G X0 F w0 n (fun k => p k ∨ fam nm k) α' (S.upd dst (.os (16 * nm)) (makeUpd nm (.buf sz [] T0) kills)) (a.put dst (.slice none 0 0)) w := by
  have hlk := makeUpd_look (nm := nm) (e := Ent.buf sz [] T0) (kills := kills)
  let L : Loc := ⟨0, 0, sz, true, .slice none 0 0⟩
  have hpn : ¬ p (16 * nm) := hp _ (fam_mk nm 0 (by omega))
  have hLk : updLoc α (16 * nm) L (16 * nm) = L := by simp [updLoc]
  have hα : ∀ k, p k → updLoc α (16 * nm) L k = α k := by
    intro k hk
    have : k ≠ 16 * nm := fun h => hpn (h ▸ hk)
    simp [updLoc, this]
  refine ⟨updLoc α (16 * nm) L, hs.upd _ (fun k hk => .inl hk) _ w dst hd (.os (16 * nm)) _ _ hα (Nat.le_refl _) rfl rfl rfl (fun _ _ _ => rfl) ?_ ?_ ?_ ?_ ?_ (.os _ (.inr (fam_mk nm 0 (by omega))))⟩
  · intro k e hl
    rcases hlk k _ hl with ⟨rfl, _⟩ | ⟨_, h⟩
    · exact .inr (fam_mk nm 0 (by omega))
    · cases h
  · intro k e hl hnil
    rcases hlk k _ hl with ⟨rfl, _⟩ | ⟨_, h⟩
    · rw [hLk] at hnil; cases hnil
    · cases h
  · intro k e k' e' hl hl' _ _ _
    rcases hlk k _ hl with ⟨rfl, _⟩ | ⟨_, h⟩ <;> rcases hlk k' _ hl' with ⟨rfl, _⟩ | ⟨_, h'⟩
    · rfl
    · cases h'
    · cases h
    · cases h
  · intro _ k e hl
    rcases hlk k _ hl with ⟨rfl, h2⟩ | ⟨_, h⟩
    · cases h2
      refine ⟨.inl ?_, fun x hx => by cases hx⟩
      rw [hLk]
      exact ⟨rfl, ⟨sz, _, rfl⟩, rfl⟩
    · cases h
  · intro _
    have := RdA.os (w := w) (α := updLoc α (16 * nm) L) (X := XX (updLoc α (16 * nm) L) (S.upd dst (.os (16 * nm)) (makeUpd nm (.buf sz [] T0) kills)).own X0) (16 * nm) (by rw [hLk]; rfl)
    rw [hLk] at this
    exact this

/-- What must be shown of a block that is written: it held entry e0 of name k, it holds e. -/
structure Wrote (w w' : World) (α : Nat → Loc) (X : Nat → Prop) (p : Nat → Prop) (l : Loc) (e : Ent) (hv : Value) (arr : Array Value) (T : TypeId) (fz : Nat × Nat) (cap : Nat) : Prop where
  heap : w'.heap[l.blk]? = some (.cells arr T fz)
  other : ∀ b, b ≠ l.blk → w'.heap[b]? = w.heap[b]?
  size : w'.heap.size = w.heap.size
  os : w'.os = w.os
  tape : w'.tape = w.tape
  output : w'.output = w.output
  hsz : l.sz = e.sz
  len : e.len ≤ cap
  bnd : l.off + cap * e.sz ≤ arr.size
  nf : fz.1 ≤ fz.2 ∧ ∀ o, l.off ≤ o → o < l.off + cap * e.sz → ¬ (fz.1 ≤ o ∧ o < fz.2)
  wid : e.wide
  rd : ∀ (j m : Nat) (c : AV), e.cell j m = some c → ∃ u, arr[l.off + j * e.sz + m]? = some u ∧ RdA w α X c u
  vars : ∀ x, x ∈ e.vars → x.ok p
  hvb : ∀ sz xs T, e = .buf sz xs T → hv = .slice (some ⟨l.blk, l.off, none⟩) xs.length cap
  hone : hv.oneCell' = true
  ty : ∀ U, e.ty = some U → T = U ∧ l.off = 0 ∧ ∀ cs V, e = .box cs V → arr.size = cs.length

def wrUpd (same : Bool) (k nm : Nat) (e : Ent) : List (Nat × Option Ent) := match same with | true => [(k, some e)] | false => [(16 * nm, some e), (k, none)]
def wrName (same : Bool) (k nm : Nat) : Nat := match same with | true => k | false => 16 * nm

theorem wrUpd_look {same : Bool} {k nm : Nat} {e : Ent} : (∀ j oe, look (wrUpd same k nm e) j = some oe → (j = wrName same k nm ∧ oe = some e) ∨ (same = false ∧ j = k ∧ oe = none)) ∧
    (look (wrUpd same k nm e) k).isSome = true := by
  have hlk : ∀ j oe, look (wrUpd same k nm e) j = some oe →
      (j = (wrName same k nm) ∧ oe = some e) ∨ (same = false ∧ j = k ∧ oe = none) := by
    intro j oe hl
    cases same <;> simp only [look, wrUpd] at hl
    · split at hl
      · rename_i hb; exact .inl ⟨Nat.eq_of_beq_eq_true hb, by cases hl; rfl⟩
      · split at hl
        · rename_i hb; exact .inr ⟨rfl, Nat.eq_of_beq_eq_true hb, by cases hl; rfl⟩
        · cases hl
    · split at hl
      · rename_i hb; exact .inl ⟨Nat.eq_of_beq_eq_true hb, by cases hl; rfl⟩
      · cases hl
  have hlk' : (look (wrUpd same k nm e) k).isSome = true := by
    cases same <;> simp [look, wrUpd]
    split <;> simp
  exact ⟨hlk, hlk'⟩

theorem Sim.write {G : List Gl} {X0 : Nat → Prop} {F : Fr} {w0 : World} {n nm : Nat} {p : Nat → Prop} {α : Nat → Loc} {S : SS} {a : Act} {w w' : World} {e0 e : Ent} {k : Nat} {hv : Value} {arr : Array Value} {T : TypeId} {fz : Nat × Nat} {cap : Nat}
    (hs : Sim G X0 F w0 n p α S a w) (hp : ∀ k, fam nm k → ¬ p k) (same : Bool) (hSk : S.own k = some e0) (hnil : (α k).nil = false) (hM : Wrote w w' α (XX α S.own X0) p (α k) e hv arr T fz cap)
    (hsm : same = true → hv = (α k).hv) (dst : Option Nat) (hd : ∀ d, dst = some d → d < n) (out : AV) (v : Value) (hout : out = .any ∨ (same = false ∧ out = .os (16 * nm))) (hvv : out = .any ∨ v = hv) :
    ∃ α', Sim G X0 F w0 n (fun k => p k ∨ fam nm k) α' (S.upd dst out (wrUpd same k nm e)) (a.put dst v) w' := by
  obtain ⟨hlk, hlk'⟩ := wrUpd_look (same := same) (k := k) (nm := nm) (e := e)
  have hpk : p k := (hs.oko k e0 hSk).1
  have hpn : ¬ p (16 * nm) := hp _ (fam_mk nm 0 (by omega))
  let α' : Nat → Loc := match same with | true => α | false => updLoc α (16 * nm) { α k with hv := hv }
  have hα : ∀ j, p j → α' j = α j := by
    intro j hj
    cases same with
    | true => rfl
    | false =>
      have : j ≠ 16 * nm := fun h => hpn (h ▸ hj)
      simp [α', updLoc, this]
  have hL : α' (wrName same k nm) = { α k with hv := hv } := by
    cases same with
    | true => simp only [α', wrName]; rw [hsm rfl]
    | false => simp [α', updLoc, wrName]
  refine ⟨α', hs.upd _ (fun k hk => .inl hk) _ w' dst hd out _ _ hα (by rw [hM.size]; exact Nat.le_refl _) hM.os hM.tape hM.output ?_ ?_ ?_ ?_ ?_ ?_ ?_⟩
  · intro b _ hb
    exact hM.other b fun h => hb k e0 hSk hlk' hnil h.symm
  · intro j e' hl
    rcases hlk j _ hl with ⟨rfl, _⟩ | ⟨_, _, h⟩
    · cases same
      · exact .inr (fam_mk nm 0 (by omega))
      · exact .inl hpk
    · cases h
  · intro j e' hl _
    rcases hlk j _ hl with ⟨rfl, _⟩ | ⟨_, _, h⟩
    · exact .inr ⟨k, e0, hSk, hlk', hnil, by rw [hL]⟩
    · cases h
  · intro j e1 j' e2 hl hl' _ _ _
    rcases hlk j _ hl with ⟨rfl, _⟩ | ⟨_, _, h⟩ <;> rcases hlk j' _ hl' with ⟨rfl, _⟩ | ⟨_, _, h'⟩
    · rfl
    · cases h'
    · cases h
    · cases h
  · intro hw j e' hl
    rcases hlk j _ hl with ⟨rfl, h⟩ | ⟨_, _, h⟩
    · cases h
      refine ⟨Own.ofC (.inr ⟨by rw [hL]; exact hnil, arr, T, fz, cap, ?_⟩), fun x hx => (hM.vars x hx).mono fun k hk => .inl hk⟩
      rw [hL]
      refine ⟨hM.heap, hM.hsz, hM.len, hM.bnd, hM.nf, hM.wid, fun j m c hc => ?_, fun sz xs T h => hM.hvb sz xs T h, hM.hone, hM.ty⟩
      obtain ⟨u, h1, h2⟩ := hM.rd j m c hc
      exact ⟨u, h1, h2.mono hw hα (Ent.cell_ok hM.vars hc)⟩
    · cases h
  · intro hw
    rcases hout with rfl | ⟨hsf, rfl⟩
    · exact .any v
    · rcases hvv with h | rfl
      · cases h
      · subst hsf
        have := RdA.os (w := w') (α := α') (X := XX α' (S.upd dst (.os (16 * nm)) (wrUpd false k nm e)).own X0) (16 * nm) (by rw [show α' (16 * nm) = { α k with hv := v } from hL]; exact hM.hone)
        have hL' : α' (16 * nm) = { α k with hv := v } := hL
        rw [hL'] at this
        exact this
  · rcases hout with rfl | ⟨_, rfl⟩
    · exact .any
    · exact .os _ (.inr (fam_mk nm 0 (by omega)))

/-- The block of name k is written and keeps its name (same), or goes over to the name 16 * nm. -/
theorem VOp.write {C : Ctx} {n : Nat} {o : Oper} {nm : Nat} {st : AS} {rd : List Nat} {out : AV} {e0 e : Ent} {k : Nat} (same : Bool) (hkr : k ∈ rd) (h0 : st.ss.own k = some e0)
    (hout : out = .any ∨ (same = false ∧ out = .os (16 * nm)))
    (H : ∀ (X0 : Nat → Prop) (F : Fr) (w0 : World) (p : Nat → Prop) (α : Nat → Loc) (S : SS) (a : Act) (w : World), Sim C.G X0 F w0 n p α S a w →
      (∀ t, Operand.tmp t ∈ o.op.operands → ∀ av, st.ss.env t = some av → S.env t = some av) → (∀ k, k ∈ rd → ∀ e, st.ss.own k = some e → S.own k = some e) →
      (α k).nil = false ∧ ∃ w' hv arr T fz cap, Wrote w w' α (XX α S.own X0) p (α k) e hv arr T fz cap ∧ (same = true → hv = (α k).hv) ∧
        (∀ next Q, (∀ v, (out = .any ∨ v = hv) → next (a.put o.dst v) w') → o.wp C.P a w next Q)) :
    VOp C n o nm st rd out (wrUpd same k nm e) := by
  obtain ⟨hlk, hlk'⟩ := wrUpd_look (same := same) (k := k) (nm := nm) (e := e)
  refine ⟨fun j oe hl => ?_, fun X0 F w0 p α S a w Q next hs he ho hp hd hn => ?_⟩
  · rcases hlk j oe hl with ⟨rfl, _⟩ | ⟨_, rfl, _⟩
    · cases same
      · exact .inr (fam_mk nm 0 (by omega))
      · exact .inl hkr
    · exact .inl hkr
  obtain ⟨hnil, w', hv, arr, T, fz, cap, hM, hsm, hrun⟩ := H X0 F w0 p α S a w hs he ho
  have hSk : S.own k = some e0 := ho k hkr e0 h0
  refine hrun _ _ fun v hvv => ?_
  obtain ⟨α', h⟩ := hs.write hp same hSk hnil hM hsm o.dst hd out v hout hvv
  exact hn α' v w' h

end Go.Eng

