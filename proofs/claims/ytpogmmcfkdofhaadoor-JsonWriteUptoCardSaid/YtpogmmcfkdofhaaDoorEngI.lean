/-
  Cells of values; what is stored; a slice's or a string's part; aggregates built; variables and rows made.
-/
import Derived.Test.YtpogmmcfkdofhaaDoorEngH
import Derived.Deep.AppendSrc
import Derived.Lib.ConvBytes
import Derived.Laws.BytesArg
import Derived.Laws.IdiomCopy
namespace Go.Eng

theorem Rd.one {w : World} {X : Nat → Prop} {x : D} {v : Value} (h : Rd w X x v) (ho : x.one = true) : v.oneCell' = true := by
  cases h <;> first | rfl | exact ho | (simp [D.one] at ho)

theorem RdA.one' {w : World} {α : Nat → Loc} {X : Nat → Prop} {a : AV} {v : Value} (h : RdA w α X a v) (ho : a.one = true) : v.oneCell' = true := by
  cases h with
  | any => simp [AV.one] at ho
  | d x v h => exact h.one ho
  | agg => simp [AV.one] at ho
  | tup => simp [AV.one] at ho
  | os k h => exact h
  | _ => rfl

theorem cells_one {v : Value} (h : v.oneCell' = true) : v.cells = #[v] := by
  cases v <;> first | rfl | (simp [Value.oneCell'] at h)

def mapdK : List D → (List AV → Prop) → Prop
  | [], K => K []
  | x :: l, K => mapdK l fun r => K (.d x :: r)

theorem mapdK_out {l : List D} {K : List AV → Prop} (h : mapdK l K) : K (l.map .d) := by
  induction l generalizing K with
  | nil => exact h
  | cons x l ih => exact ih (K := fun r => K (.d x :: r)) h

/-- The cells that the value takes up. -/
def cellsK (a : AV) (K : List AV → Prop) : Prop :=
  match a with
  | .agg cs => match cs.all AV.one with | true => K cs | false => False
  | .d (.agg ds) => match ds.all D.one with | true => mapdK ds K | false => False
  | a => match a.one with | true => K [a] | false => False

/-- cs are the cells of the value a. -/
structure CellsOf (a : AV) (cs : List AV) : Prop where
  one : ∀ c, c ∈ cs → c.one = true
  ok : ∀ p, a.ok p → ∀ c, c ∈ cs → c.ok p
  rd : ∀ w α X v, RdA w α X a v → v.cells.size = cs.length ∧ ∀ (j : Nat) (c : AV), cs[j]? = some c → ∃ u, v.cells[j]? = some u ∧ RdA w α X c u ∧ u.oneCell' = true

theorem CellsOf.single {a : AV} (h : a.one = true) : CellsOf a [a] := by
  refine ⟨fun c hc => ?_, fun p hp c hc => ?_, fun w α X v hr => ?_⟩
  · simp at hc; subst hc; exact h
  · simp at hc; subst hc; exact hp
  · rw [cells_one (hr.one' h)]
    refine ⟨rfl, fun j c hc => ?_⟩
    cases j with
    | zero => simp at hc; subst hc; exact ⟨v, rfl, hr, hr.one' h⟩
    | succ j => simp at hc

theorem cellsK_out {a : AV} {K : List AV → Prop} (h : cellsK a K) : ∃ cs, K cs ∧ CellsOf a cs := by
  unfold cellsK at h
  split at h
  · rename_i cs
    split at h
    · rename_i hall
      have hall := List.all_eq_true.1 hall
      refine ⟨cs, h, hall, fun p hp c hc => by cases hp with | agg _ hh => exact hh c hc, fun w α X v hr => ?_⟩
      cases hr with
      | agg _ vs hl hc =>
        refine ⟨hl.symm, fun j c hj => ?_⟩
        have hlt : j < vs.size := by rw [← hl]; exact (List.getElem?_eq_some_iff.1 hj).1
        have := hc j c vs[j] hj (by simp [hlt])
        exact ⟨vs[j], by simp [Value.cells, hlt], this, this.one' (hall c (List.mem_of_getElem? hj))⟩
    · cases h
  · rename_i ds
    split at h
    · rename_i hall
      have hall := List.all_eq_true.1 hall
      refine ⟨_, mapdK_out h, fun c hc => ?_, fun p _ c hc => ?_, fun w α X v hr => ?_⟩
      · obtain ⟨x, hx, rfl⟩ := List.mem_map.1 hc; exact hall x hx
      · obtain ⟨x, hx, rfl⟩ := List.mem_map.1 hc; exact .d x
      · have hr := hr.dinv
        cases hr with
        | agg _ vs hl hc =>
          refine ⟨by simp [Value.cells, hl], fun j c hj => ?_⟩
          simp only [List.getElem?_map, Option.map_eq_some_iff] at hj
          obtain ⟨x, hx, rfl⟩ := hj
          have hlt : j < vs.size := by rw [← hl]; exact (List.getElem?_eq_some_iff.1 hx).1
          have := hc j x vs[j] hx (by simp [hlt])
          exact ⟨vs[j], by simp [Value.cells, hlt], .d _ _ this, this.one (hall x (List.mem_of_getElem? hx))⟩
    · cases h
  · split at h
    · rename_i ho
      exact ⟨_, h, CellsOf.single ho⟩
    · cases h

/-- A row of places, some of them set. -/
def setK : List AV → Nat → List AV → (List AV → Prop) → Prop
  | cs, 0, [], K => K cs
  | _ :: cs, 0, x :: xs, K => setK cs 0 xs fun r => K (x :: r)
  | c :: cs, j + 1, xs, K => setK cs j xs fun r => K (c :: r)
  | [], _, _, _ => False

theorem setK_out {cs new : List AV} {off : Nat} {K : List AV → Prop} (h : setK cs off new K) :
    ∃ r, K r ∧ r.length = cs.length ∧ off + new.length ≤ cs.length ∧ ∀ (j : Nat), r[j]? = if off ≤ j ∧ j < off + new.length then new[j - off]? else cs[j]? := by
  induction cs generalizing off new K with
  | nil =>
    cases off <;> cases new <;> simp only [setK] at h
    exact ⟨[], h, rfl, by simp, fun j => by simp⟩
  | cons c cs ih =>
    cases off with
    | zero =>
      cases new with
      | nil => simp only [setK] at h; exact ⟨_, h, rfl, by simp, fun j => by simp⟩
      | cons x xs =>
        simp only [setK] at h
        obtain ⟨r, h1, h2, h3, h4⟩ := ih h
        refine ⟨x :: r, h1, by simp [h2], by simp at h3 ⊢; omega, fun j => ?_⟩
        cases j with
        | zero => simp
        | succ j =>
          have := h4 j
          simp only [Nat.zero_le, true_and, Nat.zero_add, Nat.sub_zero] at this
          simp only [List.getElem?_cons_succ, this, Nat.zero_le, true_and, Nat.zero_add, List.length_cons, Nat.sub_zero, Nat.add_lt_add_iff_right]
    | succ off =>
      simp only [setK] at h
      obtain ⟨r, h1, h2, h3, h4⟩ := ih h
      refine ⟨c :: r, h1, by simp [h2], by simp only [List.length_cons]; omega, fun j => ?_⟩
      cases j with
      | zero => simp
      | succ j =>
        have := h4 j
        simp only [List.getElem?_cons_succ, this]
        by_cases hj : off ≤ j ∧ j < off + new.length
        · rw [if_pos hj, if_pos (by omega)]; congr 1; omega
        · rw [if_neg hj, if_neg (by omega)]

/-- Two rows that read alike. -/
def Alike (w : World) (α : Nat → Loc) (X : Nat → Prop) (cs : List AV) (vs : Array Value) : Prop :=
  cs.length = vs.size ∧ ∀ (j : Nat) (c : AV) (v : Value), cs[j]? = some c → vs[j]? = some v → RdA w α X c v

theorem foldl_set (xs : List Value) (off : Nat) : ∀ (k : Nat) (cs : Array Value), off + k + xs.length ≤ cs.size →
    ((xs.zipIdx k).foldl (fun cs (c, j) => cs.setIfInBounds (off + j) c) cs).size = cs.size ∧
    ∀ j, ((xs.zipIdx k).foldl (fun cs (c, j) => cs.setIfInBounds (off + j) c) cs)[j]? = if off + k ≤ j ∧ j < off + k + xs.length then xs[j - (off + k)]? else cs[j]? := by
  induction xs with
  | nil => intro k cs _; exact ⟨rfl, fun j => by simp; intro h1 h2; omega⟩
  | cons x xs ih =>
    intro k cs h
    simp only [List.length_cons] at h
    simp only [List.zipIdx_cons, List.foldl_cons]
    obtain ⟨h1, h2⟩ := ih (k + 1) (cs.setIfInBounds (off + k) x) (by simp; omega)
    refine ⟨by simpa using h1, fun j => ?_⟩
    rw [h2 j]
    simp only [List.length_cons]
    by_cases hj : j = off + k
    · subst hj
      rw [if_neg (by omega), if_pos (by omega), Nat.sub_self]
      have : off + k < cs.size := by omega
      simp [this]
    · by_cases hj2 : off + (k + 1) ≤ j ∧ j < off + (k + 1) + xs.length
      · rw [if_pos hj2, if_pos (by omega), show j - (off + k) = (j - (off + (k + 1))) + 1 by omega]; simp
      · rw [if_neg hj2, if_neg (by omega), Array.getElem?_setIfInBounds_ne (by omega)]

theorem alike_set {w : World} {α : Nat → Loc} {X : Nat → Prop} {cs new r : List AV} {vs : Array Value} {a : AV} {v : Value} {off : Nat} (hA : Alike w α X cs vs) (hc : CellsOf a new) (hv : RdA w α X a v)
    (hl : r.length = cs.length) (hb : off + new.length ≤ cs.length) (hr : ∀ (j : Nat), r[j]? = if off ≤ j ∧ j < off + new.length then new[j - off]? else cs[j]?) :
    Alike w α X r (v.cells.zipIdx.foldl (fun cs (c, j) => cs.setIfInBounds (off + j) c) vs) := by
  obtain ⟨h1, h2⟩ := hc.rd w α X v hv
  obtain ⟨hA1, hA2⟩ := hA
  rw [← Array.foldl_toList, Array.toList_zipIdx]
  obtain ⟨h3, h4⟩ := foldl_set v.cells.toList off 0 vs (by simp [h1]; omega)
  refine ⟨by rw [h3]; omega, fun j c u hj hu => ?_⟩
  rw [h4 j] at hu
  rw [hr j] at hj
  simp only [Nat.add_zero, Array.length_toList, h1] at hu
  split at hj
  · rename_i hin
    rw [if_pos hin] at hu
    obtain ⟨u', h5, h6, _⟩ := h2 _ _ hj
    have : u' = u := by
      rw [Array.getElem?_toList] at hu
      rw [h5] at hu; cases hu; rfl
    subst this; exact h6
  · rename_i hin
    rw [if_neg hin] at hu
    exact hA2 j c u hj hu

/-! #### The zero value -/

theorem zl_get : ∀ {vs : List Value} {as : List AV}, zl vs as = true → as.length = vs.length ∧ ∀ (j : Nat) (a : AV), as[j]? = some a → ∃ v, vs[j]? = some v ∧ zm a v = true
  | [], [], _ => ⟨rfl, fun j a h => by simp at h⟩
  | v :: vs, a :: as, h => by
    simp only [zl, Bool.and_eq_true] at h
    obtain ⟨h1, h2⟩ := zl_get h.2
    refine ⟨by simp [h1], fun j b hj => ?_⟩
    cases j with
    | zero => simp at hj; subst hj; exact ⟨v, rfl, h.1⟩
    | succ j => simpa using h2 j b (by simpa using hj)
  | [], _ :: _, h => by simp [zl] at h
  | _ :: _, [], h => by simp [zl] at h

theorem zm_one {a : AV} {v : Value} (h : zm a v = true) : a.one = true := by
  unfold zm at h
  split at h <;> first | rfl | cases h

theorem zl_one {vs : List Value} {as : List AV} (h : zl vs as = true) : ∀ c, c ∈ as → c.one = true := by
  intro c hc
  obtain ⟨j, hj⟩ := List.mem_iff_getElem?.1 hc
  obtain ⟨v, _, h4⟩ := (zl_get h).2 j c hj
  exact zm_one h4

theorem zl_alike {w : World} {α : Nat → Loc} {X : Nat → Prop} {z : Value} {as : List AV} (h : zl z.cells.toList as = true) : Alike w α X as z.cells := by
  obtain ⟨h1, h2⟩ := zl_get h
  refine ⟨by simpa using h1, fun j c v hc hv => ?_⟩
  obtain ⟨u, h3, h4⟩ := h2 j c hc
  have : u = v := by
    rw [Array.getElem?_toList, hv] at h3; cases h3; rfl
  subst this; exact zm_read h4

theorem zl_ok {p : Nat → Prop} {vs : List Value} {as : List AV} (h : zl vs as = true) : ∀ c, c ∈ as → c.ok p := by
  intro c hc
  obtain ⟨j, hj⟩ := List.mem_iff_getElem?.1 hc
  obtain ⟨v, _, h4⟩ := (zl_get h).2 j c hj
  exact zm_ok h4

theorem run_zero {P : Program} {T : TypeId} {ti : TyI} (ht : TyOk P T ti) : ∃ z, (∀ w, (zeroValue T).run P w = .ok z w) ∧ zl z.cells.toList ti.zero = true := by
  obtain ⟨⟨i, hi, _, _, z, hz, hl⟩, _⟩ := ht
  exact ⟨z, fun w => by simp [zeroValue, typeInfo, hi, hz], hl⟩

end Go.Eng
