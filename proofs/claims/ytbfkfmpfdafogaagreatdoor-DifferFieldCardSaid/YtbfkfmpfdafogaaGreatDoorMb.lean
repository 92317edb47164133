import Derived.Test.YtbfkfmpfdafogaaGreatDoorMa
import Derived.Deep.AppendSrc
import Derived.Lib.ConvBytes
import Derived.Laws.BytesArg
import Derived.Laws.IdiomCopy
import Derived.Room.Entries
import Derived.Laws.Tables
import Derived.Great.BuildSlice
/-
  Cells of values; what is stored; a slice's or a string's part; aggregates built; variables and rows made.
-/
namespace Go.Eng

theorem Rd.one {w : World} {X : Nat → Prop} {x : D} {v : Value} (h : Rd w X x v) (ho : x.one = true) : v.oneCell' = true := by
  cases h <;> first | rfl | exact ho | (simp [D.one] at ho)

theorem RdA.one' {w : World} {α : Nat → Loc} {X : Nat → Prop} {a : AV} {v : Value} (h : RdA w α X a v) (ho : a.one = true) : v.oneCell' = true := by
  cases h with
  | any => simp [AV.one] at ho
  | d x v h => exact h.one ho
  | agg => simp [AV.one] at ho
  | tup => simp [AV.one] at ho
  | os k h => exact h
  | _ => rfl

theorem cells_one {v : Value} (h : v.oneCell' = true) : v.cells = #[v] := by
  cases v <;> first | rfl | (simp [Value.oneCell'] at h)

def mapdK : List D → (List AV → Prop) → Prop
  | [], K => K []
  | x :: l, K => mapdK l fun r => K (.d x :: r)

theorem mapdK_out {l : List D} {K : List AV → Prop} (h : mapdK l K) : K (l.map .d) := by
  induction l generalizing K with
  | nil => exact h
  | cons x l ih => exact ih (K := fun r => K (.d x :: r)) h

/-- The cells that the value takes up. -/
def cellsK (a : AV) (K : List AV → Prop) : Prop :=
  match a with
  | .agg cs => match cs.all AV.one with | true => K cs | false => False
  | .d (.agg ds) => match ds.all D.one with | true => mapdK ds K | false => False
  | a => match a.one with | true => K [a] | false => False

/-- cs are the cells of the value a. -/
structure CellsOf (a : AV) (cs : List AV) : Prop where
  one : ∀ c, c ∈ cs → c.one = true
  ok : ∀ p, a.ok p → ∀ c, c ∈ cs → c.ok p
  rd : ∀ w α X v, RdA w α X a v → v.cells.size = cs.length ∧ ∀ (j : Nat) (c : AV), cs[j]? = some c → ∃ u, v.cells[j]? = some u ∧ RdA w α X c u ∧ u.oneCell' = true

theorem CellsOf.single {a : AV} (h : a.one = true) : CellsOf a [a] := by
  refine ⟨fun c hc => ?_, fun p hp c hc => ?_, fun w α X v hr => ?_⟩
  · simp at hc; subst hc; exact h
  · simp at hc; subst hc; exact hp
  · rw [cells_one (hr.one' h)]
    refine ⟨rfl, fun j c hc => ?_⟩
    cases j with
    | zero => simp at hc; subst hc; exact ⟨v, rfl, hr, hr.one' h⟩
    | succ j => simp at hc

theorem cellsK_out {a : AV} {K : List AV → Prop} (h : cellsK a K) : ∃ cs, K cs ∧ CellsOf a cs := by
  unfold cellsK at h
  split at h
  · rename_i cs
    split at h
    · rename_i hall
      have hall := List.all_eq_true.1 hall
      refine ⟨cs, h, hall, fun p hp c hc => by cases hp with | agg _ hh => exact hh c hc, fun w α X v hr => ?_⟩
      cases hr with
      | agg _ vs hl hc =>
        refine ⟨hl.symm, fun j c hj => ?_⟩
        have hlt : j < vs.size := by rw [← hl]; exact (List.getElem?_eq_some_iff.1 hj).1
        have := hc j c vs[j] hj (by simp [hlt])
        exact ⟨vs[j], by simp [Value.cells, hlt], this, this.one' (hall c (List.mem_of_getElem? hj))⟩
    · cases h
  · rename_i ds
    split at h
    · rename_i hall
      have hall := List.all_eq_true.1 hall
      refine ⟨_, mapdK_out h, fun c hc => ?_, fun p _ c hc => ?_, fun w α X v hr => ?_⟩
      · obtain ⟨x, hx, rfl⟩ := List.mem_map.1 hc; exact hall x hx
      · obtain ⟨x, hx, rfl⟩ := List.mem_map.1 hc; exact .d x
      · have hr := hr.dinv
        cases hr with
        | agg _ vs hl hc =>
          refine ⟨by simp [Value.cells, hl], fun j c hj => ?_⟩
          simp only [List.getElem?_map, Option.map_eq_some_iff] at hj
          obtain ⟨x, hx, rfl⟩ := hj
          have hlt : j < vs.size := by rw [← hl]; exact (List.getElem?_eq_some_iff.1 hx).1
          have := hc j x vs[j] hx (by simp [hlt])
          exact ⟨vs[j], by simp [Value.cells, hlt], .d _ _ this, this.one (hall x (List.mem_of_getElem? hx))⟩
    · cases h
  · split at h
    · rename_i ho
      exact ⟨_, h, CellsOf.single ho⟩
    · cases h

/-- A row of places, some of them set. -/
def setK : List AV → Nat → List AV → (List AV → Prop) → Prop
  | cs, 0, [], K => K cs
  | _ :: cs, 0, x :: xs, K => setK cs 0 xs fun r => K (x :: r)
  | c :: cs, j + 1, xs, K => setK cs j xs fun r => K (c :: r)
  | [], _, _, _ => False

theorem setK_out {cs new : List AV} {off : Nat} {K : List AV → Prop} (h : setK cs off new K) :
    ∃ r, K r ∧ r.length = cs.length ∧ off + new.length ≤ cs.length ∧ ∀ (j : Nat), r[j]? = if off ≤ j ∧ j < off + new.length then new[j - off]? else cs[j]? := by
  induction cs generalizing off new K with
  | nil =>
    cases off <;> cases new <;> simp only [setK] at h
    exact ⟨[], h, rfl, by simp, fun j => by simp⟩
  | cons c cs ih =>
    cases off with
    | zero =>
      cases new with
      | nil => simp only [setK] at h; exact ⟨_, h, rfl, by simp, fun j => by simp⟩
      | cons x xs =>
        simp only [setK] at h
        obtain ⟨r, h1, h2, h3, h4⟩ := ih h
        refine ⟨x :: r, h1, by simp [h2], by simp at h3 ⊢; omega, fun j => ?_⟩
        cases j with
        | zero => simp
        | succ j =>
          have := h4 j
          simp only [Nat.zero_le, true_and, Nat.zero_add, Nat.sub_zero] at this
          simp only [List.getElem?_cons_succ, this, Nat.zero_le, true_and, Nat.zero_add, List.length_cons, Nat.sub_zero, Nat.add_lt_add_iff_right]
    | succ off =>
      simp only [setK] at h
      obtain ⟨r, h1, h2, h3, h4⟩ := ih h
      refine ⟨c :: r, h1, by simp [h2], by simp only [List.length_cons]; omega, fun j => ?_⟩
      cases j with
      | zero => simp
      | succ j =>
        have := h4 j
        simp only [List.getElem?_cons_succ, this]
        by_cases hj : off ≤ j ∧ j < off + new.length
        · rw [if_pos hj, if_pos (by omega)]; congr 1; omega
        · rw [if_neg hj, if_neg (by omega)]

/-- Two rows that read alike. -/
def Alike (w : World) (α : Nat → Loc) (X : Nat → Prop) (cs : List AV) (vs : Array Value) : Prop :=
  cs.length = vs.size ∧ ∀ (j : Nat) (c : AV) (v : Value), cs[j]? = some c → vs[j]? = some v → RdA w α X c v

theorem foldl_set (xs : List Value) (off : Nat) : ∀ (k : Nat) (cs : Array Value), off + k + xs.length ≤ cs.size →
    ((xs.zipIdx k).foldl (fun cs (c, j) => cs.setIfInBounds (off + j) c) cs).size = cs.size ∧
    ∀ j, ((xs.zipIdx k).foldl (fun cs (c, j) => cs.setIfInBounds (off + j) c) cs)[j]? = if off + k ≤ j ∧ j < off + k + xs.length then xs[j - (off + k)]? else cs[j]? := by
  induction xs with
  | nil => intro k cs _; exact ⟨rfl, fun j => by simp; intro h1 h2; omega⟩
  | cons x xs ih =>
    intro k cs h
    simp only [List.length_cons] at h
    simp only [List.zipIdx_cons, List.foldl_cons]
    obtain ⟨h1, h2⟩ := ih (k + 1) (cs.setIfInBounds (off + k) x) (by simp; omega)
    refine ⟨by simpa using h1, fun j => ?_⟩
    rw [h2 j]
    simp only [List.length_cons]
    by_cases hj : j = off + k
    · subst hj
      rw [if_neg (by omega), if_pos (by omega), Nat.sub_self]
      have : off + k < cs.size := by omega
      simp [this]
    · by_cases hj2 : off + (k + 1) ≤ j ∧ j < off + (k + 1) + xs.length
      · rw [if_pos hj2, if_pos (by omega), show j - (off + k) = (j - (off + (k + 1))) + 1 by omega]; simp
      · rw [if_neg hj2, if_neg (by omega), Array.getElem?_setIfInBounds_ne (by omega)]

theorem alike_set {w : World} {α : Nat → Loc} {X : Nat → Prop} {cs new r : List AV} {vs : Array Value} {a : AV} {v : Value} {off : Nat} (hA : Alike w α X cs vs) (hc : CellsOf a new) (hv : RdA w α X a v)
    (hl : r.length = cs.length) (hb : off + new.length ≤ cs.length) (hr : ∀ (j : Nat), r[j]? = if off ≤ j ∧ j < off + new.length then new[j - off]? else cs[j]?) :
    Alike w α X r (v.cells.zipIdx.foldl (fun cs (c, j) => cs.setIfInBounds (off + j) c) vs) := by
  obtain ⟨h1, h2⟩ := hc.rd w α X v hv
  obtain ⟨hA1, hA2⟩ := hA
  rw [← Array.foldl_toList, Array.toList_zipIdx]
  obtain ⟨h3, h4⟩ := foldl_set v.cells.toList off 0 vs (by simp [h1]; omega)
  refine ⟨by rw [h3]; omega, fun j c u hj hu => ?_⟩
  rw [h4 j] at hu
  rw [hr j] at hj
  simp only [Nat.add_zero, Array.length_toList, h1] at hu
  split at hj
  · rename_i hin
    rw [if_pos hin] at hu
    obtain ⟨u', h5, h6, _⟩ := h2 _ _ hj
    have : u' = u := by
      rw [Array.getElem?_toList] at hu
      rw [h5] at hu; cases hu; rfl
    subst this; exact h6
  · rename_i hin
    rw [if_neg hin] at hu
    exact hA2 j c u hj hu

/-! #### The zero value -/

theorem zl_get : ∀ {vs : List Value} {as : List AV}, zl vs as = true → as.length = vs.length ∧ ∀ (j : Nat) (a : AV), as[j]? = some a → ∃ v, vs[j]? = some v ∧ zm a v = true
  | [], [], _ => ⟨rfl, fun j a h => by simp at h⟩
  | v :: vs, a :: as, h => by
    simp only [zl, Bool.and_eq_true] at h
    obtain ⟨h1, h2⟩ := zl_get h.2
    refine ⟨by simp [h1], fun j b hj => ?_⟩
    cases j with
    | zero => simp at hj; subst hj; exact ⟨v, rfl, h.1⟩
    | succ j => simpa using h2 j b (by simpa using hj)
  | [], _ :: _, h => by simp [zl] at h
  | _ :: _, [], h => by simp [zl] at h

theorem zm_one {a : AV} {v : Value} (h : zm a v = true) : a.one = true := by
  unfold zm at h
  split at h <;> first | rfl | cases h

theorem zl_one {vs : List Value} {as : List AV} (h : zl vs as = true) : ∀ c, c ∈ as → c.one = true := by
  intro c hc
  obtain ⟨j, hj⟩ := List.mem_iff_getElem?.1 hc
  obtain ⟨v, _, h4⟩ := (zl_get h).2 j c hj
  exact zm_one h4

theorem zl_alike {w : World} {α : Nat → Loc} {X : Nat → Prop} {z : Value} {as : List AV} (h : zl z.cells.toList as = true) : Alike w α X as z.cells := by
  obtain ⟨h1, h2⟩ := zl_get h
  refine ⟨by simpa using h1, fun j c v hc hv => ?_⟩
  obtain ⟨u, h3, h4⟩ := h2 j c hc
  have : u = v := by
    rw [Array.getElem?_toList, hv] at h3; cases h3; rfl
  subst this; exact zm_read h4

theorem zl_ok {p : Nat → Prop} {vs : List Value} {as : List AV} (h : zl vs as = true) : ∀ c, c ∈ as → c.ok p := by
  intro c hc
  obtain ⟨j, hj⟩ := List.mem_iff_getElem?.1 hc
  obtain ⟨v, _, h4⟩ := (zl_get h).2 j c hj
  exact zm_ok h4

theorem run_zero {P : Program} {T : TypeId} {ti : TyI} (ht : TyOk P T ti) : ∃ z, (∀ w, (zeroValue T).run P w = .ok z w) ∧ zl z.cells.toList ti.zero = true := by
  obtain ⟨⟨i, hi, _, _, z, hz, hl⟩, _⟩ := ht
  exact ⟨z, fun w => by simp [zeroValue, typeInfo, hi, hz], hl⟩

end Go.Eng

/-
  Assignments, variables, boxes, aggregates, rows, conversions between strings and bytes, slices: their reckoning, and that it speaks true.
-/
namespace Go.Eng

section
variable {C : Ctx} {n : Nat} {o : Oper} {nm : Nat} {st : AS} {K : KO}

def assignK (nm : Nat) (a : AV) (K : KO) : Prop :=
  match a with
  | .nl sz => K (.os (16 * nm)) [(16 * nm, some (.buf sz []))] []
  | a => K a [] []

theorem assign_out {x : Operand} (ho : o.op = .assign x) (h : evTK C st o.type x fun a => assignK nm a K) : ∃ out upd rd, K out upd rd ∧ VOp C n o nm st rd out upd := by
  replace h := evTK_out h; obtain ⟨av, h1, h⟩ := h
  have hmem : x ∈ o.op.operands := by rw [ho]; simp [Op.operands]
  unfold assignK at h
  split at h
  · rename_i sz
    refine ⟨_, _, _, h, fun k oe hl => ?_, fun X0 F w0 p α S a w Q next hs he _ hp hd hn => ?_⟩
    · simp only [look] at hl
      split at hl
      · rename_i hb; rw [Nat.eq_of_beq_eq_true hb]; exact .inr (fam_mk nm 0 (by omega))
      · cases hl
    have hr := (h1.to hmem he).read hs
    generalize hv : a.eval x = v at hr
    cases hr
    let L : Loc := ⟨0, 0, sz, true, .slice none 0 0⟩
    have hpn : ¬ p (16 * nm) := hp _ (fam_mk nm 0 (by omega))
    have hLk : updLoc α (16 * nm) L (16 * nm) = L := by simp [updLoc]
    have hα : ∀ k, p k → updLoc α (16 * nm) L k = α k := by
      intro k hk
      have : k ≠ 16 * nm := fun h => hpn (h ▸ hk)
      simp [updLoc, this]
    have hlk : ∀ k oe, look [(16 * nm, some (Ent.buf sz []))] k = some oe → k = 16 * nm ∧ oe = some (Ent.buf sz []) := by
      intro k oe hl
      simp only [look] at hl
      split at hl
      · rename_i hb; exact ⟨Nat.eq_of_beq_eq_true hb, by cases hl; rfl⟩
      · cases hl
    have hrun : (execOp a.eval o).run C.P w = .ok (.value (.slice none 0 0)) w := by simp [execOp, ho, hv]
    refine wp_value hrun (hn (updLoc α (16 * nm) L) _ w ?_)
    refine hs.upd _ (fun k hk => .inl hk) _ w o.dst hd (.os (16 * nm)) _ _ hα (Nat.le_refl _) rfl rfl rfl (fun _ _ _ => rfl) ?_ ?_ ?_ ?_ ?_ (.os _ (.inr (fam_mk nm 0 (by omega))))
    · intro k e hl; obtain ⟨rfl, _⟩ := hlk k _ hl; exact .inr (fam_mk nm 0 (by omega))
    · intro k e hl hnil; obtain ⟨rfl, _⟩ := hlk k _ hl; rw [hLk] at hnil; cases hnil
    · intro k e k' e' hl hl' _ _ _; obtain ⟨rfl, _⟩ := hlk k _ hl; obtain ⟨rfl, _⟩ := hlk k' _ hl'; rfl
    · intro _ k e hl
      obtain ⟨rfl, h2⟩ := hlk k _ hl
      cases h2
      refine ⟨.inl ?_, fun x hx => by cases hx⟩
      rw [hLk]
      exact ⟨rfl, ⟨sz, _, rfl⟩, rfl⟩
    · intro _
      have := RdA.os (w := w) (α := updLoc α (16 * nm) L) (X := XX (updLoc α (16 * nm) L) (S.upd o.dst (.os (16 * nm)) [(16 * nm, some (Ent.buf sz []))]).own X0) (16 * nm) (by rw [hLk]; rfl)
      rw [hLk] at this
      exact this
  · refine ⟨_, _, _, h, VOp.pure fun X0 F w0 p α S a w hs he _ => ?_⟩
    have hx := h1.to hmem he
    exact ⟨a.eval x, by simp [execOp, ho], hx.read hs, hx.ok hs⟩

/-! #### New variables -/

def zdK : List AV → (List D → Prop) → Prop
  | [], K => K []
  | .d x :: l, K => match x.one with | true => zdK l fun r => K (x :: r) | false => False
  | .nl sz :: l, K => zdK l fun r => K (.sl sz [] :: r)
  | _ :: _, _ => False

theorem zdK_out {l : List AV} {K : List D → Prop} (h : zdK l K) : ∃ ds, K ds ∧ ds.length = l.length ∧ (∀ d, d ∈ ds → d.one = true) ∧
    ∀ w α X (j : Nat) (d : D) (a : AV) (v : Value), ds[j]? = some d → l[j]? = some a → RdA w α X a v → Rd w X d v := by
  induction l generalizing K with
  | nil => exact ⟨[], h, rfl, (fun d hd => by cases hd), fun w α X j d a v hd => by simp at hd⟩
  | cons b l ih =>
    cases b with
    | d x =>
      simp only [zdK] at h
      split at h
      · rename_i hone
        obtain ⟨ds, h1, h2, h3, h4⟩ := ih h
        refine ⟨x :: ds, h1, by simp [h2], fun d hd => ?_, fun w α X j d a v hd ha hr => ?_⟩
        · rcases List.mem_cons.1 hd with rfl | hd
          · exact hone
          · exact h3 d hd
        · cases j with
          | zero => simp at hd ha; subst hd ha; exact hr.dinv
          | succ j => exact h4 w α X j d a v (by simpa using hd) (by simpa using ha) hr
      · cases h
    | nl sz =>
      simp only [zdK] at h
      obtain ⟨ds, h1, h2, h3, h4⟩ := ih h
      refine ⟨.sl sz [] :: ds, h1, by simp [h2], fun d hd => ?_, fun w α X j d a v hd ha hr => ?_⟩
      · rcases List.mem_cons.1 hd with rfl | hd
        · rfl
        · exact h3 d hd
      · cases j with
        | zero =>
          simp at hd ha; subst hd ha
          cases hr; exact .slnil sz
        | succ j => exact h4 w α X j d a v (by simpa using hd) (by simpa using ha) hr
    | _ => simp only [zdK] at h

theorem one_cells {d : D} (h : d.one = true) : d.cells = [d] := by
  cases d <;> first | rfl | (simp [D.one] at h)

def allocK (C : Ctx) (nm : Nat) (T : TypeId) (K : KO) : Prop :=
  lookK C.tab T fun ti => match ti.kd with
    | .array _ e => lookK C.tab e fun te => match te.size with
      | 1 => zdK ti.zero fun ds => K (.op (16 * nm) 0 0) [(16 * nm, some (.arr 1 ds))] []
      | _ => False
    | _ => K (.op (16 * nm) 0 0) [(16 * nm, some (.box ti.zero (some T)))] []

theorem alloc_push (w : World) (o : Obj) : (w.alloc o).heap = w.heap.push o := rfl

theorem run_newVar {P : Program} (w : World) (T : TypeId) (v : Value) : (newVar T v).run P w = .ok ⟨w.heap.size, 0, none⟩ (w.alloc (.cells v.cells T)) := by
  simp [newVar, newRow]

/-- A variable's cells, as a box. -/
theorem made_box {w : World} {α : Nat → Loc} {X : Nat → Prop} {p : Nat → Prop} {cs : List AV} {v : Value} {T : TypeId} (hA : Alike w α X cs v.cells) (hok : ∀ c, c ∈ cs → c.ok p) (hone : ∀ c, c ∈ cs → c.one = true) :
    Made w (w.alloc (.cells v.cells T)) α X p (.box cs (some T)) (.bool false) v.cells T (0, 0) 1 := by
  refine ⟨rfl, rfl, rfl, rfl, Nat.le_refl _, ?_, ⟨Nat.le_refl _, fun o _ => by simp⟩, hone, fun j m c hc => ?_, hok, fun sz xs _ h => (Ent.noConfusion h), rfl, fun U h => by cases h; exact ⟨rfl, fun cs' V h => by cases h; exact hA.1.symm⟩⟩
  · simp only [Ent.sz]; rw [hA.1]; omega
  · simp only [Ent.cell] at hc
    split at hc
    · rename_i hj
      subst hj
      have hlt : m < v.cells.size := by rw [← hA.1]; exact (List.getElem?_eq_some_iff.1 hc).1
      exact ⟨v.cells[m], by simp [hlt], hA.2 m c _ hc (by simp [hlt])⟩
    · cases hc

theorem made_arr {w : World} {α : Nat → Loc} {X : Nat → Prop} {p : Nat → Prop} {ds : List D} {v : Value} {T : TypeId} (hl : ds.length = v.cells.size) (hone : ∀ d, d ∈ ds → d.one = true)
    (hA : ∀ (j : Nat) (d : D) (u : Value), ds[j]? = some d → v.cells[j]? = some u → Rd w X d u) :
    Made w (w.alloc (.cells v.cells T)) α X p (.arr 1 ds) (.bool false) v.cells T (0, 0) ds.length := by
  refine ⟨rfl, rfl, rfl, rfl, Nat.le_refl _, ?_, ⟨Nat.le_refl _, fun o _ => by simp⟩, fun j x hx => ?_, fun j m c hc => ?_, (fun x hx => by cases hx), fun sz xs _ h => (Ent.noConfusion h), rfl, fun U h => by cases h⟩
  · simp only [Ent.sz]; omega
  · have h1 := hone x (List.mem_of_getElem? hx)
    unfold D.wd; rw [one_cells h1]; exact ⟨rfl, fun c hc => by simp at hc; subst hc; exact h1⟩
  · simp only [Ent.cell, Option.bind_eq_some_iff, Option.map_eq_some_iff] at hc
    obtain ⟨x, hx, y, hy, rfl⟩ := hc
    rw [one_cells (hone x (List.mem_of_getElem? hx))] at hy
    have hlt : j < v.cells.size := by rw [← hl]; exact (List.getElem?_eq_some_iff.1 hx).1
    cases m with
    | zero =>
      simp at hy; subst hy
      exact ⟨v.cells[j], by simp [Ent.sz, hlt], .d _ _ (hA j x _ hx (by simp [hlt]))⟩
    | succ m => simp at hy

theorem alloc_out {T : TypeId} (ho : o.op = .alloc T) (h : allocK C nm T K) : ∃ out upd rd, K out upd rd ∧ VOp C n o nm st rd out upd := by
  unfold allocK at h
  replace h := lookK_out h; obtain ⟨ti, hti, h⟩ := h
  obtain ⟨z, hz, hzl⟩ := run_zero (C.ty hti)
  have run : ∀ (a : Act) (w : World), (execOp a.eval o).run C.P w = .ok (.value (.pointer (some ⟨w.heap.size, 0, none⟩))) (w.alloc (.cells z.cells T)) := by
    intro a w
    simp [execOp, ho, Instr.alloc, hz, run_newVar]
  have box : K (.op (16 * nm) 0 0) [(16 * nm, some (.box ti.zero (some T)))] [] → ∃ out upd rd, K out upd rd ∧ VOp C n o nm st rd out upd := by
    intro h
    exact ⟨_, _, _, h, VOp.make (kills := []) (fun _ hk => by cases hk) (.inr rfl) fun X0 F w0 p α S a w hs he _ =>
      ⟨_, _, _, _, _, _, made_box (zl_alike hzl) (zl_ok hzl) (zl_one hzl), run a w⟩⟩
  split at h
  · replace h := lookK_out h; obtain ⟨te, hte, h⟩ := h
    split at h
    · replace h := zdK_out h; obtain ⟨ds, h, h2, h3, h4⟩ := h
      refine ⟨_, _, _, h, VOp.make (kills := []) (fun _ hk => by cases hk) (.inr rfl) fun X0 F w0 p α S a w hs he _ => ⟨_, _, _, _, _, _, made_arr ?_ h3 ?_, run a w⟩⟩
      · have := (zl_get hzl).1; simp at this; omega
      · intro j d u hd hu
        obtain ⟨av, hav⟩ : ∃ av, ti.zero[j]? = some av := by
          have : j < ti.zero.length := by rw [← h2]; exact (List.getElem?_eq_some_iff.1 hd).1
          exact ⟨ti.zero[j], by simp [this]⟩
        exact h4 w α _ j d av u hd hav ((zl_alike hzl).2 j av u hav hu)
    · cases h
  · exact box h

def boxK (C : Ctx) (nm : Nat) (T : TypeId) (a : AV) (K : KO) : Prop :=
  lookK C.tab T fun ti => match ti.kd, a with
    | .array _ e, .d (.agg ds) => lookK C.tab e fun te => match te.size, ds.all D.one with
      | 1, true => K (.op (16 * nm) 0 0) [(16 * nm, some (.arr 1 ds))] []
      | _, _ => False
    | .array _ _, _ => False
    | _, a => cellsK a fun cs => K (.op (16 * nm) 0 0) [(16 * nm, some (.box cs (some T)))] []

theorem box_out {T : TypeId} {x : Operand} (ho : o.op = .box T x) (h : evTK C st T x fun a => boxK C nm T a K) : ∃ out upd rd, K out upd rd ∧ VOp C n o nm st rd out upd := by
  replace h := evTK_out h; obtain ⟨va, h1, h⟩ := h
  have hmem : x ∈ o.op.operands := by rw [ho]; simp [Op.operands]
  unfold boxK at h
  replace h := lookK_out h; obtain ⟨ti, hti, h⟩ := h
  have run : ∀ (a : Act) (w : World), (execOp a.eval o).run C.P w = .ok (.value (.pointer (some ⟨w.heap.size, 0, none⟩))) (w.alloc (.cells (a.eval x).cells T)) := by
    intro a w
    simp [execOp, ho, Instr.box, run_newVar]
  split at h
  · rename_i m e ds hk
    replace h := lookK_out h; obtain ⟨te, hte, h⟩ := h
    split at h
    · rename_i hall
      have hall := List.all_eq_true.1 hall
      refine ⟨_, _, _, h, VOp.make (kills := []) (fun _ hk => by cases hk) (.inr rfl) fun X0 F w0 p α S a w hs he _ => ?_⟩
      have hr := ((h1.to hmem he).read hs).dinv
      have hrun := run a w
      generalize hv : a.eval x = v at hr hrun
      cases hr with
      | agg _ vs hl hc => exact ⟨_, _, _, _, _, _, made_arr (v := .agg vs) hl hall hc, hrun⟩
    · cases h
  · cases h
  · replace h := cellsK_out h; obtain ⟨cs, h, hcs⟩ := h
    refine ⟨_, _, _, h, VOp.make (kills := []) (fun _ hk => by cases hk) (.inr rfl) fun X0 F w0 p α S a w hs he _ => ?_⟩
    have hx := h1.to hmem he
    obtain ⟨h3, h4⟩ := hcs.rd w α _ _ (hx.read hs)
    refine ⟨_, _, _, _, _, _, made_box ⟨h3.symm, fun j c v hc hv => ?_⟩ (hcs.ok p (hx.ok hs)) hcs.one, run a w⟩
    obtain ⟨u, h5, h6, _⟩ := h4 j c hc
    rw [hv] at h5; cases h5; exact h6

end
end Go.Eng

/-
  Slices, aggregates, rows of literals, conversions between strings and bytes, append, stores: their reckoning, and that it speaks true.
-/
namespace Go.Eng

/-- An operation that looks, and by which the entries of kills are given up. -/
theorem VOp.give {C : Ctx} {n : Nat} {o : Oper} {nm : Nat} {st : AS} {rd kills : List Nat} {out : AV} (hkr : ∀ k, k ∈ kills → k ∈ rd) (h0 : ∀ k, k ∈ kills → ∃ e, st.ss.own k = some e)
    (H : ∀ (X0 : Nat → Prop) (F : Fr) (w0 : World) (p : Nat → Prop) (α : Nat → Loc) (S : SS) (a : Act) (w : World), Sim C.G X0 F w0 n p α S a w →
      (∀ t, Operand.tmp t ∈ o.op.operands → ∀ av, st.ss.env t = some av → S.env t = some av) → (∀ k, k ∈ rd → ∀ e, st.ss.own k = some e → S.own k = some e) →
      ∃ v, (execOp a.eval o).run C.P w = .ok (.value v) w ∧ out.ok p ∧
        ∀ X' : Nat → Prop, (∀ b, X' b → XX α S.own X0 b) → (∀ k, k ∈ kills → (α k).nil = false → ¬ X' (α k).blk) → RdA w α X' out v) :
    VOp C n o nm st rd out (kills.map fun k => (k, none)) := by
  have hlk : ∀ k oe, look (kills.map fun k => (k, (none : Option Ent))) k = some oe → k ∈ kills ∧ oe = none := by
    intro k oe hl
    rcases look_kills (β := Ent) kills k with h | ⟨h, hm⟩
    · rw [h] at hl; cases hl
    · rw [h] at hl; cases hl; exact ⟨hm, rfl⟩
  have hin : ∀ k, k ∈ kills → look (kills.map fun k => (k, (none : Option Ent))) k = some none := by
    intro k hk
    clear hkr h0 H hlk
    induction kills with
    | nil => cases hk
    | cons x l ih =>
      simp only [List.map_cons, look]
      split
      · rfl
      · rename_i hb
        rcases List.mem_cons.1 hk with rfl | hk
        · simp at hb
        · exact ih hk
  refine ⟨fun k oe hl => .inl (hkr k (hlk k oe hl).1), fun X0 F w0 p α S a w Q next hs he ho _ hd hn => ?_⟩
  obtain ⟨v, h1, h2, h3⟩ := H X0 F w0 p α S a w hs he ho
  refine wp_value h1 (hn α v w ?_)
  refine hs.upd _ (fun k hk => .inl hk) α w o.dst hd out _ v (fun _ _ => rfl) (Nat.le_refl _) rfl rfl rfl (fun _ _ _ => rfl) ?_ ?_ ?_ ?_ ?_ (h2.mono fun k hk => .inl hk)
  · intro k e hl; cases (hlk k _ hl).2
  · intro k e hl; cases (hlk k _ hl).2
  · intro k e k' e' hl; cases (hlk k _ hl).2
  · intro _ k e hl; cases (hlk k _ hl).2
  · intro _
    have hold : ∀ k e, (S.upd o.dst out (kills.map fun k => (k, none))).own k = some e → k ∉ kills ∧ S.own k = some e := by
      intro k e hk
      simp only [SS.upd] at hk
      rcases look_kills (β := Ent) kills k with h | ⟨h, hm⟩
      · rw [h] at hk
        refine ⟨fun hm => ?_, hk⟩
        rw [hin k hm] at h; cases h
      · rw [h] at hk; cases hk
    refine h3 _ ?_ ?_
    · rintro b (⟨k, e, hk, hnil, rfl⟩ | hx)
      · exact .inl ⟨k, e, (hold k e hk).2, hnil, rfl⟩
      · exact .inr hx
    · rintro k hk hnil (⟨k', e', hk', hnil', hb⟩ | hx)
      · obtain ⟨e, he'⟩ := h0 k hk
        have hSk := ho k (hkr k hk) e he'
        obtain ⟨hn1, hn2⟩ := hold k' e' hk'
        have := hs.inj k' e' k e hn2 hSk hnil' hnil hb
        subst this; exact hn1 hk
      · obtain ⟨e, he'⟩ := h0 k hk
        exact (hs.mine k e (ho k (hkr k hk) e he') hnil).2 hx

/-- An owned row, given up, reads as a slice. -/
theorem own_read {w : World} {α : Nat → Loc} {X X' : Nat → Prop} {k sz : Nat} {xs : List D} {T0 : Option TypeId} (h : Own w α X k (.buf sz xs T0)) (hX : ∀ b, X' b → X b) (hb : (α k).nil = false → ¬ X' (α k).blk) :
    Rd w X' (.sl sz xs) (α k).hv := by
  rcases h with ⟨_, ⟨sz', _, he⟩, hv⟩ | ⟨hnil, arr, T, fz, cap, hB⟩
  · cases he; rw [hv]; exact .slnil sz
  · rw [hB.hv sz xs _ rfl]
    have hval : ∀ (j m : Nat) (x c : D), xs[j]? = some x → x.cells[m]? = some c → arr[(α k).off + j * sz + m]? = some (arr.getD ((α k).off + j * sz + m) undef) ∧ Rd w X' c (arr.getD ((α k).off + j * sz + m) undef) := by
      intro j m x c hx hc
      obtain ⟨v, hv, hr⟩ := hB.rd j m _ (cell_d (e := .buf sz xs _) rfl hx hc)
      simp only [Ent.sz] at hv
      have := hr.dinv.mono (X' := X') fun b o hb' hnx => ⟨hb', fun hx' => hnx (hX b hx')⟩
      simp [Array.getD_eq_getD_getElem?, hv, this]
    exact .sl sz xs _ _ _ cap arr T fz (fun j m => arr.getD ((α k).off + j * sz + m) undef) hB.heap (hb hnil) rfl hB.len hB.wid (fun j m x c hx hc => (hval j m x c hx hc).1) fun j m x c hx hc => (hval j m x c hx hc).2

def BV (o : Option Value) (dflt j : Nat) : Prop := (o = none ∧ j = dflt) ∨ ∃ k, o = some (.int k (j : Int))

theorem run_sliceBounds {P : Program} {w : World} {isS : Bool} {len cap jl jh : Nat} {lo hi : Option Value} (h1 : BV lo 0 jl) (h2 : BV hi len jh) (h3 : jl ≤ jh) (h4 : jh ≤ cap) :
    (Instr.sliceBounds isS len cap lo hi none).run P w = .ok (jl, jh, cap) w := by
  have hb : ∀ (k : IntKind) (j y : Nat) (c : BoundsCode), j ≤ y → (Instr.sliceBound (.int k (j : Int)) y c).run P w = .ok j w := by
    intro k j y c hj
    simp [Instr.sliceBound, asIntOf, hj]
  rcases h1 with ⟨rfl, rfl⟩ | ⟨k, rfl⟩ <;> rcases h2 with ⟨rfl, rfl⟩ | ⟨k', rfl⟩
  · simp [Instr.sliceBounds]
  · simp [Instr.sliceBounds, hb _ _ _ _ h4]
  · simp [Instr.sliceBounds, hb _ _ _ _ h3]
  · simp [Instr.sliceBounds, hb _ _ _ _ h4, hb _ _ _ _ h3]

def ovK (st : AS) : Option Operand → (Option Int → Prop) → Prop
  | none, K => K none
  | some x, K => evK st x fun a => intK a fun _ i => K (some i)

inductive Ov (env : Nat → Option AV) : Option Operand → Option Int → Prop where
  | none : Ov env none none
  | some (x : Operand) (k : IntKind) (i : Int) : Ev env x (.d (.i k i)) → Ov env (some x) (some i)

theorem ovK_out {st : AS} {x : Option Operand} {K : Option Int → Prop} (h : ovK st x K) : ∃ i, Ov st.ss.env x i ∧ K i := by
  cases x with
  | none => exact ⟨none, .none, h⟩
  | some x =>
    obtain ⟨a, h1, h2⟩ := evK_out h
    unfold intK at h2
    split at h2
    · rename_i k i; exact ⟨some i, .some x k i h1, h2⟩
    · cases h2

def cutK {β : Type} (l : List β) (lo hi : Option Int) (K : List β → Prop) : Prop :=
  match lo, hi with
  | none, none => K l
  | none, some b => BndK b l.length fun j => K (l.take j)
  | some a, none => BndK a l.length fun j => K (l.drop j)
  | some a, some b => BndK b l.length fun jh => BndK a jh fun jl => K ((l.take jh).drop jl)

theorem cutK_out {β : Type} {l : List β} {lo hi : Option Int} {K : List β → Prop} (h : cutK l lo hi K) :
    ∃ jl jh, K ((l.take jh).drop jl) ∧ jl ≤ jh ∧ jh ≤ l.length ∧ (lo = none ∧ jl = 0 ∨ lo = some (jl : Int)) ∧ (hi = none ∧ jh = l.length ∨ hi = some (jh : Int)) := by
  unfold cutK at h
  split at h
  · exact ⟨0, l.length, by simpa using h, by omega, by omega, .inl ⟨rfl, rfl⟩, .inl ⟨rfl, rfl⟩⟩
  · obtain ⟨j, rfl, hj, h⟩ := h
    exact ⟨0, j, by simpa using h, by omega, hj, .inl ⟨rfl, rfl⟩, .inr rfl⟩
  · obtain ⟨j, rfl, hj, h⟩ := h
    exact ⟨j, l.length, by simpa using h, hj, by omega, .inr rfl, .inl ⟨rfl, rfl⟩⟩
  · obtain ⟨jh, rfl, hh, jl, rfl, hl, h⟩ := h
    exact ⟨jl, jh, h, hl, hh, .inr rfl, .inr rfl⟩

theorem extract_mk (l : List UInt8) (a b : Nat) : (ByteArray.mk l.toArray).extract a b = ⟨((l.take b).drop a).toArray⟩ := by
  apply ByteArray.ext
  simp only [ByteArray.data_extract]
  apply Array.ext'
  simp [List.drop_take]

theorem arr_read {w : World} {α : Nat → Loc} {X X' : Nat → Prop} {k sz : Nat} {xs : List D} (h : Own w α X k (.arr sz xs)) (hX : ∀ b, X' b → X b) (hb : (α k).nil = false → ¬ X' (α k).blk) :
    Rd w X' (.sl sz xs) (.slice (some ⟨(α k).blk, (α k).off, none⟩) xs.length xs.length) := by
  rcases h with ⟨_, ⟨sz', _, he⟩, hv⟩ | ⟨hnil, arr, T, fz, cap, hB⟩
  · cases he
  · have hval : ∀ (j m : Nat) (x c : D), xs[j]? = some x → x.cells[m]? = some c → arr[(α k).off + j * sz + m]? = some (arr.getD ((α k).off + j * sz + m) undef) ∧ Rd w X' c (arr.getD ((α k).off + j * sz + m) undef) := by
      intro j m x c hx hc
      obtain ⟨v, hv, hr⟩ := hB.rd j m _ (cell_d (e := .arr sz xs) rfl hx hc)
      simp only [Ent.sz] at hv
      have := hr.dinv.mono (X' := X') fun b o hb' hnx => ⟨hb', fun hx' => hnx (hX b hx')⟩
      simp [Array.getD_eq_getD_getElem?, hv, this]
    exact .sl sz xs _ _ _ xs.length arr T fz (fun j m => arr.getD ((α k).off + j * sz + m) undef) hB.heap (hb hnil) rfl (Nat.le_refl _) hB.wid (fun j m x c hx hc => (hval j m x c hx hc).1) fun j m x c hx hc => (hval j m x c hx hc).2

def sliceK (C : Ctx) (st : AS) (T : TypeId) (a : AV) (lo hi : Option Int) (K : KO) : Prop :=
  lookK C.tab T fun ti => match a, ti.kd with
    | .d (.s l), .str => cutK l lo hi fun r => K (.d (.s r)) [] []
    | .d (.sl sz xs), .slice e => lookK C.tab e fun te => match Nat.beq te.size sz with
      | true => cutK xs lo hi fun r => K (.d (.sl sz r)) [] []
      | false => False
    | .os k, .slice e => ownK st k fun en => lookK C.tab e fun te => match en with
      | .buf sz xs _ => match Nat.beq te.size sz with
        | true => cutK xs lo hi fun r => K (.d (.sl sz r)) [(k, none)] [k]
        | false => False
      | _ => False
    | .op k 0 0, .array m e => ownK st k fun en => lookK C.tab e fun te => match en with
      | .arr sz xs => match Nat.beq te.size sz with
        | true => SameK m xs.length (cutK xs lo hi fun r => K (.d (.sl sz r)) [(k, none)] [k])
        | false => False
      | _ => False
    | _, _ => False

section
variable {C : Ctx} {n : Nat} {o : Oper} {nm : Nat} {st : AS} {K : KO}

theorem ov_bv {G : List Gl} {X0 : Nat → Prop} {F : Fr} {w0 : World} {n : Nat} {p : Nat → Prop} {α : Nat → Loc} {S : SS} {a : Act} {w : World} (hs : Sim G X0 F w0 n p α S a w)
    {x : Option Operand} {i : Option Int} {env : Nat → Option AV} (h : Ov env x i) (he : ∀ t, x = some (.tmp t) → ∀ av, env t = some av → S.env t = some av) {d j : Nat} (hi : i = none ∧ j = d ∨ i = some (j : Int)) :
    BV (x.map a.eval) d j := by
  cases h with
  | none => rcases hi with ⟨_, rfl⟩ | h; exact .inl ⟨rfl, rfl⟩; cases h
  | some x k i hx =>
    rcases hi with ⟨h, _⟩ | h
    · cases h
    · cases h
      have := ((hx.congr fun t e => he t (by rw [e])).read hs).dinv.iinv
      exact .inr ⟨k, by simp [this]⟩

theorem run_slice_slice {P : Program} {w : World} {T e : TypeId} {ti te : TyI} (ht : TyOk P T ti) (hk : ti.kd = .slice e) (hte : TyOk P e te) (b : Option Addr) {len cap jl jh : Nat} {lo hi : Option Value}
    (h1 : BV lo 0 jl) (h2 : BV hi len jh) (h3 : jl ≤ jh) (h4 : jh ≤ cap) :
    (Instr.sliceAt T (.slice b len cap) lo hi none).run P w = .ok (.slice (if cap = jl then b else b.map (·.add (jl * te.size))) (jh - jl) (cap - jl)) w := by
  have hu := und_slice ht hk
  simp [Instr.sliceAt, Instr.slice, underlying, hu, run_sliceBounds h1 h2 h3 h4, run_size hte]

theorem run_slice_arr {P : Program} {w : World} {T e m : TypeId} {ti te : TyI} (ht : TyOk P T ti) (hk : ti.kd = .array m e) (hte : TyOk P e te) (b : Addr) {jl jh : Nat} {lo hi : Option Value}
    (h1 : BV lo 0 jl) (h2 : BV hi m jh) (h3 : jl ≤ jh) (h4 : jh ≤ m) :
    (Instr.sliceAt T (.pointer (some b)) lo hi none).run P w = .ok (.slice (if m = jl then some b else (some b).map (·.add (jl * te.size))) (jh - jl) (m - jl)) w := by
  have hu := und_array ht hk
  simp [Instr.sliceAt, Instr.sureAddr, underlying, hu, run_sliceBounds h1 h2 h3 h4, run_size hte]
  split <;> rfl

theorem run_slice_str {P : Program} {w : World} {T : TypeId} {ti : TyI} (ht : TyOk P T ti) (hk : ti.kd = .str) (l : List UInt8) {jl jh : Nat} {lo hi : Option Value}
    (h1 : BV lo 0 jl) (h2 : BV hi l.length jh) (h3 : jl ≤ jh) (h4 : jh ≤ l.length) :
    (Instr.sliceAt T (.string ⟨l.toArray⟩) lo hi none).run P w = .ok (.string ⟨((l.take jh).drop jl).toArray⟩) w := by
  have hu := und_str ht hk
  have := run_sliceBounds (P := P) (w := w) (isS := false) (len := l.length) (cap := l.length) h1 h2 h3 h4
  simp [Instr.sliceAt, Instr.slice, underlying, hu, size_mk, this, extract_mk]

theorem get_cut {β : Type} {l : List β} {jl jh j : Nat} {x : β} (h : ((l.take jh).drop jl)[j]? = some x) : l[jl + j]? = some x := by
  rw [List.getElem?_drop, List.getElem?_take] at h
  split at h
  · exact h
  · cases h

/-- A slice's part reads as the list's part. -/
theorem cut_read {w : World} {X : Nat → Prop} {sz : Nat} {xs : List D} {b : Option Addr} {len cap jl jh : Nat} (h : Rd w X (.sl sz xs) (.slice b len cap)) (h3 : jl ≤ jh) (h4 : jh ≤ xs.length) :
    Rd w X (.sl sz ((xs.take jh).drop jl)) (.slice (if cap = jl then b else b.map (·.add (jl * sz))) (jh - jl) (cap - jl)) ∧ jh ≤ cap ∧ len = xs.length := by
  cases h with
  | slnil =>
    simp at h4; subst h4
    have : jl = 0 := by omega
    subst this
    exact ⟨by simpa using Rd.slnil sz, by omega, rfl⟩
  | sle _ a =>
    simp at h4; subst h4
    have : jl = 0 := by omega
    subst this
    refine ⟨?_, by omega, rfl⟩
    have ha : a.add 0 = a := by unfold Addr.add; rw [if_pos rfl]
    have := Rd.sle (w := w) (X := X) sz a cap
    by_cases hc : cap = 0
    · rw [if_pos hc]; simpa using this
    · rw [if_neg hc]; simpa [ha] using this
  | sl _ _ blk off _ _ arr T fz f hh hX hl hc hw h1 h2 =>
    refine ⟨?_, by omega, hl.symm⟩
    by_cases hcap : cap = jl
    · rw [if_pos hcap]
      have : (xs.take jh).drop jl = [] := List.eq_nil_of_length_eq_zero (by simp; omega)
      rw [this]
      refine .sl sz [] blk off _ _ arr T fz f hh hX (by simp; omega) (by omega) ?_ ?_ ?_ <;> intro j <;> simp
    · rw [if_neg hcap]
      simp only [Option.map_some, Addr.add_mk]
      refine .sl sz _ blk (off + jl * sz) _ _ arr T fz (fun j m => f (jl + j) m) hh hX (by simp; omega) (by omega) ?_ ?_ ?_
      · intro j x hx; exact hw (jl + j) x (get_cut hx)
      · intro j m x c hx hc'
        have := h1 (jl + j) m x c (get_cut hx) hc'
        rw [← this]; congr 1; rw [Nat.add_mul]; omega
      · intro j m x c hx hc'; exact h2 (jl + j) m x c (get_cut hx) hc'

theorem slice_out {T : TypeId} {x : Operand} {lo hi : Option Operand} (ho : o.op = .slice T x lo hi none)
    (h : evK st x fun a => ovK st lo fun l => ovK st hi fun r => sliceK C st T a l r K) : ∃ out upd rd, K out upd rd ∧ VOp C n o nm st rd out upd := by
  replace h := evK_out h; obtain ⟨va, h1, h⟩ := h
  replace h := ovK_out h; obtain ⟨vl, h2, h⟩ := h
  replace h := ovK_out h; obtain ⟨vh, h3, h⟩ := h
  have hm1 : x ∈ o.op.operands := by rw [ho]; simp [Op.operands]
  have hm2 : ∀ y, lo = some y → y ∈ o.op.operands := by intro y hy; rw [ho, hy]; simp [Op.operands]
  have hm3 : ∀ y, hi = some y → y ∈ o.op.operands := by intro y hy; rw [ho, hy]; simp [Op.operands]
  unfold sliceK at h
  replace h := lookK_out h; obtain ⟨ti, hti, h⟩ := h
  have run : ∀ (a : Act) (w : World) (v : Value), (Instr.sliceAt T (a.eval x) (lo.map a.eval) (hi.map a.eval) none).run C.P w = .ok v w → (execOp a.eval o).run C.P w = .ok (.value v) w := by
    intro a w v hv
    simp [execOp, ho, hv]
  split at h
  · rename_i l hk
    replace h := cutK_out h; obtain ⟨jl, jh, h, h5, h6, h7, h8⟩ := h
    refine ⟨_, _, _, h, VOp.pure fun X0 F w0 p α S a w hs he _ => ?_⟩
    have hx := ((h1.to hm1 he).read hs).dinv.sinv
    have hl := ov_bv hs h2 (fun t e => he t (hm2 _ e)) (d := 0) h7
    have hh := ov_bv hs h3 (fun t e => he t (hm3 _ e)) (d := l.length) h8
    refine ⟨_, run a w _ ?_, .d _ _ (.s _), .d _⟩
    rw [hx]
    exact run_slice_str (C.ty hti) hk l hl hh h5 h6
  · rename_i sz xs e hk
    replace h := lookK_out h; obtain ⟨te, hte, h⟩ := h
    split at h
    · rename_i hsz
      have hsz := Nat.eq_of_beq_eq_true hsz
      replace h := cutK_out h; obtain ⟨jl, jh, h, h5, h6, h7, h8⟩ := h
      refine ⟨_, _, _, h, VOp.pure fun X0 F w0 p α S a w hs he _ => ?_⟩
      have hr := ((h1.to hm1 he).read hs).dinv
      obtain ⟨b, cap, hx⟩ := hr.slinv
      rw [hx] at hr
      have hl := ov_bv hs h2 (fun t e => he t (hm2 _ e)) (d := 0) h7
      have hh := ov_bv hs h3 (fun t e => he t (hm3 _ e)) (d := xs.length) h8
      obtain ⟨h9, h10, h11⟩ := cut_read hr h5 h6
      refine ⟨_, run a w _ (by rw [hx]; exact run_slice_slice (C.ty hti) hk (C.ty hte) b hl hh h5 h10), ?_, .d _⟩
      rw [hsz]; exact .d _ _ h9
    · cases h
  · rename_i k e hk
    replace h := ownK_out h; obtain ⟨en, hen, h⟩ := h
    replace h := lookK_out h; obtain ⟨te, hte, h⟩ := h
    split at h
    · rename_i sz xs T0
      split at h
      · rename_i hsz
        have hsz := Nat.eq_of_beq_eq_true hsz
        replace h := cutK_out h; obtain ⟨jl, jh, h, h5, h6, h7, h8⟩ := h
        refine ⟨_, _, _, h, VOp.give (kills := [k]) (fun _ hk => hk) (fun j hj => by simp at hj; subst hj; exact ⟨_, hen⟩) fun X0 F w0 p α S a w hs he ho' => ?_⟩
        have hSk := ho' k (by simp) _ hen
        have hr := (h1.to hm1 he).read hs
        generalize hx : a.eval x = v at hr
        cases hr
        have hl := ov_bv hs h2 (fun t e => he t (hm2 _ e)) (d := 0) h7
        have hh := ov_bv hs h3 (fun t e => he t (hm3 _ e)) (d := xs.length) h8
        obtain ⟨b, cap, hb⟩ := os_len hs hSk
        have hown := hs.own k _ hSk
        have hcap : jh ≤ cap := by
          have := own_read (X' := fun _ => False) hown (fun b hb => hb.elim) (fun _ hb => hb)
          rw [hb] at this
          exact (cut_read this h5 h6).2.1
        rw [hb] at hx
        refine ⟨_, run a w _ (by rw [hx]; exact run_slice_slice (C.ty hti) hk (C.ty hte) b hl hh h5 hcap), .d _, fun X' hX' hn => ?_⟩
        have := own_read hown hX' (hn k (by simp))
        rw [hb] at this
        rw [hsz]
        exact .d _ _ (cut_read this h5 h6).1
      · cases h
    · cases h
  · rename_i k m e hk
    replace h := ownK_out h; obtain ⟨en, hen, h⟩ := h
    replace h := lookK_out h; obtain ⟨te, hte, h⟩ := h
    split at h
    · rename_i sz xs
      split at h
      · rename_i hsz
        have hsz := Nat.eq_of_beq_eq_true hsz
        obtain ⟨hm, h⟩ := h
        replace h := cutK_out h; obtain ⟨jl, jh, h, h5, h6, h7, h8⟩ := h
        refine ⟨_, _, _, h, VOp.give (kills := [k]) (fun _ hk => hk) (fun j hj => by simp at hj; subst hj; exact ⟨_, hen⟩) fun X0 F w0 p α S a w hs he ho' => ?_⟩
        have hSk := ho' k (by simp) _ hen
        have hr := (h1.to hm1 he).read hs
        generalize hx : a.eval x = v at hr
        cases hr
        have hl := ov_bv hs h2 (fun t e => he t (hm2 _ e)) (d := 0) h7
        have hh := ov_bv hs h3 (fun t e => he t (hm3 _ e)) (d := xs.length) h8
        have hown := hs.own k _ hSk
        refine ⟨_, run a w _ (by rw [hx]; exact run_slice_arr (C.ty hti) hk (C.ty hte) _ hl (by rw [hm]; exact hh) h5 (by rw [hm]; exact h6)), .d _, fun X' hX' hn => ?_⟩
        have := arr_read hown hX' (hn k (by simp))
        have hc := (cut_read this h5 h6).1
        rw [hsz, hm]
        refine .d _ _ ?_
        simpa using hc
      · cases h
    · cases h
  · cases h

end
end Go.Eng

/-
  Data out of slots; aggregates and rows built; strings and bytes; append; stores: their reckoning, and that it speaks true.
-/
namespace Go.Eng

/-! #### A slot's value as data -/

def cdK (st : AS) (a : AV) (K : D → List Nat → Prop) : Prop :=
  match a with
  | .d x => K x []
  | .nl sz => K (.sl sz []) []
  | .os k => ownK st k fun e => match e with | .buf sz xs _ => K (.sl sz xs) [k] | _ => False
  | _ => False

def cdsK (st : AS) : List AV → (List D → List Nat → Prop) → Prop
  | [], K => K [] []
  | a :: l, K => cdK st a fun d us => cdsK st l fun ds vs => match us with | [] => K (d :: ds) vs | us => K (d :: ds) (us ++ vs)

def toDK (st : AS) (a : AV) (K : D → List Nat → Prop) : Prop :=
  match a with
  | .agg cs => cdsK st cs fun ds us => K (.agg ds) us
  | a => cdK st a K

structure ToD (st : AS) (a : AV) (d : D) (us : List Nat) : Prop where
  ent : ∀ k, k ∈ us → ∃ e, st.ss.own k = some e
  rd : ∀ w α X X' v, RdA w α X a v → (∀ k, k ∈ us → ∀ e, st.ss.own k = some e → Own w α X k e) → (∀ b, X' b → X b) → (∀ k, k ∈ us → (α k).nil = false → ¬ X' (α k).blk) → Rd w X' d v

theorem cdK_out {st : AS} {a : AV} {K : D → List Nat → Prop} (h : cdK st a K) : ∃ d us, K d us ∧ ToD st a d us := by
  unfold cdK at h
  split at h
  · exact ⟨_, _, h, (fun k hk => by cases hk), fun w α X X' v hr _ hX _ => hr.dinv.mono fun b o hb hn => ⟨hb, fun h => hn (hX b h)⟩⟩
  · exact ⟨_, _, h, (fun k hk => by cases hk), fun w α X X' v hr _ _ _ => by cases hr; exact .slnil _⟩
  · rename_i k
    replace h := ownK_out h; obtain ⟨e, he, h⟩ := h
    split at h
    · refine ⟨_, _, h, fun j hj => ?_, fun w α X X' v hr ho hX hb => ?_⟩
      · simp at hj; subst hj; exact ⟨_, he⟩
      · cases hr; exact own_read (ho k (by simp) _ he) hX (hb k (by simp))
    · cases h
  · cases h

theorem cdsK_out {st : AS} {l : List AV} {K : List D → List Nat → Prop} (h : cdsK st l K) :
    ∃ ds us, K ds us ∧ ds.length = l.length ∧ (∀ k, k ∈ us → ∃ e, st.ss.own k = some e) ∧ ∀ (j : Nat) (a : AV) (d : D), l[j]? = some a → ds[j]? = some d → ∃ vs, ToD st a d vs ∧ ∀ k, k ∈ vs → k ∈ us := by
  induction l generalizing K with
  | nil => exact ⟨[], [], h, rfl, (fun k hk => by cases hk), fun j a d hj => by simp at hj⟩
  | cons a l ih =>
    obtain ⟨d, us, h, h1⟩ := cdK_out h
    obtain ⟨ds, vs, h, h2, h3, h4⟩ := ih h
    have fin : ∀ ws, (∀ k, k ∈ ws ↔ k ∈ us ∨ k ∈ vs) → K (d :: ds) ws → ∃ ds us, K ds us ∧ ds.length = (a :: l).length ∧ (∀ k, k ∈ us → ∃ e, st.ss.own k = some e) ∧
        ∀ (j : Nat) (b : AV) (d : D), (a :: l)[j]? = some b → ds[j]? = some d → ∃ vs, ToD st b d vs ∧ ∀ k, k ∈ vs → k ∈ us := by
      intro ws hws hk
      refine ⟨_, _, hk, by simp [h2], fun k hk => ?_, fun j b d' hj hd => ?_⟩
      · rcases (hws k).1 hk with h | h
        · exact h1.ent k h
        · exact h3 k h
      · cases j with
        | zero => simp at hj hd; subst hj hd; exact ⟨us, h1, fun k hk => (hws k).2 (.inl hk)⟩
        | succ j =>
          obtain ⟨vs', h5, h6⟩ := h4 j b d' (by simpa using hj) (by simpa using hd)
          exact ⟨vs', h5, fun k hk => (hws k).2 (.inr (h6 k hk))⟩
    split at h
    · exact fin vs (fun k => by simp) h
    · exact fin _ (fun k => by simp) h

theorem toDK_out {st : AS} {a : AV} {K : D → List Nat → Prop} (h : toDK st a K) : ∃ d us, K d us ∧ ToD st a d us := by
  unfold toDK at h
  split at h
  · rename_i cs
    obtain ⟨ds, us, h, h1, h2, h3⟩ := cdsK_out h
    refine ⟨_, _, h, h2, fun w α X X' v hr ho hX hb => ?_⟩
    cases hr with
    | agg _ vs hl hc =>
      refine .agg ds vs (by omega) fun j d u hd hu => ?_
      obtain ⟨a, ha⟩ : ∃ a, cs[j]? = some a := by
        have : j < cs.length := by rw [← h1]; exact (List.getElem?_eq_some_iff.1 hd).1
        exact ⟨cs[j], by simp [this]⟩
      obtain ⟨vs', h4, h5⟩ := h3 j a d ha hd
      exact h4.rd w α X X' u (hc j a u ha hu) (fun k hk => ho k (h5 k hk)) hX fun k hk => hb k (h5 k hk)
  · exact cdK_out h

/-! #### Aggregates -/

section
variable {C : Ctx} {n : Nat} {o : Oper} {nm : Nat} {st : AS} {K : KO}

/-- The parts, each with where it goes, in turn. -/
def partsK (C : Ctx) (st : AS) (place : Nat → (Nat × Nat → Prop) → Prop) : List (Nat × Operand) → List AV → (List AV → Prop) → Prop
  | [], cs, K => K cs
  | (i, x) :: ps, cs, K => place i fun pt => lookK C.tab pt.2 fun te => evTK C st pt.2 x fun a => cellsK a fun new =>
      match Nat.beq new.length te.size with
      | true => setK cs pt.1 new fun r => partsK C st place ps r K
      | false => False

theorem partsK_out {place : Nat → (Nat × Nat → Prop) → Prop} {pl : Nat → Option (Nat × Nat)} {ps : List (Nat × Operand)} {cs : List AV} {K : List AV → Prop}
    (hpl : ∀ i K, place i K → ∃ pt : Nat × Nat, K pt ∧ ∀ te, look C.tab pt.2 = some te → pl i = some (pt.1, te.size))
    (hmem : ∀ i x, (i, x) ∈ ps → x ∈ o.op.operands) (h : partsK C st place ps cs K) :
    ∃ r, K r ∧ r.length = cs.length ∧ (∀ X0 F w0 p α S a w, Sim C.G X0 F w0 n p α S a w → (∀ t, Operand.tmp t ∈ o.op.operands → ∀ av, st.ss.env t = some av → S.env t = some av) →
      (∀ c, c ∈ cs → c.ok p) → ∀ vs, Alike w α (XX α S.own X0) cs vs → ∃ vs', Instr.fill pl vs (ps.map fun (i, x) => (i, a.eval x)) = some vs' ∧ Alike w α (XX α S.own X0) r vs' ∧ ∀ c, c ∈ r → c.ok p) := by
  induction ps generalizing cs with
  | nil => exact ⟨cs, h, rfl, fun X0 F w0 p α S a w _ _ hok vs hA => ⟨vs, rfl, hA, hok⟩⟩
  | cons y ps ih =>
    obtain ⟨i, x⟩ := y
    simp only [partsK] at h
    obtain ⟨pt, h, hp⟩ := hpl i _ h
    replace h := lookK_out h; obtain ⟨te, hte, h⟩ := h
    replace h := evTK_out h; obtain ⟨av, h1, h⟩ := h
    replace h := cellsK_out h; obtain ⟨new, h, h2⟩ := h
    split at h
    · rename_i hlen
      have hlen := Nat.eq_of_beq_eq_true hlen
      replace h := setK_out h; obtain ⟨r, h, h3, h4, h5⟩ := h
      obtain ⟨r', h, h6, h7⟩ := ih (fun i x hx => hmem i x (List.mem_cons_of_mem _ hx)) h
      refine ⟨r', h, by omega, fun X0 F w0 p α S a w hs he hok vs hA => ?_⟩
      have hx := h1.to (hmem i x List.mem_cons_self) he
      have hA' := alike_set hA h2 (hx.read hs) h3 h4 h5
      have hok' : ∀ c, c ∈ r → c.ok p := by
        intro c hc
        obtain ⟨j, hj⟩ := List.mem_iff_getElem?.1 hc
        rw [h5 j] at hj
        split at hj
        · exact h2.ok p (hx.ok hs) c (List.mem_of_getElem? hj)
        · exact hok c (List.mem_of_getElem? hj)
      obtain ⟨vs', h8, h9⟩ := h7 X0 F w0 p α S a w hs he hok' _ hA'
      refine ⟨vs', ?_, h9⟩
      have hsz := (h2.rd w α _ _ (hx.read hs)).1
      simp only [List.map_cons, Instr.fill, hp te hte]
      rw [if_neg]
      · exact h8
      · simp only [ne_eq, Bool.or_eq_true, decide_eq_true_eq]
        have := hA.1
        simp only [not_or, Decidable.not_not, Nat.not_lt]
        omega
    · cases h

def buildK (C : Ctx) (st : AS) (T : TypeId) (ps : List (Nat × Operand)) (K : AV → Prop) : Prop :=
  lookK C.tab T fun ti => match ti.kd with
    | .struct os => partsK C st (fun i K => nthK os i K) ps ti.zero fun r => mkAggK r K
    | .array _ e => lookK C.tab e fun te => partsK C st (fun i K => K (i * te.size, e)) ps ti.zero fun r => mkAggK r K
    | _ => False

theorem places_of {P : Program} {os : List (Nat × Nat)} : ∀ {fs : List Field}, offsB P os fs = true →
    ∃ r, fs.mapM (fun f => (P.info? f.type).map fun i => (f.offset, i.size)) = some r ∧ ∀ (j : Nat) (x : Nat × Nat), os[j]? = some x → ∃ i, P.info? x.2 = some i ∧ r[j]? = some (x.1, i.size) := by
  induction os with
  | nil => intro fs h; cases fs <;> simp [offsB] at h; exact ⟨[], by simp, fun j x hx => by simp at hx⟩
  | cons o os ih =>
    intro fs h
    cases fs with
    | nil => simp [offsB] at h
    | cons f fs =>
      simp only [offsB, Bool.and_eq_true] at h
      obtain ⟨⟨⟨h1, h2⟩, h3⟩, h4⟩ := h
      obtain ⟨r, h5, h6⟩ := ih h4
      split at h3
      · rename_i i hi
        refine ⟨(f.offset, i.size) :: r, by simp [hi, h5], fun j x hx => ?_⟩
        cases j with
        | zero =>
          simp at hx; subst hx
          exact ⟨i, by rw [Nat.eq_of_beq_eq_true h2]; exact hi, by simp [Nat.eq_of_beq_eq_true h1]⟩
        | succ j => simpa using h6 j x (by simpa using hx)
      · cases h3

theorem build_out {T : TypeId} {ps : Array (Nat × Operand)} (ho : o.op = .build T ps) (h : buildK C st T ps.toList fun r => K r [] []) : ∃ out upd rd, K out upd rd ∧ VOp C n o nm st rd out upd := by
  have hmem : ∀ i x, (i, x) ∈ ps.toList → x ∈ o.op.operands := by
    intro i x hx
    rw [ho]
    simp only [Op.operands, List.mem_toArray]
    exact List.mem_map.2 ⟨(i, x), hx, rfl⟩
  unfold buildK at h
  replace h := lookK_out h; obtain ⟨ti, hti, h⟩ := h
  have hty := C.ty hti
  obtain ⟨⟨it, hit, hits, _, z, hz, hzl⟩, _⟩ := C.ty hti
  have fin : ∀ (pl : Nat → Option (Nat × Nat)) (r : List AV) , (∀ (parts : List (Nat × Value)) cells, Instr.fill pl z.cells parts = some cells → C.P.built T parts = some cells) →
      (∀ X0 F w0 p α S a w, Sim C.G X0 F w0 n p α S a w → (∀ t, Operand.tmp t ∈ o.op.operands → ∀ av, st.ss.env t = some av → S.env t = some av) →
      (∀ c, c ∈ ti.zero → c.ok p) → ∀ vs, Alike w α (XX α S.own X0) ti.zero vs → ∃ vs', Instr.fill pl vs (ps.toList.map fun (i, x) => (i, a.eval x)) = some vs' ∧ Alike w α (XX α S.own X0) r vs' ∧ ∀ c, c ∈ r → c.ok p) →
      mkAggK r (fun r => K r [] []) → ∃ out upd rd, K out upd rd ∧ VOp C n o nm st rd out upd := by
    intro pl r hbuilt hr hk
    obtain ⟨av, hk, hok, hrd⟩ := mkAggK_out hk
    refine ⟨_, _, _, hk, VOp.pure fun X0 F w0 p α S a w hs he _ => ?_⟩
    obtain ⟨vs', h1, h2, h3⟩ := hr X0 F w0 p α S a w hs he (zl_ok hzl) z.cells (zl_alike hzl)
    refine ⟨.agg vs', ?_, hrd w α _ vs' h2.1 h2.2, hok p h3⟩
    have := run_build (P := C.P) w T (ps.map fun (i, x) => (i, a.eval x)) vs' (by rw [Array.toList_map]; exact hbuilt _ _ h1)
    simp only [execOp, ho, Sem.run_bind, this, Result.andThen_ok]
    rfl
  split at h
  · rename_i os hk
    obtain ⟨fs, hu, hB⟩ := und_struct hty hk
    obtain ⟨places, hpl, hpl2⟩ := places_of hB
    obtain ⟨r, h, _, hr⟩ := partsK_out (n := n) (o := o) (pl := fun i => places.toArray[i]?) (fun i K hK => by
      obtain ⟨x, h1, h2⟩ := nthK_out hK
      refine ⟨x, h2, fun te hte => ?_⟩
      obtain ⟨ii, h3, h4⟩ := hpl2 i x h1
      obtain ⟨⟨i2, h5, h6, _⟩, _⟩ := C.ty hte
      rw [h3] at h5; cases h5
      simp [h4, h6]) hmem h
    refine fin _ r (fun parts cells hf => ?_) hr h
    simp only [Program.built, hit, hu, hz, hpl]; exact hf
  · rename_i m e hk
    have hu := und_array hty hk
    replace h := lookK_out h; obtain ⟨te, hte, h⟩ := h
    obtain ⟨⟨ie, hie, hies, _⟩, _⟩ := C.ty hte
    obtain ⟨r, h, _, hr⟩ := partsK_out (n := n) (o := o) (pl := fun i => some (i * ie.size, ie.size)) (fun i K hK => by
      refine ⟨(i * te.size, e), hK, fun te' hte' => ?_⟩
      rw [hte] at hte'; cases hte'
      simp [hies]) hmem h
    refine fin _ r (fun parts cells hf => ?_) hr h
    simp only [Program.built, hit, hu, hz, hie]; exact hf
  · cases h

/-! #### A row of literals -/

def chunkK (sz : Nat) (agg : Bool) : Nat → List D → (List D → Prop) → Prop
  | 0, [], K => K []
  | 0, _ :: _, _ => False
  | m + 1, l, K => match agg with
    | true => takeK l 0 sz fun x => dropK sz l fun r => chunkK sz agg m r fun ds => K (.agg x :: ds)
    | false => match l with | x :: r => chunkK sz agg m r fun ds => K (x :: ds) | [] => False
where
  dropK : Nat → List D → (List D → Prop) → Prop
  | 0, l, K => K l
  | j + 1, _ :: l, K => dropK j l K
  | _ + 1, [], _ => False

theorem dropK_out {j : Nat} {l : List D} {K : List D → Prop} (h : chunkK.dropK j l K) : K (l.drop j) ∧ j ≤ l.length := by
  induction j generalizing l with
  | zero => exact ⟨h, by omega⟩
  | succ j ih =>
    cases l with
    | nil => cases h
    | cons x l => obtain ⟨h1, h2⟩ := ih h; exact ⟨h1, by simp; omega⟩

theorem chunkK_out {sz : Nat} {agg : Bool} {m : Nat} {l : List D} {K : List D → Prop} (h0 : ∀ d, d ∈ l → d.one = true) (h1 : agg = false → sz = 1) (h : chunkK sz agg m l K) :
    ∃ ds, K ds ∧ ds.length = m ∧ l.length = m * sz ∧ (∀ (j : Nat) (x : D), ds[j]? = some x → x.wd sz) ∧ ∀ (j i : Nat) (x c : D), ds[j]? = some x → x.cells[i]? = some c → l[j * sz + i]? = some c := by
  induction m generalizing l K with
  | zero =>
    cases l with
    | nil => exact ⟨[], h, rfl, by simp, (fun j x hx => by simp at hx), fun j i x c hx => by simp at hx⟩
    | cons => simp only [chunkK] at h
  | succ m ih =>
    simp only [chunkK] at h
    split at h
    · replace h := takeK_out h; obtain ⟨x, hx1, hx2, h⟩ := h
      replace h := dropK_out h; obtain ⟨h, hle⟩ := h
      obtain ⟨ds, h, h2, h3, h4, h5⟩ := ih (fun d hd => h0 d (List.mem_of_mem_drop hd)) h
      refine ⟨_, h, by simp [h2], ?_, fun j y hy => ?_, fun j i y c hy hc => ?_⟩
      · simp at h3; rw [Nat.add_mul]; omega
      · cases j with
        | zero =>
          simp at hy; subst hy
          refine ⟨hx1, fun c hc => ?_⟩
          obtain ⟨i, hi⟩ := List.mem_iff_getElem?.1 hc
          have := hx2 i c hi
          exact h0 c (List.mem_of_getElem? this)
        | succ j => exact h4 j y (by simpa using hy)
      · cases j with
        | zero => simp at hy; subst hy; simpa using hx2 i c hc
        | succ j =>
          have := h5 j i y c (by simpa using hy) hc
          rw [List.getElem?_drop] at this
          rw [← this]; congr 1; rw [Nat.add_mul]; omega
    · obtain rfl := h1 rfl
      cases l with
      | nil => cases h
      | cons x r =>
        obtain ⟨ds, h, h2, h3, h4, h5⟩ := ih (fun d hd => h0 d (List.mem_cons_of_mem _ hd)) h
        have hx1 := h0 x List.mem_cons_self
        have hx := one_cells hx1
        refine ⟨_, h, by simp [h2], by simp at h3 ⊢; omega, fun j y hy => ?_, fun j i y c hy hc => ?_⟩
        · cases j with
          | zero => simp at hy; subst hy; unfold D.wd; rw [hx]; exact ⟨rfl, fun c hc => by simp at hc; subst hc; exact hx1⟩
          | succ j => exact h4 j y (by simpa using hy)
        · cases j with
          | zero =>
            simp at hy; subst hy; rw [hx] at hc
            cases i with
            | zero => simpa using hc
            | succ i => simp at hc
          | succ j =>
            have := h5 j i y c (by simpa using hy) hc
            simp only [Nat.mul_one] at this ⊢
            rw [show j + 1 + i = (j + i) + 1 by omega]; simpa using this

def anysK : Nat → (List AV → Prop) → Prop
  | 0, K => K []
  | m + 1, K => anysK m fun l => K (.any :: l)

theorem anysK_out {m : Nat} {K : List AV → Prop} (h : anysK m K) : K (List.replicate m .any) := by
  induction m generalizing K with
  | zero => exact h
  | succ m ih => exact ih (K := fun l => K (.any :: l)) h

def rowK (C : Ctx) (st : AS) (nm : Nat) (T : TypeId) (len : Nat) (ps : List (Nat × Operand)) (K : KO) : Prop :=
  lookK C.tab T fun ti => match ti.kd with
    | .slice e => lookK C.tab e fun te => match len with
      | 0 => match ps with | [] => K (.os (16 * nm)) [(16 * nm, some (.buf te.size []))] [] | _ => False
      | len => match Nat.ble 1 (len * te.size), Nat.ble (len * te.size) 16777216 with
        | true, true => anysK (len * te.size) fun cs => partsK C st (fun i K => K (i * te.size, e)) ps cs fun r => allDK r (fun l => match te.agg, l.all D.one with
          | true, true => chunkK te.size true len l fun ds => K (.os (16 * nm)) [(16 * nm, some (.buf te.size ds (some e)))] []
          | false, true => match Nat.beq te.size 1 with
            | true => chunkK te.size false len l fun ds => K (.os (16 * nm)) [(16 * nm, some (.buf te.size ds (some e)))] []
            | _ => False
          | _, _ => False) False
        | _, _ => False
    | _ => False

theorem row_out {T : TypeId} {len : Nat} {ps : Array (Nat × Operand)} (ho : o.op = .buildSlice T len ps) (h : rowK C st nm T len ps.toList K) : ∃ out upd rd, K out upd rd ∧ VOp C n o nm st rd out upd := by
  have hmem : ∀ i x, (i, x) ∈ ps.toList → x ∈ o.op.operands := by
    intro i x hx
    rw [ho]
    simp only [Op.operands, List.mem_toArray]
    exact List.mem_map.2 ⟨(i, x), hx, rfl⟩
  unfold rowK at h
  replace h := lookK_out h; obtain ⟨ti, hti, h⟩ := h
  split at h
  · rename_i e hk
    have hu := und_slice (C.ty hti) hk
    replace h := lookK_out h; obtain ⟨te, hte, h⟩ := h
    obtain ⟨⟨ie, hie, hies, _, z, hz, hzl⟩, _⟩ := C.ty hte
    split at h
    · split at h
      · rename_i hps
        refine ⟨_, _, _, h, VOp.make (kills := []) (fun _ hk => by cases hk) (.inl rfl) fun X0 F w0 p α S a w hs he _ => ?_⟩
        refine ⟨w.alloc (.cells #[] e), .slice (some ⟨w.heap.size, 0, none⟩) 0 0, #[], e, (0, 0), 0, ⟨rfl, rfl, rfl, rfl, Nat.le_refl _, by simp, ⟨Nat.le_refl _, fun o ho => by simp⟩, (fun j x hx => by simp at hx), ?_, (fun x hx => by cases hx), ?_, rfl, fun U h => by cases h⟩, ?_⟩
        · intro j m c hc; simp [Ent.cell] at hc
        · intro sz xs _ h; cases h; rfl
        · have hps' : ps = #[] := by cases ps; simp_all
          simp [execOp, ho, Instr.buildSlice, underlying, hu, sizeOf, typeInfo, hie, hps', Instr.fill, newRow]
          exact congrArg (fun x => w.alloc (.cells x e)) (Array.eq_empty_of_size_eq_zero (by simp))
      · cases h
    · split at h
      · rename_i hb1 hb2
        have hb1 := Nat.le_of_ble_eq_true hb1
        have hb2 := Nat.le_of_ble_eq_true hb2
        replace h := anysK_out h
        obtain ⟨r, h, hrl, hr⟩ := partsK_out (n := n) (o := o) (pl := fun i => some (i * ie.size, ie.size)) (fun i K hK => by
          refine ⟨(i * te.size, e), hK, fun te' hte' => ?_⟩
          rw [hte] at hte'; cases hte'
          simp [hies]) hmem h
        rcases allDK_out h with ⟨l, rfl, h8⟩ | h8
        · have fin : ∀ ds, K (.os (16 * nm)) [(16 * nm, some (.buf te.size ds (some e)))] [] → ds.length = len → l.length = len * te.size → (∀ (j : Nat) (x : D), ds[j]? = some x → x.wd te.size) →
              (∀ (j i : Nat) (x c : D), ds[j]? = some x → x.cells[i]? = some c → l[j * te.size + i]? = some c) → ∃ out upd rd, K out upd rd ∧ VOp C n o nm st rd out upd := by
            intro ds hK h1 h2 h3 h4
            refine ⟨_, _, _, hK, VOp.make (kills := []) (fun _ hk => by cases hk) (.inl rfl) fun X0 F w0 p α S a w hs he _ => ?_⟩
            obtain ⟨vs', h5, h6, _⟩ := hr X0 F w0 p α S a w hs he (fun c hc => by rw [List.eq_of_mem_replicate hc]; exact .any)
              ((Array.range (len * ie.size)).map (z.cells[· % z.cells.size]!)) ⟨by simp [hies], fun j c v hc _ => by
                have := List.mem_of_getElem? hc
                rw [List.eq_of_mem_replicate this]; exact .any v⟩
            have hrun := run_buildSlice (P := C.P) w T e len (ps.map fun (i, x) => (i, a.eval x)) vs' ie z hu hie hz (by rw [hies]; omega) (by rw [hies]; omega) (by rw [Array.toList_map]; exact h5)
            refine ⟨w.alloc (.cells vs' e), .slice (some ⟨w.heap.size, 0, none⟩) len len, vs', e, (0, 0), len, ⟨rfl, rfl, rfl, rfl, by simp [Ent.len, h1], ?_, ⟨Nat.le_refl _, fun o ho => by simp⟩, h3, ?_, (fun x hx => by cases hx), ?_, rfl, fun U h => by cases h; exact ⟨rfl, fun cs V h => by cases h⟩⟩, ?_⟩
            · have := h6.1; simp only [Ent.sz]; simp at this; omega
            · intro j m c hc
              simp only [Ent.cell, Option.bind_eq_some_iff, Option.map_eq_some_iff] at hc
              obtain ⟨x, hx, y, hy, rfl⟩ := hc
              have h7 := h4 j m x y hx hy
              have hlt : j * te.size + m < vs'.size := by
                have := (List.getElem?_eq_some_iff.1 h7).1
                have := h6.1; simp at this; omega
              exact ⟨vs'[j * te.size + m], by simp [Ent.sz, hlt], h6.2 (j * te.size + m) (.d y) _ (by simp [h7]) (by simp [hlt])⟩
            · intro sz xs _ h; cases h; rw [h1]
            · simp only [execOp, ho, Sem.run_bind, hrun, Result.andThen_ok]; rfl
          split at h8
          · rename_i hall
            obtain ⟨ds, hK, h1, h2, h3, h4⟩ := chunkK_out (List.all_eq_true.1 hall) (fun hf => by cases hf) h8
            exact fin ds hK h1 h2 h3 h4
          · rename_i hall
            split at h8
            · rename_i hb
              obtain ⟨ds, hK, h1, h2, h3, h4⟩ := chunkK_out (List.all_eq_true.1 hall) (fun _ => Nat.eq_of_beq_eq_true hb) h8
              exact fin ds hK h1 h2 h3 h4
            · cases h8
          · cases h8
        · cases h8
      · cases h
  · cases h

end
end Go.Eng

/-
  Strings and bytes, append, stores: their reckoning, and that it speaks true.
-/
namespace Go.Eng
open Go.Lib (bytesCells bytesWorld bytesWorld_at_old bytesWorld_at_new bytesWorld_size run_convert_string_bytes)

def encB (l : List UInt8) : List D := l.map fun c => .i .u8 (c.toNat : Int)

/-- A list of data is the bytes of a text. -/
structure BytesK (ds : List D) (K : List UInt8 → Prop) : Prop where
  out : ∃ l, ds = encB l ∧ K l
theorem bytes_is {ds : List D} {K : List UInt8 → Prop} (l : List UInt8) (h : ds = encB l) (h1 : K l) : BytesK ds K := ⟨l, h, h1⟩
theorem bytes_enc {l : List UInt8} {K : List UInt8 → Prop} (h1 : K l) : BytesK (encB l) K := ⟨l, rfl, h1⟩

def u8K (C : Ctx) (T : TypeId) (K : Prop) : Prop :=
  lookK C.tab T fun ti => match ti.kd with | .slice e => lookK C.tab e fun te => (match te.kd, te.size with | .int .u8, 1 => K | _, _ => False) | _ => False

theorem u8K_out {C : Ctx} {T : TypeId} {K : Prop} (h : u8K C T K) : K ∧ ∃ e te, look C.tab e = some te ∧ te.size = 1 ∧ C.P.underlying T = some (.slice e) ∧ C.P.underlying e = some (.int .u8) := by
  unfold u8K at h
  replace h := lookK_out h; obtain ⟨ti, hti, h⟩ := h
  split at h
  · rename_i e hk
    replace h := lookK_out h; obtain ⟨te, hte, h⟩ := h
    split at h
    · rename_i hk2 hsz
      exact ⟨h, e, te, hte, hsz, und_slice (C.ty hti) hk, und_int (C.ty hte) hk2⟩
    · cases h
  · cases h

section
variable {C : Ctx} {n : Nat} {o : Oper} {nm : Nat} {st : AS} {K : KO}

def s2bK (C : Ctx) (nm : Nat) (S T : TypeId) (a : AV) (K : KO) : Prop :=
  match a with
  | .d (.s l) => lookK C.tab S fun _ => u8K C T (K (.os (16 * nm)) [(16 * nm, some (.buf 1 (encB l)))] [])
  | _ => False

theorem encB_get {l : List UInt8} {j : Nat} {d : D} (h : (encB l)[j]? = some d) : ∃ c, l[j]? = some c ∧ d = .i .u8 (c.toNat : Int) := by
  simp only [encB, List.getElem?_map, Option.map_eq_some_iff] at h
  obtain ⟨c, h1, h2⟩ := h
  exact ⟨c, h1, h2.symm⟩

theorem bytesWorld_push (w : World) (e : TypeId) (s : ByteArray) : (bytesWorld w e s).heap = w.heap.push (.cells (bytesCells w e s) e ((bytesCells w e s).size, (bytesCells w e s).size + 1)) := by
  apply Array.ext_getElem?
  intro i
  rcases Nat.lt_trichotomy i w.heap.size with h | h | h
  · rw [bytesWorld_at_old w e s i h, Array.getElem?_push_lt h]; simp [h]
  · subst h; rw [bytesWorld_at_new]; simp
  · rw [Array.getElem?_eq_none (by rw [bytesWorld_size]; omega), Array.getElem?_eq_none (by simp; omega)]

theorem s2b_out {S T : TypeId} {x : Operand} (ho : o.op = .convert S T x) (h : evK st x fun a => s2bK C nm S T a K) : ∃ out upd rd, K out upd rd ∧ VOp C n o nm st rd out upd := by
  replace h := evK_out h; obtain ⟨va, h1, h⟩ := h
  have hmem : x ∈ o.op.operands := by rw [ho]; simp [Op.operands]
  unfold s2bK at h
  split at h
  · rename_i l
    replace h := lookK_out h; obtain ⟨tS, htS, h⟩ := h
    replace h := u8K_out h; obtain ⟨h, e, te, hte, hsz, hu, hue⟩ := h
    obtain ⟨_, uS, huS, _⟩ := C.ty htS
    refine ⟨_, _, _, h, VOp.make (kills := []) (fun _ hk => by cases hk) (.inl rfl) fun X0 F w0 p α S' a w hs he _ => ?_⟩
    have hx := ((h1.to hmem he).read hs).dinv.sinv
    have hrun := run_convert_string_bytes (P := C.P) w S T e ⟨l.toArray⟩ huS hu hue
    have hcap : l.length ≤ grownCap w (ByteArray.mk l.toArray).size 0 e := by
      rw [size_mk]; simp [grownCap, Question.cut]
    have hcsz : (bytesCells w e ⟨l.toArray⟩).size = grownCap w (ByteArray.mk l.toArray).size 0 e := by
      simp only [bytesCells, Array.size_append, Array.size_map, Array.size_replicate, List.size_toArray]
      rw [size_mk] at hcap ⊢; omega
    refine ⟨bytesWorld w e ⟨l.toArray⟩, .slice (some ⟨w.heap.size, 0, none⟩) (ByteArray.mk l.toArray).size (grownCap w (ByteArray.mk l.toArray).size 0 e), _, e, _, grownCap w (ByteArray.mk l.toArray).size 0 e,
      ⟨bytesWorld_push w e _, rfl, rfl, rfl, by simpa [Ent.len, encB] using hcap, by simp only [Ent.sz]; omega, ⟨Nat.le_succ _, fun o ho => by simp only [Ent.sz] at ho; omega⟩, ?_, ?_, (fun x hx => by cases hx), ?_, rfl, fun U h => by cases h⟩, ?_⟩
    · intro j d hd
      obtain ⟨c, _, rfl⟩ := encB_get hd
      exact ⟨rfl, fun c hc => by simp [D.cells] at hc; subst hc; rfl⟩
    · intro j m c hc
      simp only [Ent.cell, Option.bind_eq_some_iff, Option.map_eq_some_iff] at hc
      obtain ⟨d, hd, y, hy, rfl⟩ := hc
      obtain ⟨c, hc, rfl⟩ := encB_get hd
      cases m with
      | zero =>
        simp [D.cells] at hy; subst hy
        refine ⟨.int .u8 (c.toNat : Int), ?_, .d _ _ (.i _ _)⟩
        have hlt : j < l.length := (List.getElem?_eq_some_iff.1 hc).1
        simp only [Ent.sz, bytesCells, Nat.mul_one, Nat.add_zero]
        rw [Array.getElem?_append_left (by simpa using hlt)]
        simp [hc]
      | succ m => simp [D.cells] at hy
    · intro sz xs _ h; cases h; simp [size_mk, encB]
    · simp only [execOp, ho, Sem.run_bind, hx, hrun, Result.andThen_ok]; rfl
  · cases h

/-- What a row of bytes reads as, in memory. -/
theorem bytes_cells {w : World} {X : Nat → Prop} {l : List UInt8} {v : Value} (h : Rd w X (.sl 1 (encB l)) v) :
    (l = [] ∧ ∃ a c, v = .slice a 0 c) ∨ ∃ b off cap, v = .slice (some ⟨b, off, none⟩) l.length cap ∧ ∀ i, i < l.length → w.cell? ⟨b, off + i, none⟩ = some (.int .u8 ((l.map fun c => (c.toNat : Int)).getD i 0)) := by
  generalize hx : encB l = xs at h
  cases h with
  | slnil =>
    left
    refine ⟨?_, none, 0, rfl⟩
    cases l with
    | nil => rfl
    | cons => simp [encB] at hx
  | sle _ a cap =>
    left
    refine ⟨?_, some a, cap, rfl⟩
    cases l with
    | nil => rfl
    | cons => simp [encB] at hx
  | sl _ _ blk off m cap arr T fz f hh hX hl hc hw h1 h2 =>
    right
    subst hx
    refine ⟨blk, off, cap, by rw [← hl]; simp [encB], fun i hi => ?_⟩
    have hg : (encB l)[i]? = some (.i .u8 (l[i].toNat : Int)) := by simp [encB, hi]
    have h3 := h1 i 0 _ (.i .u8 (l[i].toNat : Int)) hg rfl
    have h4 := (h2 i 0 _ (.i .u8 (l[i].toNat : Int)) hg rfl).iinv
    rw [cell_of hh]
    simp only [Nat.mul_one, Nat.add_zero] at h3
    rw [h3, h4]
    simp [List.getD_eq_getElem?_getD, hi]

def b2sK (C : Ctx) (st : AS) (S T : TypeId) (a : AV) (K : KO) : Prop :=
  lookK C.tab T fun ti => match ti.kd with
    | .str => u8K C S (match a with
      | .d (.sl 1 ds) => BytesK ds fun l => K (.d (.s l)) [] []
      | .os k => ownK st k fun e => match e with | .buf 1 ds _ => BytesK ds fun l => K (.d (.s l)) [] [k] | _ => False
      | .nl _ => K (.d (.s [])) [] []
      | _ => False)
    | _ => False

theorem strOf_bytes (l : List UInt8) : strOfNums (l.map fun c => (c.toNat : Int)) = ⟨l.toArray⟩ := by
  apply ByteArray.ext
  apply Array.ext'
  rw [strOfNums_data]
  simp only [List.map_map]
  conv => rhs; rw [← List.map_id l]
  apply List.map_congr_left
  intro c _
  simp [UInt8.ofNat_toNat]

theorem b2s_out {S T : TypeId} {x : Operand} (ho : o.op = .convert S T x) (h : evK st x fun a => b2sK C st S T a K) : ∃ out upd rd, K out upd rd ∧ VOp C n o nm st rd out upd := by
  replace h := evK_out h; obtain ⟨va, h1, h⟩ := h
  have hmem : x ∈ o.op.operands := by rw [ho]; simp [Op.operands]
  unfold b2sK at h
  replace h := lookK_out h; obtain ⟨ti, hti, h⟩ := h
  split at h
  · rename_i hk
    have huT := und_str (C.ty hti) hk
    replace h := u8K_out h; obtain ⟨h, e, te, hte, hsz, hu, hue⟩ := h
    have run : ∀ (w : World) (X : Nat → Prop) (l : List UInt8) (v : Value), Rd w X (.sl 1 (encB l)) v → (convert S T v).run C.P w = .ok (.string ⟨l.toArray⟩) w := by
      intro w X l v hr
      rcases bytes_cells hr with ⟨rfl, a, c, rfl⟩ | ⟨b, off, cap, rfl, hc⟩
      · cases a with
        | none => rw [run_convert_bytes_nil (P := C.P) w S e hu hue 0 c T huT]; rfl
        | some a =>
          have := run_convert_bytes_string (P := C.P) w S T e (some a) 0 c hu hue huT
          rw [this]
          exact rfl
      · rw [run_convert_bytes_arg (P := C.P) w S e hu hue b off l.length cap (l.map fun c => (c.toNat : Int)) (by simp) hc T huT, strOf_bytes]
    split at h
    · rename_i ds
      obtain ⟨l, rfl, h⟩ := h
      refine ⟨_, _, _, h, VOp.pure fun X0 F w0 p α S' a w hs he _ => ?_⟩
      exact ⟨_, by simp only [execOp, ho, Sem.run_bind, run w _ l _ ((h1.to hmem he).read hs).dinv, Result.andThen_ok]; rfl, .d _ _ (.s _), .d _⟩
    · rename_i k
      replace h := ownK_out h; obtain ⟨en, hen, h⟩ := h
      split at h
      · obtain ⟨l, rfl, h⟩ := h
        refine ⟨_, _, _, h, VOp.pure fun X0 F w0 p α S' a w hs he ho' => ?_⟩
        have hr := (h1.to hmem he).read hs
        generalize hv : a.eval x = v at hr
        cases hr
        have := own_read (X' := fun _ => False) (hs.own k _ (ho' k (by simp) _ hen)) (fun _ h => h.elim) (fun _ h => h)
        exact ⟨_, by simp only [execOp, ho, Sem.run_bind, hv, run w _ l _ this, Result.andThen_ok]; rfl, .d _ _ (.s _), .d _⟩
      · cases h
    · refine ⟨_, _, _, h, VOp.pure fun X0 F w0 p α S' a w hs he ho' => ?_⟩
      have hr := (h1.to hmem he).read hs
      generalize hv : a.eval x = v at hr
      cases hr
      exact ⟨_, by simp only [execOp, ho, Sem.run_bind, hv, run w (fun _ => False) [] _ (.slnil 1), Result.andThen_ok]; rfl, .d _ _ (.s _), .d _⟩
    · cases h
  · cases h

end
end Go.Eng

/-
  Stores and appends: their reckoning, and that it speaks true.
-/
namespace Go.Eng

/-- A row of stores in one block of cells. -/
theorem heap_setCells (b : Nat) : ∀ (vs : List Value) (o : Nat) (w : World) (arr : Array Value) (T : TypeId) (fz : Nat × Nat), w.heap[b]? = some (.cells arr T fz) →
    ∃ arr', (w.setCells b o vs).heap[b]? = some (.cells arr' T fz) ∧ arr'.size = arr.size ∧ (∀ i, i ≠ b → (w.setCells b o vs).heap[i]? = w.heap[i]?) ∧ (w.setCells b o vs).heap.size = w.heap.size ∧
      (w.setCells b o vs).os = w.os ∧ (w.setCells b o vs).tape = w.tape ∧ (w.setCells b o vs).output = w.output ∧
      ∀ j, arr'[j]? = if o ≤ j ∧ j < o + vs.length ∧ j < arr.size then vs[j - o]? else arr[j]? := by
  intro vs
  induction vs with
  | nil =>
    intro o w arr T fz h
    exact ⟨arr, h, rfl, (fun _ _ => rfl), rfl, rfl, rfl, rfl, fun j => by rw [if_neg]; simp; omega⟩
  | cons v r ih =>
    intro o w arr T fz h
    have h1 : (w.setCell ⟨b, o, none⟩ v).heap[b]? = some (.cells (arr.setIfInBounds o v) T fz) := by
      have hlt : b < w.heap.size := (Array.getElem?_eq_some_iff.1 h).1
      have hg := (Array.getElem?_eq_some_iff.1 h).2
      simp only [World.setCell]
      rw [Array.getElem?_modify, if_pos rfl, h]
      rfl
    obtain ⟨arr', h2, h3, h4, h5, h6, h7, h8, h9⟩ := ih (o + 1) _ _ T fz h1
    refine ⟨arr', h2, by simpa using h3, fun i hi => ?_, h5.trans (by simp [World.setCell]), h6, h7, h8, fun j => ?_⟩
    · rw [World.setCells, h4 i hi]
      simp [World.setCell, Array.getElem?_modify, Ne.symm hi]
    · rw [h9 j]
      simp only [Array.size_setIfInBounds, List.length_cons]
      by_cases hj : j = o
      · subst hj
        rw [if_neg (by omega)]
        by_cases hs : j < arr.size
        · rw [if_pos (by omega)]; simp [hs]
        · rw [if_neg (by omega)]; simp [hs]
      · by_cases hj2 : o + 1 ≤ j ∧ j < o + 1 + r.length ∧ j < arr.size
        · rw [if_pos hj2, if_pos (by omega), show j - o = (j - (o + 1)) + 1 by omega]; simp
        · rw [if_neg hj2, if_neg (by omega), Array.getElem?_setIfInBounds_ne (fun e => hj e.symm)]

theorem nf_frozen {w : World} {b : Nat} {arr : Array Value} {T : TypeId} {fz : Nat × Nat} (h : w.heap[b]? = some (.cells arr T fz)) {o : Nat} (hn : ¬ (fz.1 ≤ o ∧ o < fz.2)) : w.frozen? ⟨b, o, none⟩ = false := by
  obtain ⟨lo, hi⟩ := fz
  simp only [World.frozen?, h]
  simp only at hn
  by_cases h1 : lo ≤ o
  · by_cases h2 : o < hi
    · exact absurd ⟨h1, h2⟩ hn
    · simp [h2]
  · simp [h1]

section
variable {C : Ctx} {n : Nat} {o : Oper} {nm : Nat} {st : AS} {K : KO}

/-! #### Stores -/

structure SetK {β : Type} (xs : List β) (i : Nat) (K : β → Prop) : Prop where
  out : ∃ x, xs[i]? = some x ∧ K x
theorem set_is {β : Type} {xs : List β} {i : Nat} {K : β → Prop} {x : β} (h : xs[i]? = some x) (h1 : K x) : SetK xs i K := ⟨x, h, h1⟩

/-- The element x with the value d at cell j. -/
def putK (sz : Nat) (ti : TyI) (x : D) (j : Nat) (d : D) (K : D → Prop) : Prop :=
  match j, Nat.beq ti.size sz with
  | 0, true => match Nat.beq d.cells.length sz, d.cells.all D.one with | true, true => K d | _, _ => False
  | j, _ => mapdK x.cells fun xs => mapdK d.cells fun ds => match Nat.beq ds.length ti.size, d.cells.all D.one with
    | true, true => setK xs j ds fun r => allDK r (fun r => match r.all D.one with | true => K (.agg r) | false => False) False
    | _, _ => False

/-- An array written as a whole. -/
structure PutWK (ds : List D) (n sz m : Nat) (K : List D → Prop) : Prop where
  out : ∃ ys, ys.flatMap D.cells = ds ∧ ds.length = n ∧ ys.length = m ∧ (∀ y, y ∈ ys → y.wd sz) ∧ K ys
theorem putw_i {k : IntKind} {l : List Int} {n m : Nat} {K : List D → Prop} (hl : l.length = n) (hm : l.length = m) (h1 : K (l.map (.i k))) : PutWK (l.map (.i k)) n 1 m K :=
  ⟨_, flat_ints l, by simpa using hl, by simpa using hm, fun y hy => by obtain ⟨z, _, rfl⟩ := List.mem_map.1 hy; exact ⟨rfl, fun c hc => by simp [D.cells] at hc; subst hc; rfl⟩, h1⟩

def storeK (C : Ctx) (st : AS) (T : TypeId) (p v : AV) (K : KO) : Prop :=
  lookK C.tab T fun ti => match p with
    | .op k i j => ownK st k fun en => match en with
      | .box cs T0 => match i with
        | 0 => cellsK v fun new => match Nat.beq new.length ti.size with
          | true => setK cs j new fun r => K .any [(k, some (.box r T0))] [k]
          | false => False
        | _ => False
      | .buf sz xs T0 => toDK st v fun d us => match us with
        | [] => SetK xs i fun x => putK sz ti x j d fun y => K .any [(k, some (.buf sz (xs.set i y) T0))] [k]
        | _ => False
      | .arr sz xs => match ti.kd with
        | .array _ _ => match i, j with
          | 0, 0 => toDK st v fun d us => match us, d with
            | [], .agg ds => PutWK ds ti.size sz xs.length fun ys => K .any [(k, some (.arr sz ys))] [k]
            | _, _ => False
          | _, _ => False
        | _ => toDK st v fun d us => match us with
          | [] => SetK xs i fun x => putK sz ti x j d fun y => K .any [(k, some (.arr sz (xs.set i y)))] [k]
          | _ => False
      | _ => False
    | _ => False

theorem run_storeVar {P : Program} {T : TypeId} {ti : TyI} (ht : TyOk P T ti) {w : World} {b o : Nat} {arr : Array Value} {U : TypeId} {fz : Nat × Nat} {v : Value}
    (hh : w.heap[b]? = some (.cells arr U fz)) (hsz : v.cells.size = ti.size) (hb : o + ti.size ≤ arr.size) (hn : ∀ j, j < ti.size → ¬ (fz.1 ≤ o + j ∧ o + j < fz.2)) (h1 : ∀ u, u ∈ v.cells → u.oneCell' = true) :
    (storeVar T ⟨b, o, none⟩ v).run P w = .ok () (w.setCells b o v.cells.toList) := by
  have := run_storeCells_cells (P := P) b o v.cells.toList 0 w (fun j hj => by
    rw [cell_of hh]
    have : o + j < arr.size := by simp at hj; omega
    simp [this]) (fun j hj => by
    have := hn j (by simp at hj; omega)
    exact nf_frozen hh (by simpa using this)) (fun u hu => h1 u (by simpa using hu))
  simp only [Nat.add_zero] at this
  simp only [storeVar, Sem.run_bind, run_size ht, Result.andThen_ok, hsz, ne_eq, not_true, if_false]
  exact this

/-- What a store of the cells new at place (i, j) of a row of cells of width sz makes of it. -/
theorem wrote_of {w : World} {α : Nat → Loc} {X : Nat → Prop} {p : Nat → Prop} {k : Nat} {e0 e : Ent} {arr : Array Value} {U : TypeId} {fz : Nat × Nat} {cap : Nat} (hB : OwnB w α X (α k) e0 arr U fz cap)
    {i j : Nat} {new : List Value} (hsz : e.sz = e0.sz) (hlen : e.len = e0.len) (hb : i * e0.sz + j + new.length ≤ cap * e0.sz) (hw : e.wide) (hv : ∀ x, x ∈ e.vars → x.ok p)
    (hkind : ∀ sz xs T, e = .buf sz xs T → ∃ xs0 T0, e0 = .buf sz xs0 T0) (hty : ∀ U, e.ty = some U → e0.ty = some U) (hbox : ∀ cs V, e = .box cs V → ∃ cs0 V0, e0 = .box cs0 V0)
    (hcell : ∀ a m c, e.cell a m = some c → m < e0.sz) (hcell0 : ∀ a m c, e.cell a m = some c → a < e0.len)
    (hnew : ∀ a m c, e.cell a m = some c → (i * e0.sz + j ≤ a * e0.sz + m ∧ a * e0.sz + m < i * e0.sz + j + new.length) → ∃ u, new[a * e0.sz + m - (i * e0.sz + j)]? = some u ∧ RdA w α X c u)
    (hold : ∀ a m c, e.cell a m = some c → ¬ (i * e0.sz + j ≤ a * e0.sz + m ∧ a * e0.sz + m < i * e0.sz + j + new.length) → e0.cell a m = some c) :
    ∃ arr', Wrote w (w.setCells (α k).blk ((α k).off + i * (α k).sz + j) new) α X p (α k) e (α k).hv arr' U fz cap := by
  obtain ⟨arr', h1, h2, h3, h4, h5, h6, h7, h8⟩ := heap_setCells (α k).blk new ((α k).off + i * (α k).sz + j) w arr U fz hB.heap
  have hz := hB.hsz
  refine ⟨arr', h1, h3, h4, h5, h6, h7, by rw [hsz]; exact hz, by rw [hlen]; exact hB.len, by rw [hsz, h2]; exact hB.bnd, by rw [hsz]; exact hB.nf, hw, fun a m c hc => ?_, hv, fun sz xs T he => ?_, hB.hone, fun V h => ⟨(hB.ty V (hty V h)).1, (hB.ty V (hty V h)).2.1, fun cs V' he => ?_⟩⟩
  · rw [hsz, h8, hz]
    have hm := hcell a m c hc
    have ha := hcell0 a m c hc
    have hq : a * e0.sz + m < cap * e0.sz := by
      have h9 : (a + 1) * e0.sz ≤ cap * e0.sz := Nat.mul_le_mul_right _ (Nat.le_trans ha hB.len)
      rw [Nat.add_mul] at h9; omega
    have hbd := hB.bnd
    by_cases hin : i * e0.sz + j ≤ a * e0.sz + m ∧ a * e0.sz + m < i * e0.sz + j + new.length
    · rw [if_pos (by omega)]
      obtain ⟨u, h9, h10⟩ := hnew a m c hc hin
      refine ⟨u, ?_, h10⟩
      rw [← h9]; congr 1; omega
    · rw [if_neg (by omega)]
      exact hB.rd a m c (hold a m c hc hin)
  · obtain ⟨xs0, T0, rfl⟩ := hkind sz xs T he
    subst he
    have := hB.hv sz xs0 _ rfl
    simp only [Ent.len] at hlen
    rw [this, hlen]
  · obtain ⟨cs0, V0, rfl⟩ := hbox cs V' he
    subst he
    have := (hB.ty V (hty V h)).2.2 cs0 V0 rfl
    rw [h2, this]
    exact hsz.symm


theorem store_run {T : TypeId} {p v : Operand} (ho : o.op = .store T p v) {a : Act} {w w' : World} {b : Addr} (hp : a.eval p = .pointer (some b)) (h : (storeVar T b (a.eval v)).run C.P w = .ok () w')
    {next : Act → World → Prop} {Q : Exit → Act → World → Prop} (hn : next (a.put o.dst undef) w') : o.wp C.P a w next Q :=
  wp_skip' (by simp [execOp, ho, hp, Instr.storeAt, Instr.sureAddr, h]) hn

theorem allD_one {l : List D} (h : l.all D.one = true) : ∀ d, d ∈ l → d.one = true := List.all_eq_true.1 h

theorem optd_inj {a b : Option D} (h : a.map AV.d = b.map AV.d) : a = b := by
  cases a <;> cases b <;> simp at h
  · rfl
  · rw [h]

/-- The new element: what was put, or what was there. -/
theorem putK_out {sz : Nat} {ti : TyI} {x : D} {j : Nat} {d : D} {K : D → Prop} (h : putK sz ti x j d K) :
    ∃ y, K y ∧ (x.wd sz → y.wd sz ∧ j + ti.size ≤ sz ∧ d.cells.length = ti.size ∧ (∀ c, c ∈ d.cells → c.one = true) ∧ ∀ m, y.cells[m]? = if j ≤ m ∧ m < j + ti.size then d.cells[m - j]? else x.cells[m]?) := by
  unfold putK at h
  split at h
  · rename_i hb
    have hb := Nat.eq_of_beq_eq_true hb
    split at h
    · rename_i hl hall
      have hl := Nat.eq_of_beq_eq_true hl
      refine ⟨d, h, fun hx => ⟨⟨hl, allD_one hall⟩, by omega, by omega, allD_one hall, fun m => ?_⟩⟩
      by_cases hm : m < ti.size
      · rw [if_pos (by omega)]; rfl
      · rw [if_neg (by omega), List.getElem?_eq_none (by omega), List.getElem?_eq_none (by rw [hx.1]; omega)]
    · cases h
  · replace h := mapdK_out h
    replace h := mapdK_out h
    split at h
    · rename_i hl hall
      have hl := Nat.eq_of_beq_eq_true hl
      obtain ⟨r, h, h1, h2, h3⟩ := setK_out h
      rcases allDK_out h with ⟨r', rfl, h9⟩ | h9
      · split at h9
        · rename_i hr
          simp only [List.length_map] at hl h1 h2
          refine ⟨.agg r', h9, fun hx => ⟨⟨h1.trans hx.1, allD_one hr⟩, by rw [← hx.1]; omega, hl, allD_one hall, fun m => ?_⟩⟩
          have h4 := h3 m
          show r'[m]? = _
          rw [List.length_map, hl] at h4
          simp only [List.getElem?_map] at h4
          split at h4
          · rename_i hin
            rw [if_pos hin]; exact optd_inj h4
          · rename_i hin
            rw [if_neg hin]; exact optd_inj h4
        · cases h9
      · cases h9
    · cases h

theorem d_cells {w : World} {X : Nat → Prop} {d : D} {v : Value} (h : Rd w X d v) (hone : ∀ c, c ∈ d.cells → c.one = true) :
    v.cells.size = d.cells.length ∧ (∀ (j : Nat) (c : D), d.cells[j]? = some c → ∃ u, v.cells[j]? = some u ∧ Rd w X c u) ∧ ∀ u, u ∈ v.cells → u.oneCell' = true := by
  cases h with
  | agg cs vs hl hc =>
    refine ⟨hl.symm, fun j c hj => ?_, fun u hu => ?_⟩
    · have hlt : j < vs.size := by rw [← hl]; exact (List.getElem?_eq_some_iff.1 hj).1
      exact ⟨vs[j], by simp [Value.cells, hlt], hc j c _ hj (by simp [hlt])⟩
    · obtain ⟨j, hj, rfl⟩ := Array.mem_iff_getElem.1 hu
      have hj' : j < cs.length := by rw [hl]; exact hj
      exact (hc j cs[j] _ (by simp [hj']) (by simp [Value.cells])).one (hone _ (by simp [D.cells]))
  | x v =>
    have := hone (.x v) (by simp [D.cells])
    rw [cells_one (this : v.oneCell' = true)]
    refine ⟨rfl, fun j c hj => ?_, fun u hu => by simp at hu; subst hu; exact this⟩
    cases j with
    | zero => simp [D.cells] at hj; subst hj; exact ⟨v, rfl, .x v⟩
    | succ j => simp [D.cells] at hj
  | b t =>
    refine ⟨rfl, fun j c hj => ?_, fun u hu => by simp [Value.cells] at hu; subst hu; rfl⟩
    cases j with
    | zero => simp [D.cells] at hj; subst hj; exact ⟨_, rfl, .b t⟩
    | succ j => simp [D.cells] at hj
  | i k m =>
    refine ⟨rfl, fun j c hj => ?_, fun u hu => by simp [Value.cells] at hu; subst hu; rfl⟩
    cases j with
    | zero => simp [D.cells] at hj; subst hj; exact ⟨_, rfl, .i k m⟩
    | succ j => simp [D.cells] at hj
  | s l =>
    refine ⟨rfl, fun j c hj => ?_, fun u hu => by simp [Value.cells] at hu; subst hu; rfl⟩
    cases j with
    | zero => simp [D.cells] at hj; subst hj; exact ⟨_, rfl, .s l⟩
    | succ j => simp [D.cells] at hj
  | slnil sz =>
    refine ⟨rfl, fun j c hj => ?_, fun u hu => by simp [Value.cells] at hu; subst hu; rfl⟩
    cases j with
    | zero => simp [D.cells] at hj; subst hj; exact ⟨_, rfl, .slnil sz⟩
    | succ j => simp [D.cells] at hj
  | sle sz a cap =>
    refine ⟨rfl, fun j c hj => ?_, fun u hu => by simp [Value.cells] at hu; subst hu; rfl⟩
    cases j with
    | zero => simp [D.cells] at hj; subst hj; exact ⟨_, rfl, .sle sz a cap⟩
    | succ j => simp [D.cells] at hj
  | sl sz xs blk off m cap arr T fz f h1 h2 h3 h4 h5 h6 h7 =>
    refine ⟨rfl, fun j c hj => ?_, fun u hu => by simp [Value.cells] at hu; subst hu; rfl⟩
    cases j with
    | zero => simp [D.cells] at hj; subst hj; exact ⟨_, rfl, .sl sz xs blk off m cap arr T fz f h1 h2 h3 h4 h5 h6 h7⟩
    | succ j => simp [D.cells] at hj


theorem set_get {xs : List D} {i a : Nat} {x y : D} (h : (xs.set i y)[a]? = some x) : (a = i ∧ x = y) ∨ (a ≠ i ∧ xs[a]? = some x) := by
  by_cases hia : i = a
  · subst hia
    have hl := (List.getElem?_eq_some_iff.1 h).1
    have h2 : i < xs.length := by simpa using hl
    rw [List.getElem?_set_self h2] at h
    exact .inl ⟨rfl, by cases h; rfl⟩
  · rw [List.getElem?_set_ne hia] at h
    exact .inr ⟨fun e => hia e.symm, h⟩

/-- A store into an element of a row. -/
theorem store_elem {T : TypeId} {p v : Operand} (ho : o.op = .store T p v) {ti : TyI} (hti : look C.tab T = some ti) {k i j sz : Nat} {xs : List D} {x y d : D} {va : AV} {us : List Nat} (e0 e : Ent)
    {T0 : Option TypeId} (he0 : e0 = .buf sz xs T0 ∧ e = .buf sz (xs.set i y) T0 ∨ e0 = .arr sz xs ∧ e = .arr sz (xs.set i y)) (hus : us = []) (h1 : Ev st.ss.env p (.op k i j)) (h2 : Ev st.ss.env v va) (hen : st.ss.own k = some e0)
    (htd : ToD st va d us) (hx : xs[i]? = some x) (hy : x.wd sz → y.wd sz ∧ j + ti.size ≤ sz ∧ d.cells.length = ti.size ∧ (∀ c, c ∈ d.cells → c.one = true) ∧ ∀ m, y.cells[m]? = if j ≤ m ∧ m < j + ti.size then d.cells[m - j]? else x.cells[m]?) :
    VOp C n o nm st [k] .any [(k, some e)] := by
  subst hus
  have hm1 : p ∈ o.op.operands := by rw [ho]; simp [Op.operands]
  have hm2 : v ∈ o.op.operands := by rw [ho]; simp [Op.operands]
  have hcell0 : e0.cell = fun i j => (xs[i]?).bind fun x => (x.cells[j]?).map .d := by rcases he0 with ⟨rfl, _⟩ | ⟨rfl, _⟩ <;> rfl
  have hcell : e.cell = fun a j => ((xs.set i y)[a]?).bind fun x => (x.cells[j]?).map .d := by rcases he0 with ⟨_, rfl⟩ | ⟨_, rfl⟩ <;> rfl
  have hsz0 : e0.sz = sz := by rcases he0 with ⟨rfl, _⟩ | ⟨rfl, _⟩ <;> rfl
  have hsz : e.sz = sz := by rcases he0 with ⟨_, rfl⟩ | ⟨_, rfl⟩ <;> rfl
  have hlen0 : e0.len = xs.length := by rcases he0 with ⟨rfl, _⟩ | ⟨rfl, _⟩ <;> rfl
  have hlen : e.len = xs.length := by rcases he0 with ⟨_, rfl⟩ | ⟨_, rfl⟩ <;> simp [Ent.len]
  have hwide0 : e0.wide → ∀ (j : Nat) (x : D), xs[j]? = some x → x.wd sz := by rcases he0 with ⟨rfl, _⟩ | ⟨rfl, _⟩ <;> exact fun h => h
  have hwide : (∀ (j : Nat) (x : D), (xs.set i y)[j]? = some x → x.wd sz) → e.wide := by rcases he0 with ⟨_, rfl⟩ | ⟨_, rfl⟩ <;> exact fun h => h
  have hnilE : ∀ {w : World} {α : Nat → Loc} {X : Nat → Prop}, Own w α X k e0 → (α k).nil = false ∧ ∃ arr U fz cap, OwnB w α X (α k) e0 arr U fz cap := by
    intro w α X h
    rcases he0 with ⟨rfl, _⟩ | ⟨rfl, _⟩
    · rcases h with ⟨_, ⟨sz', _, he⟩, _⟩ | h
      · cases he; simp at hx
      · exact h
    · rcases h with ⟨_, ⟨sz', _, he⟩, _⟩ | h
      · cases he
      · exact h
  refine VOp.write (e0 := e0) (e := e) (k := k) true (by simp) hen (.inl rfl) fun X0 F w0 q α S a w hs he ho' => ?_
  have hSk := ho' k (by simp) _ hen
  obtain ⟨hnil, arr, U, fz, cap, hB⟩ := hnilE (hs.own k _ hSk)
  refine ⟨hnil, ?_⟩
  have hrp := (h1.to hm1 he).read hs
  generalize hp : a.eval p = pv at hrp
  cases hrp
  have hrv := htd.rd w α _ (XX α S.own X0) (a.eval v) ((h2.to hm2 he).read hs) (fun k hk => by cases hk) (fun _ h => h) (fun k hk => by cases hk)
  obtain ⟨hy1, hy2, hy3, hy4, hy5⟩ := hy (hwide0 hB.wid i x hx)
  obtain ⟨hv1, hv2, hv3⟩ := d_cells hrv hy4
  have hi : i < xs.length := (List.getElem?_eq_some_iff.1 hx).1
  have hzz := hB.hsz
  have hle : i * sz + sz ≤ cap * sz := by
    have := hB.len; rw [hlen0] at this
    have h9 : (i + 1) * sz ≤ cap * sz := Nat.mul_le_mul_right _ (by omega)
    rw [Nat.add_mul] at h9; omega
  have hbd := hB.bnd
  rw [hsz0] at hbd hzz
  have hsplit : ∀ (a b m : Nat), m < sz → j < sz ∨ True → (a = i → b = m → True) := fun _ _ _ _ _ _ _ => trivial
  have hrow : ∀ (a m : Nat), m < sz → (i * sz + j ≤ a * sz + m ∧ a * sz + m < i * sz + j + ti.size) → a = i ∧ j ≤ m ∧ m < j + ti.size ∧ a * sz + m - (i * sz + j) = m - j := by
    intro a m hm hin
    have : a = i := by
      rcases Nat.lt_trichotomy a i with h | h | h
      · exfalso
        have h9 : (a + 1) * sz ≤ i * sz := Nat.mul_le_mul_right _ h
        rw [Nat.add_mul] at h9; omega
      · exact h
      · exfalso
        have h9 : (i + 1) * sz ≤ a * sz := Nat.mul_le_mul_right _ h
        rw [Nat.add_mul] at h9; omega
    subst this
    omega
  have hvsz : (a.eval v).cells.toList.length = ti.size := by simp [hv1, hy3]
  obtain ⟨arr', hW⟩ := wrote_of (p := q) (i := i) (j := j) (new := (a.eval v).cells.toList) (e := e) hB (by rw [hsz, hsz0]) (by rw [hlen, hlen0]) (by rw [hsz0, hvsz]; omega)
    (hwide fun a' x' hx' => by
      rcases set_get hx' with ⟨_, rfl⟩ | ⟨_, hx'⟩
      · exact hy1
      · exact hwide0 hB.wid a' x' hx')
    (by rcases he0 with ⟨_, rfl⟩ | ⟨_, rfl⟩ <;> exact fun x hx => by cases hx)
    (fun sz' xs' T' h => by rcases he0 with ⟨rfl, rfl⟩ | ⟨_, rfl⟩ <;> cases h; exact ⟨_, _, rfl⟩)
    (fun U h => by rcases he0 with ⟨rfl, rfl⟩ | ⟨_, rfl⟩; exact h; cases h)
    (fun cs V h => by rcases he0 with ⟨_, rfl⟩ | ⟨_, rfl⟩ <;> cases h)
    (fun a' m c hc => by
      rw [hcell] at hc
      simp only [Option.bind_eq_some_iff, Option.map_eq_some_iff] at hc
      obtain ⟨x', hx', c', hc', _⟩ := hc
      have hw' : x'.wd sz := by
        rcases set_get hx' with ⟨_, rfl⟩ | ⟨_, hx'⟩
        · exact hy1
        · exact hwide0 hB.wid a' x' hx'
      rw [hsz0, ← hw'.1]; exact (List.getElem?_eq_some_iff.1 hc').1)
    (fun a' m c hc => by
      rw [hcell] at hc
      simp only [Option.bind_eq_some_iff] at hc
      obtain ⟨x', hx', _⟩ := hc
      have := (List.getElem?_eq_some_iff.1 hx').1
      rw [hlen0]; simpa using this)
    (fun a' m c hc hin => by
      rw [hsz0, hvsz] at hin
      rw [hcell] at hc
      simp only [Option.bind_eq_some_iff, Option.map_eq_some_iff] at hc
      obtain ⟨x', hx', c', hc', rfl⟩ := hc
      have hmsz : m < sz := by
        have hw' : x'.wd sz := by
          rcases set_get hx' with ⟨_, rfl⟩ | ⟨_, hx'⟩
          · exact hy1
          · exact hwide0 hB.wid a' x' hx'
        rw [← hw'.1]; exact (List.getElem?_eq_some_iff.1 hc').1
      obtain ⟨rfl, h4, h5, h6⟩ := hrow a' m hmsz hin
      rcases set_get hx' with ⟨_, rfl⟩ | ⟨hne, _⟩
      case inr => exact absurd rfl hne
      rw [hy5 m, if_pos ⟨h4, h5⟩] at hc'
      obtain ⟨u, h7, h8⟩ := hv2 _ _ hc'
      refine ⟨u, ?_, .d _ _ h8⟩
      rw [hsz0, h6, Array.getElem?_toList]; exact h7)
    (fun a' m c hc hin => by
      rw [hsz0, hvsz] at hin
      rw [hcell] at hc
      rw [hcell0]
      simp only [Option.bind_eq_some_iff, Option.map_eq_some_iff] at hc ⊢
      obtain ⟨x', hx', c', hc', rfl⟩ := hc
      rcases set_get hx' with ⟨rfl, rfl⟩ | ⟨_, hx'⟩
      · rw [hy5 m, if_neg (by omega)] at hc'
        exact ⟨x, hx, c', hc', rfl⟩
      · exact ⟨x', hx', c', hc', rfl⟩)
  refine ⟨_, _, arr', U, fz, cap, hW, fun _ => rfl, fun next Q hn => ?_⟩
  refine store_run ho hp (run_storeVar (C.ty hti) hB.heap (by rw [hv1, hy3]) (by rw [hzz]; omega) (fun m hm => hB.nf.2 _ (by omega) (by rw [hsz0, hzz]; omega)) hv3) (hn _ (.inl rfl))

theorem store_whole {T : TypeId} {p v : Operand} (ho : o.op = .store T p v) {ti : TyI} (hti : look C.tab T = some ti) {k sz : Nat} {xs ys ds : List D} {va : AV}
    (h1 : Ev st.ss.env p (.op k 0 0)) (h2 : Ev st.ss.env v va) (hen : st.ss.own k = some (.arr sz xs)) (htd : ToD st va (.agg ds) [])
    (hfl : ys.flatMap D.cells = ds) (hln : ds.length = ti.size) (hyl : ys.length = xs.length) (hyw : ∀ y, y ∈ ys → y.wd sz) : VOp C n o nm st [k] .any [(k, some (.arr sz ys))] := by
  have hm1 : p ∈ o.op.operands := by rw [ho]; simp [Op.operands]
  have hm2 : v ∈ o.op.operands := by rw [ho]; simp [Op.operands]
  have hall : ∀ y, y ∈ ys → y.cells.length = sz := fun y hy => (hyw y hy).1
  have hget : ∀ (a m : Nat) (y c : D), ys[a]? = some y → y.cells[m]? = some c → ds[a * sz + m]? = some c := fun a m y c hy hc => by
    have hm : m < sz := by rw [← hall y (List.mem_of_getElem? hy)]; exact (List.getElem?_eq_some_iff.1 hc).1
    rw [← hfl, flat_get hall a m y hy hm]; exact hc
  have hdl : ds.length = ys.length * sz := by
    rw [← hfl]
    clear hfl hget hyl
    induction ys with
    | nil => simp
    | cons y r ih =>
      rw [List.flatMap_cons, List.length_append, hall y (by simp), ih (fun x hx => hyw x (List.mem_cons_of_mem _ hx)) (fun x hx => hall x (List.mem_cons_of_mem _ hx)), List.length_cons, Nat.succ_mul]; omega
  refine VOp.write (e0 := .arr sz xs) (e := .arr sz ys) (k := k) true (by simp) hen (.inl rfl) fun X0 F w0 q α S a w hs he ho' => ?_
  have hSk := ho' k (by simp) _ hen
  rcases hs.own k _ hSk with ⟨_, ⟨sz', _, he'⟩, _⟩ | ⟨hnil, arr, U, fz, cap, hB⟩
  · cases he'
  refine ⟨hnil, ?_⟩
  have hrp := (h1.to hm1 he).read hs
  generalize hp : a.eval p = pv at hrp
  cases hrp
  have hrv := htd.rd w α _ (XX α S.own X0) (a.eval v) ((h2.to hm2 he).read hs) (fun k hk => by cases hk) (fun _ h => h) (fun k hk => by cases hk)
  have hone : ∀ c, c ∈ (D.agg ds).cells → c.one = true := fun c hc => by
    have hc : c ∈ ds := hc
    rw [← hfl] at hc
    obtain ⟨y, hy, hcy⟩ := List.mem_flatMap.1 hc
    exact (hyw y hy).2 c hcy
  obtain ⟨hv1, hv2, hv3⟩ := d_cells hrv hone
  have hv1 : (a.eval v).cells.size = ds.length := hv1
  have hzz := hB.hsz
  have hbd := hB.bnd
  have hcl := hB.len
  simp only [Ent.sz, Ent.len] at hzz hbd hcl
  have hle : ys.length * sz ≤ cap * sz := Nat.mul_le_mul_right _ (by omega)
  obtain ⟨arr', hW⟩ := wrote_of (p := q) (i := 0) (j := 0) (new := (a.eval v).cells.toList) (e := .arr sz ys) hB rfl (by simp [Ent.len, hyl]) (by simp only [Ent.sz, Array.length_toList, hv1]; omega)
    (fun j x hx => hyw x (List.mem_of_getElem? hx)) (fun c hc => by cases hc) (fun sz xs _ h => by cases h) (fun U h => by cases h) (fun cs' V h => by cases h)
    (fun a' m c hc => by
      simp only [Ent.cell, Option.bind_eq_some_iff, Option.map_eq_some_iff] at hc
      obtain ⟨y, hy, c', hc', _⟩ := hc
      simp only [Ent.sz]
      rw [← hall y (List.mem_of_getElem? hy)]; exact (List.getElem?_eq_some_iff.1 hc').1)
    (fun a' m c hc => by
      simp only [Ent.cell, Option.bind_eq_some_iff] at hc
      obtain ⟨y, hy, _⟩ := hc
      have := (List.getElem?_eq_some_iff.1 hy).1
      simp only [Ent.len]; omega)
    (fun a' m c hc hin => by
      simp only [Ent.cell, Option.bind_eq_some_iff, Option.map_eq_some_iff] at hc
      obtain ⟨y, hy, c', hc', rfl⟩ := hc
      obtain ⟨u, h5, h6⟩ := hv2 _ _ (show (D.agg ds).cells[a' * sz + m]? = some c' from hget a' m y c' hy hc')
      refine ⟨u, ?_, .d _ _ h6⟩
      simp only [Ent.sz, Nat.zero_mul, Nat.zero_add, Nat.sub_zero]
      rw [Array.getElem?_toList]; exact h5)
    (fun a' m c hc hin => by
      exfalso
      simp only [Ent.cell, Option.bind_eq_some_iff, Option.map_eq_some_iff] at hc
      obtain ⟨y, hy, c', hc', _⟩ := hc
      have := (List.getElem?_eq_some_iff.1 (hget a' m y c' hy hc')).1
      simp only [Ent.sz, Nat.zero_mul, Nat.zero_add, Array.length_toList, hv1] at hin
      omega)
  refine ⟨_, _, arr', U, fz, cap, hW, fun _ => rfl, fun next Q hn => ?_⟩
  refine store_run ho hp (run_storeVar (C.ty hti) hB.heap (by rw [hv1, hln]) (by omega) (fun m hm => hB.nf.2 _ (by omega) (by simp only [Ent.sz]; omega)) hv3) (hn _ (.inl rfl))

theorem store_out {T : TypeId} {p v : Operand} (ho : o.op = .store T p v) (h : evK st p fun a => evTK C st T v fun b => storeK C st T a b K) : ∃ out upd rd, K out upd rd ∧ VOp C n o nm st rd out upd := by
  replace h := evK_out h; obtain ⟨pa, h1, h⟩ := h
  replace h := evTK_out h; obtain ⟨va, h2, h⟩ := h
  have hm1 : p ∈ o.op.operands := by rw [ho]; simp [Op.operands]
  have hm2 : v ∈ o.op.operands := by rw [ho]; simp [Op.operands]
  unfold storeK at h
  replace h := lookK_out h; obtain ⟨ti, hti, h⟩ := h
  split at h
  · rename_i k i j
    replace h := ownK_out h; obtain ⟨en, hen, h⟩ := h
    split at h
    · rename_i cs T0
      split at h
      · replace h := cellsK_out h; obtain ⟨new, h, hnew⟩ := h
        split at h
        · rename_i hlen
          have hlen := Nat.eq_of_beq_eq_true hlen
          replace h := setK_out h; obtain ⟨r, h, hr1, hr2, hr3⟩ := h
          refine ⟨_, _, _, h, VOp.write (e0 := .box cs T0) (e := .box r T0) (k := k) true (by simp) hen (.inl rfl) fun X0 F w0 q α S a w hs he ho' => ?_⟩
          have hSk := ho' k (by simp) _ hen
          rcases hs.own k _ hSk with ⟨_, ⟨sz', _, he'⟩, _⟩ | ⟨hnil, arr, U, fz, cap, hB⟩
          · cases he'
          refine ⟨hnil, ?_⟩
          have hrp := (h1.to hm1 he).read hs
          generalize hp : a.eval p = pv at hrp
          cases hrp
          have hv := h2.to hm2 he
          obtain ⟨hv1, hv2⟩ := hnew.rd w α _ _ (hv.read hs)
          have hzz := hB.hsz
          have hbd := hB.bnd
          have hcl := hB.len
          simp only [Ent.sz, Ent.len] at hzz hbd hcl
          have hle : cs.length ≤ cap * cs.length := Nat.le_mul_of_pos_left _ hcl
          have hvone : ∀ u, u ∈ (a.eval v).cells → u.oneCell' = true := by
            intro u hu
            obtain ⟨m, hm, rfl⟩ := Array.mem_iff_getElem.1 hu
            obtain ⟨u', h5, _, h7⟩ := hv2 m (new[m]'(by rw [← hv1]; exact hm)) (by simp)
            simp [hm] at h5; rw [h5]; exact h7
          obtain ⟨arr', hW⟩ := wrote_of (p := q) (i := 0) (j := j) (new := (a.eval v).cells.toList) (e := .box r T0) hB hr1 rfl (by simp only [Ent.sz, Array.length_toList, hv1]; omega)
            (fun c hc => by
              obtain ⟨m, hm⟩ := List.mem_iff_getElem?.1 (show c ∈ r from hc)
              rw [hr3 m] at hm
              split at hm
              · exact hnew.one c (List.mem_of_getElem? hm)
              · exact hB.wid c (List.mem_of_getElem? hm))
            (fun c hc => by
              obtain ⟨m, hm⟩ := List.mem_iff_getElem?.1 (show c ∈ r from hc)
              rw [hr3 m] at hm
              split at hm
              · exact hnew.ok q (hv.ok hs) c (List.mem_of_getElem? hm)
              · exact (hs.oko k _ hSk).2 c (List.mem_of_getElem? hm))
            (fun sz xs _ h => by cases h) (fun U h => h) (fun cs' V _ => ⟨_, _, rfl⟩)
            (fun a' m c hc => by
              simp only [Ent.cell] at hc
              split at hc
              · have := (List.getElem?_eq_some_iff.1 hc).1
                simp only [Ent.sz]; omega
              · cases hc)
            (fun a' m c hc => by
              simp only [Ent.cell] at hc
              split at hc
              · simp only [Ent.len]; omega
              · cases hc)
            (fun a' m c hc hin => by
              simp only [Ent.cell] at hc
              split at hc
              · rename_i ha
                subst ha
                simp only [Ent.sz, Nat.zero_mul, Nat.zero_add, Array.length_toList, hv1] at hin ⊢
                rw [hr3 m, if_pos hin] at hc
                obtain ⟨u, h5, h6, _⟩ := hv2 _ _ hc
                exact ⟨u, by rw [Array.getElem?_toList]; exact h5, h6⟩
              · cases hc)
            (fun a' m c hc hin => by
              simp only [Ent.cell] at hc ⊢
              split at hc
              · rename_i ha
                subst ha
                simp only [Ent.sz, Nat.zero_mul, Nat.zero_add, Array.length_toList, hv1] at hin
                rw [hr3 m, if_neg hin] at hc
                simpa using hc
              · cases hc)
          refine ⟨_, _, arr', U, fz, cap, hW, fun _ => rfl, fun next Q hn => ?_⟩
          refine store_run ho hp (run_storeVar (C.ty hti) hB.heap (by rw [hv1, hlen]) (by omega) (fun m hm => hB.nf.2 _ (by omega) (by simp only [Ent.sz]; omega)) hvone) (hn _ (.inl rfl))
        · cases h
      · cases h
    · rename_i sz xs T0
      replace h := toDK_out h; obtain ⟨d, us, h, htd⟩ := h
      split at h
      · obtain ⟨x, hx, h⟩ := h
        replace h := putK_out h; obtain ⟨y, h, hy⟩ := h
        exact ⟨_, _, _, h, store_elem ho hti (.buf sz xs _) (.buf sz (xs.set i y) _) (.inl ⟨rfl, rfl⟩) rfl h1 h2 hen htd hx hy⟩
      · cases h
    · rename_i sz xs
      split at h
      · split at h
        · replace h := toDK_out h; obtain ⟨d, us, h, htd⟩ := h
          split at h
          · obtain ⟨ys, hfl, hln, hyl, hyw, h⟩ := h
            exact ⟨_, _, _, h, store_whole ho hti h1 h2 hen htd hfl hln hyl hyw⟩
          · cases h
        · cases h
      · replace h := toDK_out h; obtain ⟨d, us, h, htd⟩ := h
        split at h
        · obtain ⟨x, hx, h⟩ := h
          replace h := putK_out h; obtain ⟨y, h, hy⟩ := h
          exact ⟨_, _, _, h, store_elem (T0 := none) ho hti (.arr sz xs) (.arr sz (xs.set i y)) (.inr ⟨rfl, rfl⟩) rfl h1 h2 hen htd hx hy⟩
        · cases h
    · cases h
  · cases h

end
end Go.Eng

/-
  Append: its reckoning, and that it speaks true.
-/
namespace Go.Eng

/-- Room for what is appended. -/
structure AppK (n : Nat) (K : Prop) : Prop where
  out : n ≤ 68719476736 ∧ K
theorem app_ok {n : Nat} {K : Prop} (h : n ≤ 68719476736) (h1 : K) : AppK n K := ⟨h, h1⟩

section
variable {C : Ctx} {n : Nat} {o : Oper} {nm : Nat} {st : AS} {K : KO}

def srcK (C : Ctx) (st : AS) (sz : Nat) (T : TypeId) (x : AV) (K : List D → List Nat → Prop) : Prop :=
  lookK C.tab T fun ti => match ti.kd with
    | .slice _ => match x with
      | .d (.sl s ys) => match Nat.beq s sz with | true => K ys [] | false => False
      | .nl _ => K [] []
      | .os k => ownK st k fun e => match e with | .buf s ys _ => (match Nat.beq s sz with | true => K ys [k] | false => False) | _ => False
      | _ => False
    | .str => match x, sz with
      | .d (.s l), 1 => K (encB l) []
      | _, _ => False
    | _ => False

/-- What the second argument of an append yields. -/
structure SrcOk (P : Program) (sz : Nat) (T : TypeId) (v : Value) (ys : List D) (w : World) (X : Nat → Prop) (nw : List Value) : Prop where
  src : Src P sz T v ys.length nw w
  wid : ∀ (j : Nat) (y : D), ys[j]? = some y → y.wd sz
  rd : ∀ (j m : Nat) (y c : D), ys[j]? = some y → y.cells[m]? = some c → ∃ u, nw[j * sz + m]? = some u ∧ Rd w X c u

theorem src_row {P : Program} {w : World} {X : Nat → Prop} {sz e' : Nat} {T : TypeId} (hk : P.underlying T = some (.slice e')) {ys : List D} {blk off cap : Nat} {arr : Array Value} {U : TypeId} {fz : Nat × Nat} {f : Nat → Nat → Value}
    (hh : w.heap[blk]? = some (.cells arr U fz)) (hw : ∀ (j : Nat) (x : D), ys[j]? = some x → x.wd sz)
    (h1 : ∀ (j m : Nat) (x c : D), ys[j]? = some x → x.cells[m]? = some c → arr[off + j * sz + m]? = some (f j m)) (h2 : ∀ (j m : Nat) (x c : D), ys[j]? = some x → x.cells[m]? = some c → Rd w X c (f j m)) :
    ∃ nw, SrcOk P sz T (.slice (some ⟨blk, off, none⟩) ys.length cap) ys w X nw := by
  have hdm : ∀ i, i < ys.length * sz → ∃ y c, ys[i / sz]? = some y ∧ y.cells[i % sz]? = some c ∧ i / sz * sz + i % sz = i := by
    intro i hi
    have hpos : 0 < sz := by
      rcases Nat.eq_zero_or_pos sz with h | h
      · rw [h] at hi; omega
      · exact h
    have hq : i / sz < ys.length := Nat.div_lt_of_lt_mul (by rw [Nat.mul_comm]; exact hi)
    have hy : ys[i / sz]? = some ys[i / sz] := by simp [hq]
    have hwd := hw _ _ hy
    have hm : i % sz < ys[i / sz].cells.length := by rw [hwd.1]; exact Nat.mod_lt _ hpos
    exact ⟨_, _, hy, by rw [List.getElem?_eq_getElem hm], by rw [Nat.mul_comm]; exact Nat.div_add_mod i sz⟩
  let nw := (List.range (ys.length * sz)).map fun i => arr.getD (off + i) undef
  have hnw : ∀ i, i < ys.length * sz → nw[i]? = some (arr.getD (off + i) undef) := by
    intro i hi; simp [nw, hi]
  have hval : ∀ (j m : Nat) (y c : D), ys[j]? = some y → y.cells[m]? = some c → arr[off + (j * sz + m)]? = some (f j m) := by
    intro j m y c hy hc
    have := h1 j m y c hy hc
    rw [← this]; congr 1; omega
  refine ⟨nw, Src.ofSlice w hk _ _ _ nw (by simp [nw]) (fun i u hu => ?_) (fun u hu => ?_), hw, fun j m y c hy hc => ?_⟩
  · have hi : i < ys.length * sz := by
      have := (List.getElem?_eq_some_iff.1 hu).1; simpa [nw] using this
    obtain ⟨y, c, hy, hc, he⟩ := hdm i hi
    have h3 := hval _ _ y c hy hc
    rw [he] at h3
    rw [hnw i hi] at hu
    cases hu
    rw [Addr.add_mk, cell_of hh, h3]
    simp [Array.getD_eq_getD_getElem?, h3]
  · obtain ⟨i, hi⟩ := List.mem_iff_getElem?.1 hu
    have hlt : i < ys.length * sz := by
      have := (List.getElem?_eq_some_iff.1 hi).1; simpa [nw] using this
    obtain ⟨y, c, hy, hc, he⟩ := hdm i hlt
    have h3 := hval _ _ y c hy hc
    rw [he] at h3
    rw [hnw i hlt] at hi
    cases hi
    rw [Array.getD_eq_getD_getElem?, h3]
    exact (h2 _ _ y c hy hc).one ((hw _ _ hy).2 c (List.mem_of_getElem? hc))
  · have hj : j < ys.length := (List.getElem?_eq_some_iff.1 hy).1
    have hm : m < sz := by rw [← (hw _ _ hy).1]; exact (List.getElem?_eq_some_iff.1 hc).1
    have hlt : j * sz + m < ys.length * sz := by
      have h9 : (j + 1) * sz ≤ ys.length * sz := Nat.mul_le_mul_right _ hj
      rw [Nat.add_mul] at h9; omega
    refine ⟨_, hnw _ hlt, ?_⟩
    have h3 := hval j m y c hy hc
    rw [Array.getD_eq_getD_getElem?, h3]
    exact h2 _ _ y c hy hc

theorem src_of {P : Program} {w : World} {X : Nat → Prop} {sz e' : Nat} {T : TypeId} (hk : P.underlying T = some (.slice e')) {ys : List D} {v : Value} (h : Rd w X (.sl sz ys) v) : ∃ nw, SrcOk P sz T v ys w X nw := by
  cases h with
  | slnil => exact ⟨[], Src.ofNil w hk 0, fun j y hy => by simp at hy, fun j m y c hy => by simp at hy⟩
  | sle _ a cap => exact ⟨[], Src.ofSlice w hk a 0 cap [] (by simp) (fun j u h => by simp at h) (fun u h => by cases h), fun j y hy => by simp at hy, fun j m y c hy => by simp at hy⟩
  | sl _ _ blk off len cap arr U fz f hh hX hl hc hw h1 h2 =>
    subst hl
    exact src_row hk hh hw h1 h2

theorem src_own {P : Program} {w : World} {α : Nat → Loc} {X : Nat → Prop} {sz e' k : Nat} {T : TypeId} (hk : P.underlying T = some (.slice e')) {ys : List D} {T0 : Option TypeId} (h : Own w α X k (.buf sz ys T0)) : ∃ nw, SrcOk P sz T (α k).hv ys w X nw := by
  rcases h with ⟨_, ⟨sz', _, he⟩, hv⟩ | ⟨hnil, arr, U, fz, cap, hB⟩
  · cases he; rw [hv]; exact ⟨[], Src.ofNil w hk 0, fun j y hy => by simp at hy, fun j m y c hy => by simp at hy⟩
  · rw [hB.hv sz ys _ rfl]
    have hval : ∀ (j m : Nat) (x c : D), ys[j]? = some x → x.cells[m]? = some c → arr[(α k).off + j * sz + m]? = some (arr.getD ((α k).off + j * sz + m) undef) ∧ Rd w X c (arr.getD ((α k).off + j * sz + m) undef) := by
      intro j m x c hx hc
      obtain ⟨v, hv, hr⟩ := hB.rd j m _ (cell_d (e := .buf sz ys _) rfl hx hc)
      simp only [Ent.sz] at hv
      simp [Array.getD_eq_getD_getElem?, hv, hr.dinv]
    exact src_row (f := fun j m => arr.getD ((α k).off + j * sz + m) undef) hk hB.heap hB.wid (fun j m x c hx hc => (hval j m x c hx hc).1) fun j m x c hx hc => (hval j m x c hx hc).2

theorem srcK_out {sz : Nat} {T : TypeId} {x : AV} {K : List D → List Nat → Prop} (h : srcK C st sz T x K) :
    ∃ ys us, K ys us ∧ ∀ {G X0 F w0 n p α S a w}, Sim G X0 F w0 n p α S a w → (∀ k, k ∈ us → ∀ e, st.ss.own k = some e → S.own k = some e) →
      ∀ v, RdA w α (XX α S.own X0) x v → ∃ nw, SrcOk C.P sz T v ys w (XX α S.own X0) nw := by
  unfold srcK at h
  replace h := lookK_out h; obtain ⟨ti, hti, h⟩ := h
  split at h
  · rename_i e hk
    have hu := und_slice (C.ty hti) hk
    split at h
    · rename_i s ys
      split at h
      · rename_i hs
        obtain rfl := Nat.eq_of_beq_eq_true hs
        refine ⟨_, _, h, fun hs _ v hr => ?_⟩
        exact src_of (P := C.P) hu hr.dinv
      · cases h
    · refine ⟨_, _, h, fun hs _ v hr => ?_⟩
      cases hr
      exact src_of (P := C.P) hu (Rd.slnil sz)
    · rename_i k
      replace h := ownK_out h; obtain ⟨en, hen, h⟩ := h
      split at h
      · split at h
        · rename_i hs
          obtain rfl := Nat.eq_of_beq_eq_true hs
          refine ⟨_, _, h, fun hs ho v hr => ?_⟩
          cases hr
          exact src_own (P := C.P) hu (hs.own k _ (ho k (by simp) _ hen))
        · cases h
      · cases h
    · cases h
  · rename_i hk
    have hu := und_str (C.ty hti) hk
    split at h
    · rename_i l
      refine ⟨_, _, h, fun {G X0 F w0 n p α S a w} hs _ v hr => ?_⟩
      rw [hr.dinv.sinv]
      refine ⟨byteCells ⟨l.toArray⟩, ⟨?_, ?_, ?_⟩⟩
      · have := Src.ofString (P := C.P) w hu ⟨l.toArray⟩
        rw [size_mk] at this
        simpa [encB] using this
      · intro j d hd
        obtain ⟨c, _, rfl⟩ := encB_get hd
        exact ⟨rfl, fun c hc => by simp [D.cells] at hc; subst hc; rfl⟩
      · intro j m d c hd hc
        obtain ⟨b, hb, rfl⟩ := encB_get hd
        cases m with
        | zero =>
          simp [D.cells] at hc; subst hc
          exact ⟨_, by simp [byteCells, hb], .i _ _⟩
        | succ m => simp [D.cells] at hc
    · cases h
  · cases h


theorem zeroCells_size (z : Array Value) (m : Nat) : (Builtin.zeroCells z m).size = m * z.size := by simp [Builtin.zeroCells]

theorem two_rows {xs ys : List D} {sz : Nat} {ol nw : List Value} {P : D → Value → Prop} (hol : ol.length = xs.length * sz)
    (h1 : ∀ (j m : Nat) (x c : D), xs[j]? = some x → x.cells[m]? = some c → ∃ u, ol[j * sz + m]? = some u ∧ P c u)
    (h2 : ∀ (j m : Nat) (x c : D), ys[j]? = some x → x.cells[m]? = some c → ∃ u, nw[j * sz + m]? = some u ∧ P c u)
    (j m : Nat) (x c : D) (hx : (xs ++ ys)[j]? = some x) (hc : x.cells[m]? = some c) : ∃ u, (ol ++ nw)[j * sz + m]? = some u ∧ P c u := by
  by_cases hj : j < xs.length
  · rw [List.getElem?_append_left hj] at hx
    obtain ⟨u, h3, h4⟩ := h1 j m x c hx hc
    exact ⟨u, by rw [List.getElem?_append_left (List.getElem?_eq_some_iff.1 h3).1]; exact h3, h4⟩
  · rw [List.getElem?_append_right (by omega)] at hx
    obtain ⟨u, h3, h4⟩ := h2 _ m x c hx hc
    refine ⟨u, ?_, h4⟩
    have : xs.length * sz ≤ j * sz := Nat.mul_le_mul_right _ (by omega)
    rw [List.getElem?_append_right (by rw [hol]; omega), hol, ← h3]
    congr 1
    rw [Nat.sub_mul]; omega

theorem app_grow {P : Program} {w : World} {α : Nat → Loc} {X : Nat → Prop} {p : Nat → Prop} {T Tx ty e : TypeId} {te : TyI} (hu : P.underlying T = some (.slice e)) (hte : TyOk P e te) (hz : te.zero.length = te.size) (hby : te.bytes ≤ 2048)
    {base : Option Addr} {sCap : Nat} {xs ys : List D} {ol nw : List Value} {v : Value} (hsrc : SrcOk P te.size Tx v ys w X nw)
    (hold : (Builtin.firstCells te.size xs.length (.slice base xs.length sCap)).run P w.drew = .ok ol.toArray w.drew) (hol : ol.length = xs.length * te.size) (hwx : ∀ (j : Nat) (x : D), xs[j]? = some x → x.wd te.size)
    (h1 : ∀ (j m : Nat) (x c : D), xs[j]? = some x → x.cells[m]? = some c → ∃ u, ol[j * te.size + m]? = some u ∧ Rd w X c u)
    {T1 : Option TypeId} (hT1 : ∀ U, T1 = some U → U = e) (hg : sCap < xs.length + ys.length) (hle : xs.length + ys.length ≤ 68719476736) :
    ∃ w' hv arr cap, Made w w' α X p (.buf te.size (xs ++ ys) T1) hv arr e (0, 0) cap ∧ (Builtin.append_ #[T, Tx] ty #[.slice base xs.length sCap, v]).run P w = .ok hv w' := by
  obtain ⟨⟨i, hi, his, hib, z, hzz, hzl⟩, _⟩ := hte
  have hzsz : z.cells.size = te.size := by
    have := (zl_get hzl).1; simp at this; omega
  have hfit : Builtin.nextslicecap (xs.length + ys.length) sCap * i.bytes ≤ 281474976710656 := by
    have h3 := Room.nextslicecap_le' hg
    rw [hib]
    calc _ ≤ (2 * 68719476736) * 2048 := Nat.mul_le_mul (by omega) hby
      _ = 281474976710656 := by decide
  have hrun := run_append_grow_src (P := P) w T Tx ty e i z hu hi hzz base xs.length sCap ol (by rw [his]; exact hold) v ys.length nw (by rw [his]; exact hsrc.src) hg (by omega) hfit
  have hcap : xs.length + ys.length ≤ grownCap w (xs.length + ys.length) sCap e := by simp [grownCap, Question.cut]
  have hnl := hsrc.src.newsLen
  refine ⟨_, _, (ol ++ nw).toArray ++ Builtin.zeroCells z.cells (grownCap w (xs.length + ys.length) sCap e - (xs.length + ys.length)), grownCap w (xs.length + ys.length) sCap e, ?_, hrun⟩
  refine ⟨rfl, rfl, rfl, rfl, by simpa [Ent.len] using hcap, ?_, ⟨Nat.le_refl _, fun o _ => by simp⟩, ?_, ?_, (fun x hx => by cases hx), ?_, rfl, fun U h => ⟨(hT1 U h).symm, fun cs V h => by cases h⟩⟩
  · simp only [Ent.sz, Array.size_append, List.size_toArray, List.length_append, hol, hnl, zeroCells_size, hzsz]
    rw [← Nat.add_mul, ← Nat.add_mul]
    exact Nat.mul_le_mul_right _ (by omega)
  · intro j x hx
    by_cases hj : j < xs.length
    · rw [List.getElem?_append_left hj] at hx; exact hwx j x hx
    · rw [List.getElem?_append_right (by omega)] at hx; exact hsrc.wid _ x hx
  · intro j m c hc
    simp only [Ent.cell, Option.bind_eq_some_iff, Option.map_eq_some_iff] at hc
    obtain ⟨x, hx, y, hy, rfl⟩ := hc
    obtain ⟨u, h3, h4⟩ := two_rows hol h1 hsrc.rd j m x y hx hy
    refine ⟨u, ?_, .d _ _ h4⟩
    have hlt := (List.getElem?_eq_some_iff.1 h3).1
    rw [Array.getElem?_append_left (by simpa [Ent.sz] using hlt)]
    simpa [Ent.sz] using h3
  · intro sz xs' _ h; cases h; simp

/-- Appending to an owned row. -/
theorem app_own {G : List Gl} {X0 : Nat → Prop} {F : Fr} {w0 : World} {n nm : Nat} {q : Nat → Prop} {α : Nat → Loc} {S : SS} {a : Act} {w : World} (hs : Sim G X0 F w0 n q α S a w) (hp : ∀ k, fam nm k → ¬ q k)
    {P : Program} {T Tx ty e : TypeId} {te : TyI} (hu : P.underlying T = some (.slice e)) (hte : TyOk P e te) (hz : te.zero.length = te.size) (hby : te.bytes ≤ 2048) {k : Nat} {xs ys : List D} {nw : List Value} {v : Value}
    {T0 T1 : Option TypeId} (hT1 : ∀ U, T1 = some U → U = e ∧ T0 = some U) (hSk : S.own k = some (.buf te.size xs T0)) (hsrc : SrcOk P te.size Tx v ys w (XX α S.own X0) nw) (hle : xs.length + ys.length ≤ 68719476736) (dst : Option Nat) (hd : ∀ d, dst = some d → d < n) :
    ∃ α' v' w', (Builtin.append_ #[T, Tx] ty #[(α k).hv, v]).run P w = .ok v' w' ∧
      Sim G X0 F w0 n (fun k => q k ∨ fam nm k) α' (S.upd dst (.os (16 * nm)) [(16 * nm, some (.buf te.size (xs ++ ys) T1)), (k, none)]) (a.put dst v') w' := by
  rcases hs.own k _ hSk with ⟨hnil, ⟨sz', _, he⟩, hv⟩ | ⟨hnil, arr, U, fz, cap, hB⟩
  · cases he
    rw [hv]
    by_cases hy : ys.length = 0
    · have hys : ys = [] := List.eq_nil_of_length_eq_zero hy
      subst hys
      have hn0 : nw = [] := List.eq_nil_of_length_eq_zero (by have := hsrc.src.newsLen; simpa using this)
      subst hn0
      obtain ⟨⟨i, hi, his, _⟩, _⟩ := hte
      have hrun : (Builtin.append_ #[T, Tx] ty #[.slice none 0 0, v]).run P w = .ok (.slice none 0 0) w := by
        have hc := hsrc.src.cells
        rcases hsrc.src.kind with ⟨e', hk⟩ | hk <;> simp [Builtin.append_, run_underlying hu, run_underlying hk, sizeOf, typeInfo, hi, his, hsrc.src.len]
        all_goals (first | simpa using hc | (simp at hc; simp [hc]))
      obtain ⟨α', h⟩ := hs.nilrow hp te.size T1 [k] dst hd
      exact ⟨α', _, w, hrun, h⟩
    · obtain ⟨w', hv', arr, cap, hM, hrun⟩ := app_grow (α := α) (p := q) (ty := ty) (xs := []) (base := none) (sCap := 0) (ol := []) hu hte hz hby hsrc (run_firstCells_none _ _ _ _ _) (by simp) (fun j x hx => by simp at hx) (fun j m x c hx => by simp at hx)
        (fun U h => (hT1 U h).1) (by simp; omega) (by simpa using hle)
      obtain ⟨α', h⟩ := hs.make hp hM [k] dst hd (.os (16 * nm)) (.inl rfl)
      exact ⟨α', _, w', hrun, h⟩
  · rw [hB.hv te.size xs _ rfl]
    have hzz := hB.hsz
    simp only [Ent.sz] at hzz
    have hbd := hB.bnd
    simp only [Ent.sz] at hbd
    by_cases hroom : xs.length + ys.length ≤ cap
    · obtain ⟨⟨i, hi, his, _⟩, _⟩ := hte
      have hnl := hsrc.src.newsLen
      have hfits : (xs.length + ys.length) * te.size ≤ cap * te.size := Nat.mul_le_mul_right _ hroom
      rw [Nat.add_mul] at hfits
      have hrun := run_append_room_src (P := P) w T Tx ty e i hu hi (α k).blk (α k).off xs.length cap v ys.length nw (by rw [his]; exact hsrc.src) hroom
        (fun j hj => by
          rw [his, cell_of hB.heap]
          have : (α k).off + xs.length * te.size + j < arr.size := by omega
          simp [this])
        (fun j hj => by
          rw [his]
          exact nf_frozen hB.heap (hB.nf.2 _ (by omega) (by simp only [Ent.sz]; omega)))
      rw [his] at hrun
      obtain ⟨arr', h1, h2, h3, h4, h5, h6, h7, h8⟩ := heap_setCells (α k).blk nw ((α k).off + xs.length * te.size) w arr U fz hB.heap
      have hW : Wrote w (w.setCells (α k).blk ((α k).off + xs.length * te.size) nw) α (XX α S.own X0) q (α k) (.buf te.size (xs ++ ys) T1) (.slice (some ⟨(α k).blk, (α k).off, none⟩) (xs.length + ys.length) cap) arr' U fz cap := by
        refine ⟨h1, h3, h4, h5, h6, h7, hzz, by simpa [Ent.len] using hroom, by simp only [Ent.sz]; rw [h2]; exact hbd, hB.nf, ?_, ?_, (fun x hx => by cases hx), ?_, rfl, fun V h => ⟨(hB.ty V (hT1 V h).2).1, (hB.ty V (hT1 V h).2).2.1, fun cs V h => by cases h⟩⟩
        · intro j x hx
          by_cases hj : j < xs.length
          · rw [List.getElem?_append_left hj] at hx; exact hB.wid j x hx
          · rw [List.getElem?_append_right (by omega)] at hx; exact hsrc.wid _ x hx
        · intro j m c hc
          simp only [Ent.cell, Option.bind_eq_some_iff, Option.map_eq_some_iff] at hc
          obtain ⟨x, hx, y, hy, rfl⟩ := hc
          simp only [Ent.sz]
          rw [h8]
          by_cases hj : j < xs.length
          · rw [List.getElem?_append_left hj] at hx
            have hm : m < te.size := by rw [← (hB.wid j x hx).1]; exact (List.getElem?_eq_some_iff.1 hy).1
            have h9 : (j + 1) * te.size ≤ xs.length * te.size := Nat.mul_le_mul_right _ hj
            rw [Nat.add_mul] at h9
            rw [if_neg (by omega)]
            exact hB.rd j m _ (cell_d (e := .buf te.size xs _) rfl hx hy)
          · rw [List.getElem?_append_right (by omega)] at hx
            obtain ⟨u, h10, h11⟩ := hsrc.rd _ m x y hx hy
            have hlt := (List.getElem?_eq_some_iff.1 h10).1
            have h12 : xs.length * te.size ≤ j * te.size := Nat.mul_le_mul_right _ (by omega)
            have h13 : (j - xs.length) * te.size = j * te.size - xs.length * te.size := Nat.sub_mul _ _ _
            rw [if_pos (by omega)]
            refine ⟨u, ?_, .d _ _ h11⟩
            rw [← h10]; congr 1; omega
        · intro sz xs' _ h; cases h; simp
      obtain ⟨α', h⟩ := hs.write hp false hSk hnil hW (fun h => by cases h) dst hd (.os (16 * nm)) (.slice (some ⟨(α k).blk, (α k).off, none⟩) (xs.length + ys.length) cap) (.inr ⟨rfl, rfl⟩) (.inr rfl)
      exact ⟨α', _, _, hrun, h⟩
    · have hval : ∀ (j m : Nat) (x c : D), xs[j]? = some x → x.cells[m]? = some c → arr[(α k).off + j * te.size + m]? = some (arr.getD ((α k).off + j * te.size + m) undef) ∧ Rd w (XX α S.own X0) c (arr.getD ((α k).off + j * te.size + m) undef) := by
        intro j m x c hx hc
        obtain ⟨v, hv, hr⟩ := hB.rd j m _ (cell_d (e := .buf te.size xs _) rfl hx hc)
        simp only [Ent.sz] at hv
        simp [Array.getD_eq_getD_getElem?, hv, hr.dinv]
      have hcl := hB.len
      simp only [Ent.len] at hcl
      have hxsz : xs.length * te.size ≤ cap * te.size := Nat.mul_le_mul_right _ hcl
      let ol := (List.range (xs.length * te.size)).map fun i => arr.getD ((α k).off + i) undef
      obtain ⟨w', hv', arr2, cap2, hM, hrun⟩ := app_grow (α := α) (p := q) (ty := ty) (xs := xs) (base := some ⟨(α k).blk, (α k).off, none⟩) (sCap := cap) (ol := ol) hu hte hz hby hsrc
        (run_firstCells_some w.drew te.size xs.length ⟨(α k).blk, (α k).off, none⟩ xs.length cap ol (by simp [ol]) (fun j u hj => by
          have hlt : j < xs.length * te.size := by
            have := (List.getElem?_eq_some_iff.1 hj).1; simpa [ol] using this
          rw [Addr.add_mk]
          have hh : w.drew.heap[(α k).blk]? = some (.cells arr U fz) := hB.heap
          rw [cell_of hh]
          simp [ol, hlt] at hj
          rw [← hj]
          have : (α k).off + j < arr.size := by omega
          simp [this])) (by simp [ol]) hB.wid
        (fun j m x c hx hc => by
          obtain ⟨h1, h2⟩ := hval j m x c hx hc
          have hm : m < te.size := by rw [← (hB.wid j x hx).1]; exact (List.getElem?_eq_some_iff.1 hc).1
          have hj := (List.getElem?_eq_some_iff.1 hx).1
          have h9 : (j + 1) * te.size ≤ xs.length * te.size := Nat.mul_le_mul_right _ hj
          rw [Nat.add_mul] at h9
          refine ⟨arr.getD ((α k).off + (j * te.size + m)) undef, ?_, by rw [← Nat.add_assoc]; exact h2⟩
          simp only [ol, List.getElem?_map]
          rw [List.getElem?_range (by omega)]
          rfl) (fun U h => (hT1 U h).1) (by omega) hle
      obtain ⟨α', h⟩ := hs.make hp hM [k] dst hd (.os (16 * nm)) (.inl rfl)
      exact ⟨α', _, w', hrun, h⟩

end
end Go.Eng

