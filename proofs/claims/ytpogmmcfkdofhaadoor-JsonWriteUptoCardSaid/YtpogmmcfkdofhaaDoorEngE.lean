/-
  Operations that only look: bools, conversions of numbers, slices, indexes, fields, addresses, loads of what is not written.
-/
import Derived.Test.YtpogmmcfkdofhaaDoorEngD
import Derived.Laws.Strings
namespace Go.Eng

theorem RdA.dinv {w : World} {α : Nat → Loc} {X : Nat → Prop} {x : D} {v : Value} (h : RdA w α X (.d x) v) : Rd w X x v := by cases h; assumption
theorem Rd.iinv {w : World} {X : Nat → Prop} {k : IntKind} {n : Int} {v : Value} (h : Rd w X (.i k n) v) : v = .int k n := by cases h; rfl
theorem Rd.binv {w : World} {X : Nat → Prop} {t : Bool} {v : Value} (h : Rd w X (.b t) v) : v = .bool t := by cases h; rfl
theorem Rd.sinv {w : World} {X : Nat → Prop} {l : List UInt8} {v : Value} (h : Rd w X (.s l) v) : v = .string ⟨l.toArray⟩ := by cases h; rfl

theorem size_mk (l : List UInt8) : (ByteArray.mk l.toArray).size = l.length := by simp [ByteArray.size]

theorem append_mk (x y : List UInt8) : (ByteArray.mk x.toArray) ++ (ByteArray.mk y.toArray) = ⟨(x ++ y).toArray⟩ := by
  apply ByteArray.ext; simp

theorem equal_bool {P : Program} {T : TypeId} {ti : TyI} (ht : TyOk P T ti) (hk : ti.kd = .bool) (x y : Bool) (w : World) : (Op.equal T (.bool x) (.bool y)).run P w = .ok (x == y) w := by
  obtain ⟨_, u, hu, _, hc⟩ := ht
  rw [hk] at hc
  cases u <;> simp [chkKd] at hc
  have : ∀ d, (Op.equalIn (d + 1) T (.bool x) (.bool y)).run P w = .ok (x == y) w := fun d => by simp [Op.equalIn, underlying, hu]
  exact this 9999

theorem binK_out {C : Ctx} {op : BinOp} {T : TypeId} {a b : AV} {K : AV → Prop} (h : binK C T op a b K) :
    ∃ d : D, K (.d d) ∧ ∀ w α X va vb (x y : Operand), RdA w α X a va → RdA w α X b vb →
      ∃ v, (do eqGuard op T x y va vb; binOp op T va vb : Sem Value).run C.P w = .ok v w ∧ Rd w X d v := by
  unfold binK at h
  split at h
  · rename_i k x k' y
    split at h
    · rename_i hsh
      unfold shiftK at h
      split at h
      · refine ⟨_, h.2.out, fun w α X va vb ox oy ha hb => ?_⟩
        rw [ha.dinv.iinv, hb.dinv.iinv]
        exact ⟨_, by simp [eqGuard, binOp, Op.shift, Int.not_lt.2 h.1], .i _ _⟩
      · refine ⟨_, h.2, fun w α X va vb ox oy ha hb => ?_⟩
        rw [ha.dinv.iinv, hb.dinv.iinv]
        exact ⟨_, by simp [eqGuard, binOp, Op.shift, Int.not_lt.2 h.1], .i _ _⟩
      · cases h
    · rename_i hsh
      split at h
      · rename_i hk
        have := kindB_eq hk; subst this
        obtain ⟨d, hd, hr⟩ := intOpK_out (P := C.P) (T := T) hsh h
        refine ⟨d, hd, fun w α X va vb ox oy ha hb => ?_⟩
        rw [ha.dinv.iinv, hb.dinv.iinv]
        obtain ⟨v, h1, h2⟩ := hr w X
        refine ⟨v, ?_, h2⟩
        have : (eqGuard op T ox oy (.int k x) (.int k y)).run C.P w = .ok () w := by unfold eqGuard; cases op <;> simp
        simp [this, h1]
      · cases h
  · rename_i x y
    unfold strOpK at h
    split at h
    · refine ⟨_, h.out.2, fun w α X va vb ox oy ha hb => ?_⟩
      rw [ha.dinv.sinv, hb.dinv.sinv]
      have hle := h.out.1
      refine ⟨.string ⟨(x ++ y).toArray⟩, ?_, .s _⟩
      have : ¬ (((ByteArray.mk x.toArray).size + (ByteArray.mk y.toArray).size : Nat) : Int) > IntKind.i64.max := by
        rw [size_mk, size_mk]; have : IntKind.i64.max = 9223372036854775807 := by decide
        omega
      simp only [eqGuard, binOp, Op.stringOp]
      rw [if_neg this, append_mk]
      simp
    · refine ⟨_, h.out, fun w α X va vb ox oy ha hb => ?_⟩
      rw [ha.dinv.sinv, hb.dinv.sinv]
      refine ⟨.bool (decide (x = y)), ?_, .b _⟩
      have : ((x == y) : Bool) = decide (x = y) := by rw [Bool.eq_iff_iff]; simp
      simp [eqGuard, binOp, Op.stringOp, this]
    · refine ⟨_, h.out, fun w α X va vb ox oy ha hb => ?_⟩
      rw [ha.dinv.sinv, hb.dinv.sinv]
      refine ⟨.bool (decide (x ≠ y)), ?_, .b _⟩
      have : ((x == y) : Bool) = decide (x = y) := by rw [Bool.eq_iff_iff]; simp
      simp [eqGuard, binOp, Op.stringOp, this]
    · refine ⟨_, h.out, fun w α X va vb ox oy ha hb => ?_⟩
      rw [ha.dinv.sinv, hb.dinv.sinv]
      exact ⟨_, by simp [eqGuard, binOp, Op.stringOp], .b _⟩
    · cases h
  · rename_i x y
    obtain ⟨ti, hti, h⟩ := lookK_out h
    split at h
    · rename_i hk
      have he := equal_bool (C.ty hti) hk x y
      split at h
      · refine ⟨_, h.out, fun w α X va vb ox oy ha hb => ?_⟩
        rw [ha.dinv.binv, hb.dinv.binv]
        refine ⟨.bool (x == y), ?_, .b _⟩
        simp [eqGuard, binOp, he]
      · refine ⟨_, h.out, fun w α X va vb ox oy ha hb => ?_⟩
        rw [ha.dinv.binv, hb.dinv.binv]
        refine ⟨.bool (x != y), ?_, .b _⟩
        simp [eqGuard, binOp, he, bne]
      · cases h
    · cases h
  · cases h

def unK (op : UnOp) (a : AV) (K : AV → Prop) : Prop :=
  match op, a with
  | .not, .d (.b t) => match t with | true => K (.d (.b false)) | false => K (.d (.b true))
  | .neg, .d (.i k n) => ArK k (0 - n) fun r => K (.d (.i k r))
  | _, _ => False

theorem unK_out {P : Program} {op : UnOp} {a : AV} {K : AV → Prop} (h : unK op a K) :
    ∃ d : D, K (.d d) ∧ ∀ w α X va, RdA w α X a va → ∃ v, (Op.unary op va).run P w = .ok v w ∧ Rd w X d v := by
  unfold unK at h
  split at h
  · rename_i t
    cases t
    · refine ⟨_, h, fun w α X va ha => ?_⟩
      rw [ha.dinv.binv]; exact ⟨_, by simp [Op.unary], .b _⟩
    · refine ⟨_, h, fun w α X va ha => ?_⟩
      rw [ha.dinv.binv]; exact ⟨_, by simp [Op.unary], .b _⟩
  · refine ⟨_, h.out, fun w α X va ha => ?_⟩
    rw [ha.dinv.iinv]; exact ⟨_, by simp [Op.unary, Op.intArith], .i _ _⟩
  · cases h

/-! ### Lists, one place at a time -/

def nthK {β : Type} : List β → Nat → (β → Prop) → Prop
  | [], _, _ => False
  | x :: _, 0, K => K x
  | _ :: l, j + 1, K => nthK l j K

theorem nthK_out {β : Type} {l : List β} {j : Nat} {K : β → Prop} (h : nthK l j K) : ∃ x, l[j]? = some x ∧ K x := by
  induction l generalizing j with
  | nil => cases h
  | cons y l ih =>
    cases j with
    | zero => exact ⟨y, rfl, h⟩
    | succ j => obtain ⟨x, h1, h2⟩ := ih h; exact ⟨x, by simpa using h1, h2⟩

/-- n places from j on. -/
def takeK {β : Type} : List β → Nat → Nat → (List β → Prop) → Prop
  | _, 0, 0, K => K []
  | x :: l, 0, n + 1, K => takeK l 0 n fun r => K (x :: r)
  | _ :: l, j + 1, n, K => takeK l j n K
  | [], _, _, _ => False

theorem takeK_out {β : Type} {l : List β} {j n : Nat} {K : List β → Prop} (h : takeK l j n K) :
    ∃ r, r.length = n ∧ (∀ m x, r[m]? = some x → l[j + m]? = some x) ∧ K r := by
  induction l generalizing j n K with
  | nil =>
    cases j <;> cases n <;> simp only [takeK] at h
    exact ⟨[], rfl, fun m x hx => by simp at hx, h⟩
  | cons y l ih =>
    cases j with
    | zero =>
      cases n with
      | zero => simp only [takeK] at h; exact ⟨[], rfl, fun m x hx => by simp at hx, h⟩
      | succ n =>
        simp only [takeK] at h
        obtain ⟨r, h1, h2, h3⟩ := ih h
        refine ⟨y :: r, by simp [h1], fun m x hx => ?_, h3⟩
        cases m with
        | zero => simpa using hx
        | succ m => have := h2 m x (by simpa using hx); simpa [Nat.add_comm, Nat.add_left_comm] using this
    | succ j =>
      simp only [takeK] at h
      obtain ⟨r, h1, h2, h3⟩ := ih h
      exact ⟨r, h1, fun m x hx => by have := h2 m x hx; rw [Nat.add_right_comm]; simpa using this, h3⟩

def allDK : List AV → (List D → Prop) → Prop → Prop
  | [], K, _ => K []
  | .d x :: l, K, no => allDK l (fun r => K (x :: r)) no
  | _ :: _, _, no => no

theorem allDK_out {l : List AV} {K : List D → Prop} {no : Prop} (h : allDK l K no) : (∃ ds, l = ds.map .d ∧ K ds) ∨ no := by
  induction l generalizing K with
  | nil => exact .inl ⟨[], rfl, h⟩
  | cons a l ih =>
    cases a with
    | d x =>
      simp only [allDK] at h
      rcases ih h with ⟨ds, h1, h2⟩ | h
      · exact .inl ⟨x :: ds, by simp [h1], h2⟩
      · exact .inr h
    | _ => exact .inr h

def mkAggK (l : List AV) (K : AV → Prop) : Prop := allDK l (fun ds => K (.d (.agg ds))) (K (.agg l))

theorem mkAggK_out {l : List AV} {K : AV → Prop} (h : mkAggK l K) : ∃ av, K av ∧ (∀ p, (∀ c, c ∈ l → c.ok p) → av.ok p) ∧
    ∀ w α X (vs : Array Value), l.length = vs.size → (∀ (j : Nat) (c : AV) (v : Value), l[j]? = some c → vs[j]? = some v → RdA w α X c v) → RdA w α X av (.agg vs) := by
  rcases allDK_out h with ⟨ds, rfl, hk⟩ | hk
  · refine ⟨_, hk, fun p _ => .d _, fun w α X vs hl hr => .d _ _ (.agg ds vs (by simpa using hl) fun j c v hc hv => ?_)⟩
    exact (hr j (.d c) v (by simp [hc]) hv).dinv
  · exact ⟨_, hk, fun p hp => .agg l hp, fun w α X vs hl hr => .agg l vs hl hr⟩

/-! ### Loads -/

theorem run_loadVar_agg {P : Program} {T : TypeId} {ti : TyI} (ht : TyOk P T ti) (hagg : ti.agg = true) (w : World) (b off : Nat) (f : Nat → Value)
    (h : ∀ j, j < ti.size → w.cell? ⟨b, off + j, none⟩ = some (f j)) : (loadVar T ⟨b, off, none⟩).run P w = .ok (.agg ((List.range ti.size).map f).toArray) w := by
  obtain ⟨⟨i, hi, hs, _, _⟩, u, hu, ha, _⟩ := ht
  have hc := run_loadCells (P := P) w ⟨b, off, none⟩ ti.size f (fun j hj => by
    rw [← h j hj]; congr 1; unfold Addr.add; split <;> simp_all)
  have hA : (isAgg T).run P w = .ok true w := by
    rw [← hagg, ← ha]
    simp only [isAgg]
    cases u <;> simp [underlying, hu, aggOf]
  have hS : (sizeOf T).run P w = .ok ti.size w := by simp [sizeOf, typeInfo, hi, hs]
  simp [loadVar, hA, hS, hc]

theorem run_loadVar_one {P : Program} {T : TypeId} {ti : TyI} (ht : TyOk P T ti) (hagg : ti.agg = false) (w : World) (a : Addr) (v : Value)
    (h : w.cell? a = some v) : (loadVar T a).run P w = .ok v w := by
  obtain ⟨_, u, hu, ha, _⟩ := ht
  have hA : (isAgg T).run P w = .ok false w := by
    rw [← hagg, ← ha]
    simp only [isAgg]
    cases u <;> simp [underlying, hu, aggOf]
  simp only [loadVar, Sem.run_bind, hA, Result.andThen]
  simp only [load, Sem.run, h, Bool.false_eq_true, if_false]

theorem cell_of {w : World} {b : Nat} {arr : Array Value} {T : TypeId} {fz : Nat × Nat} (h : w.heap[b]? = some (.cells arr T fz)) (o : Nat) :
    w.cell? ⟨b, o, none⟩ = arr[o]? := by simp [World.cell?, h]

/-- The whole datum, or a part of its cells. -/
def partK (x : D) (j : Nat) (ti : TyI) (K : AV → Prop) : Prop :=
  match ti.agg with
  | true => match j, Nat.beq x.cells.length ti.size with
    | 0, true => match x with | .agg cs => K (.d (.agg cs)) | _ => False
    | j, _ => takeK x.cells j ti.size fun r => K (.d (.agg r))
  | false => nthK x.cells j fun c => K (.d c)

theorem partK_out {x : D} {j : Nat} {ti : TyI} {K : AV → Prop} (h : partK x j ti K) :
    ∃ d, K (.d d) ∧ ((ti.agg = true ∧ ∃ r, d = .agg r ∧ r.length = ti.size ∧ ∀ m c, r[m]? = some c → x.cells[j + m]? = some c) ∨ (ti.agg = false ∧ x.cells[j]? = some d)) := by
  unfold partK at h
  split at h
  · rename_i hagg
    split at h
    · rename_i hb
      split at h
      · rename_i cs
        exact ⟨_, h, .inl ⟨hagg, cs, rfl, Nat.eq_of_beq_eq_true hb, fun m c hc => by simpa [D.cells] using hc⟩⟩
      · cases h
    · obtain ⟨r, h1, h2, h3⟩ := takeK_out h
      exact ⟨_, h3, .inl ⟨hagg, r, rfl, h1, h2⟩⟩
  · rename_i hagg
    obtain ⟨c, h1, h2⟩ := nthK_out h
    exact ⟨c, h2, .inr ⟨hagg, h1⟩⟩

theorem run_load_part {P : Program} {T : TypeId} {ti : TyI} (ht : TyOk P T ti) {w : World} {X : Nat → Prop} {x d : D} {j : Nat} {b off : Nat} {f : Nat → Value}
    (hd : (ti.agg = true ∧ ∃ r, d = .agg r ∧ r.length = ti.size ∧ ∀ m c, r[m]? = some c → x.cells[j + m]? = some c) ∨ (ti.agg = false ∧ x.cells[j]? = some d))
    (h1 : ∀ (m : Nat) (c : D), x.cells[m]? = some c → w.cell? ⟨b, off + m, none⟩ = some (f m)) (h2 : ∀ (m : Nat) (c : D), x.cells[m]? = some c → Rd w X c (f m)) :
    ∃ v, (loadVar T ⟨b, off + j, none⟩).run P w = .ok v w ∧ Rd w X d v := by
  rcases hd with ⟨hagg, r, rfl, hr, hc⟩ | ⟨hagg, hc⟩
  · refine ⟨_, run_loadVar_agg ht hagg w b (off + j) (fun m => f (j + m)) (fun m hm => ?_), ?_⟩
    · rw [Nat.add_assoc]
      exact h1 _ _ (hc m (r[m]'(by omega)) (by simp [hr, hm]))
    · refine .agg r _ (by simp [hr]) fun m c v hm hv => ?_
      have hlt : m < ti.size := by
        have := (List.getElem?_eq_some_iff.1 hm).1; omega
      simp [hlt] at hv
      subst hv
      exact h2 _ _ (hc m c hm)
  · exact ⟨_, run_loadVar_one ht hagg w _ _ (h1 j d hc), h2 j d hc⟩

end Go.Eng
