import Derived.Test.YtpogmmcfkdofhaaDoorCtx
namespace Go.Proofs.YtpogmmcfkdofhaaDoor
open Go.Eng
attribute [local irreducible] Hold Does

def addF (m : Int) : List Int → Int → Int
  | [], s => s
  | n :: l, s => addF m l (s + min (max n 0) (m - s))

def add25s (most : Int) (l : List Int) : Nat × Int → AS
  | (i, s) => ⟨[(0, .d (.i .i64 most)), (1, .d (ints l)), (5, .d (.i .i64 s)), (8, .d (ints l)), (9, .d (.i .i64 l.length)), (10, .d (.i .i64 i))], [], 1⟩
def add25i (most : Int) (l : List Int) : Nat × Int → Prop
  | (i, s) => i ≤ l.length ∧ 0 ≤ s ∧ s ≤ max most 0 ∧ addF (max most 0) (l.drop i) s = addF (max most 0) l 0

theorem add25 (most : Int) (l : List Int) (h : I64 most) (hl : l.length ≤ 9223372036854775807) : Does C 25 [.i .i64 most, ints l] [.i .i64 (addF (max most 0) l 0)] := by
  have hm := h.2
  refine Does.mk (n := 25) Tryd.func25 rfl rfl rfl (Nat.le_of_ble_eq_true rfl) ?_
  repeat refine seq_on ?_
  refine loop_inv (add25i most l) (add25s most l) (fun y => l.length - y.1) (0, 0) ⟨Nat.zero_le _, Int.le_refl _, by omega, rfl⟩ [] ?_ ?_
  · repeat' constructor
    all_goals refine hold ?_
    all_goals (first | with_reducible rfl | simp)
  rintro ⟨i, s⟩ ⟨hi, h0, hs, hf⟩
  refine cmp_dec (fun h1 => ?_) (fun h1 => ?_)
  · repeat refine seq_on ?_
    have hi' : i < l.length := by omega
    refine get_at i rfl (getInts hi') ?_
    refine ar ⟨by omega, by omega⟩ ?_
    refine ar ⟨by omega, by omega⟩ ?_
    refine ar ⟨by omega, by omega⟩ ?_
    refine again (i + 1, s + min (max (l.getD i 0) 0) (max most 0 - s)) [] (by exact ⟨by omega, by omega, by omega, by rw [← hf, drop_at 0 hi']; rfl⟩) (by show l.length - (i + 1) < l.length - i; omega) ?_
    repeat' constructor
    all_goals refine hold ?_
    all_goals (first | with_reducible rfl | simp)
  · repeat refine seq_on ?_
    refine congrArg (fun x => [D.i .i64 x]) ?_
    rw [← hf, List.drop_eq_nil_of_le (by omega)]; rfl

theorem addF_full (m : Int) (l : List Int) : addF m l m = m := by
  induction l with
  | nil => rfl
  | cons n l ih => simp only [addF]; rw [show m + min (max n 0) (m - m) = m by omega]; exact ih

def add26s (most : Int) (l : List Int) : Nat × Int → AS
  | (i, s) => ⟨[(0, .d (.i .i64 most)), (1, .d (ints l)), (5, .d (.i .i64 s)), (6, .d (.i .i64 i))], [], 1⟩

theorem add26 (most : Int) (l : List Int) (h : I64 most) (hl : l.length ≤ 9223372036854775807) : Does C 26 [.i .i64 most, ints l] [.i .i64 (addF (max most 0) l 0)] := by
  have hm := h.2
  refine Does.mk (n := 31) Tryd.func26 rfl rfl rfl (Nat.le_of_ble_eq_true rfl) ?_
  repeat refine seq_on ?_
  refine cmp_dec (fun h1 => ?_) (fun h1 => ?_)
  · repeat refine seq_on ?_
    refine congrArg (fun x => [D.i .i64 x]) ?_
    rw [show max most 0 = 0 by omega, addF_full]
  repeat refine seq_on ?_
  refine loop_inv (add25i most l) (add26s most l) (fun y => l.length - y.1) (0, 0) ⟨Nat.zero_le _, Int.le_refl _, by omega, rfl⟩ [] ?_ ?_
  · repeat' constructor
    all_goals refine hold ?_
    all_goals (first | with_reducible rfl | simp)
  rintro ⟨i, s⟩ ⟨hi, h0, hs, hf⟩
  have hlen : (l.map (D.i .i64)).length = l.length := by simp
  repeat refine seq_on ?_
  refine cmp_dec (fun h2 => ?_) (fun h2 => ?_)
  · repeat refine seq_on ?_
    have hi' : i < l.length := by omega
    have hf' := hf
    rw [drop_at 0 hi'] at hf'
    repeat refine seq_on ?_
    refine get_at i rfl (getInts hi') ?_
    repeat refine seq_on ?_
    refine ar ⟨by omega, by omega⟩ ?_
    repeat refine seq_on ?_
    refine cmp_dec (fun h3 => ?_) (fun h3 => ?_)
    · repeat refine seq_on ?_
      refine congrArg (fun x => [D.i .i64 x]) ?_
      simp only [addF] at hf'
      rw [← hf', show s + min (max (l.getD i 0) 0) (max most 0 - s) = most by omega, show max most 0 = most by omega, addF_full]
    · repeat refine seq_on ?_
      refine ar ⟨by omega, by omega⟩ ?_
      repeat refine seq_on ?_
      refine ar ⟨by omega, by omega⟩ ?_
      refine again (i + 1, s + min (max (l.getD i 0) 0) (max most 0 - s)) [] (by exact ⟨by omega, by omega, by omega, hf'⟩) (by show l.length - (i + 1) < l.length - i; omega) ?_
      repeat' constructor
      all_goals refine hold ?_
      all_goals (first | with_reducible rfl | (congr 1; omega) | simp)
  · repeat refine seq_on ?_
    refine congrArg (fun x => [D.i .i64 x]) ?_
    rw [← hf, List.drop_eq_nil_of_le (by omega)]; rfl
end Go.Proofs.YtpogmmcfkdofhaaDoor
