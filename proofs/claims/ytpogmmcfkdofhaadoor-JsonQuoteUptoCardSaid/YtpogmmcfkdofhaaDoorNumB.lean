import Derived.Test.YtpogmmcfkdofhaaDoorNumA
namespace Go.Proofs.YtpogmmcfkdofhaaDoor
open Go.Eng
attribute [local irreducible] Hold Does

def dg (c : Int) : Int := if 48 ≤ c ∧ c ≤ 57 then c - 48 else if 97 ≤ c ∧ c ≤ 102 then c - 87 else if 65 ≤ c ∧ c ≤ 70 then c - 55 else 16

theorem dg_lo (c : Int) : 0 ≤ dg c ∧ dg c ≤ 16 := by
  unfold dg
  repeat' split
  all_goals omega

theorem digit80 (c : Int) (h : 0 ≤ c ∧ c ≤ 255) : Does C 80 [.i .u8 c] [.i .i64 (dg c)] := by
  refine Does.mk (n := 35) Tryd.func80 rfl rfl rfl (Nat.le_of_ble_eq_true rfl) ?_
  repeat' (first | refine seq_on ?_ | refine cmp_dec (fun _ => ?_) (fun _ => ?_) | refine ar8 ⟨by omega, by omega⟩ ?_ | refine ar ⟨by omega, by omega⟩ ?_)
  all_goals refine congrArg (fun x => [D.i .i64 x]) ?_
  all_goals unfold dg
  all_goals repeat' split
  all_goals omega

theorem digit92 (c : Int) : Does C 92 [.i .u8 c] [.b (decide (48 ≤ c ∧ c ≤ 57))] := by
  refine Does.mk (n := 9) Tryd.func92 rfl rfl rfl (Nat.le_of_ble_eq_true rfl) ?_
  repeat' (first | refine seq_on ?_ | refine cmp_dec (fun _ => ?_) (fun _ => ?_))
  all_goals refine congrArg (fun x => [D.b x]) ?_
  all_goals simp
  all_goals omega

theorem digit81 (c b : Int) (h : 0 ≤ c ∧ c ≤ 255) (hb : 2 ≤ b ∧ b ≤ 16) : Does C 81 [.i .u8 c, .i .i64 b] [.i .i64 (if b ≤ dg c then -1 else dg c)] := by
  refine Does.mk (n := 38) Tryd.func81 rfl rfl rfl (Nat.le_of_ble_eq_true rfl) ?_
  refine seq_inv (fun _ : Unit => True) (fun _ => ⟨[(0, .d (.i .u8 c)), (1, .d (.i .i64 b)), (5, .d (.i .i64 (if dg c = 16 then -1 else dg c)))], [], 1⟩) ?_ ?_
  · refine call_by (digit92 c) ?_
    by_cases h0 : 48 ≤ c ∧ c ≤ 57
    · rw [decide_eq_true h0]
      repeat' (first | refine seq_on ?_ | refine cmp_dec (fun _ => ?_) (fun _ => ?_) | refine ar8 ⟨by omega, by omega⟩ ?_ | refine ar ⟨by omega, by omega⟩ ?_)
      refine cut_inv () [] trivial ?_
      repeat' constructor
      all_goals refine hold ?_
      all_goals first | with_reducible rfl | skip
      congr 1; unfold dg; repeat' split
      all_goals omega
    · rw [decide_eq_false h0]
      repeat' (first | refine seq_on ?_ | refine cmp_dec (fun _ => ?_) (fun _ => ?_) | refine ar8 ⟨by omega, by omega⟩ ?_ | refine ar ⟨by omega, by omega⟩ ?_)
      all_goals refine cut_inv () [] trivial ?_
      all_goals repeat' constructor
      all_goals refine hold ?_
      all_goals first | with_reducible rfl | skip
      all_goals congr 1; unfold dg; repeat' split
      all_goals omega
  · intro _ _
    have hd := dg_lo c
    repeat' (first | refine seq_on ?_ | refine cmp_dec (fun _ => ?_) (fun _ => ?_))
    all_goals refine congrArg (fun x => [D.i .i64 x]) ?_
    all_goals split
    all_goals (try split at *)
    all_goals omega
end Go.Proofs.YtpogmmcfkdofhaaDoor
