import Derived.Test.YtpogmmcfkdofhaaDoorNumG
namespace Go.Proofs.YtpogmmcfkdofhaaDoor
open Go.Eng
attribute [local irreducible] Hold
theorem awake22 : Does C 22 [] [.b true] := by
  have i64 : ∀ n : Int, 0 ≤ n → n ≤ 255 → I64 n := fun n h1 h2 => ⟨by omega, by omega⟩
  refine Does.mk (n := 36) Tryd.func22 rfl rfl rfl (Nat.le_of_ble_eq_true rfl) ?_
  have h1 := parseHex21 [48, 70] 20 (i64 _ (by decide) (by decide)) (by decide)
  have h2 := parseDec20 [50, 49] 20 (i64 _ (by decide) (by decide)) (by decide)
  have h3 := hex17 255 (i64 _ (by decide) (by decide))
  have h4 := dec16 10 (i64 _ (by decide) (by decide))
  have h5 := add25 10 [7, -3, 8] (i64 _ (by decide) (by decide)) (by decide)
  rw [p0F] at h1; rw [p21] at h2; rw [pff] at h3; rw [p10] at h4
  rw [show addF (max 10 0) [7, -3, 8] 0 = 10 by decide] at h5
  refine call_by h1 ?_
  refine call_by h2 ?_
  refine call_by h3 ?_
  refine cmp_yes rfl ?_
  refine call_by h4 ?_
  refine cmp_yes rfl ?_
  refine cmp_yes rfl ?_
  refine cmp_yes rfl ?_
  refine cmp_yes rfl ?_
  refine call_by h5 ?_
  refine cmp_yes rfl ?_
  exact rfl
end Go.Proofs.YtpogmmcfkdofhaaDoor
