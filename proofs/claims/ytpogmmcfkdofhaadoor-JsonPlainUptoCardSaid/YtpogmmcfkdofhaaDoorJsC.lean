import Derived.Test.YtpogmmcfkdofhaaDoorJsB
namespace Go.Proofs.YtpogmmcfkdofhaaDoor
open Go.Eng
attribute [local irreducible] Hold

theorem eq_u8 {c d : UInt8} : ((c.toNat : Int) = (d.toNat : Int)) ↔ c = d := by
  constructor
  · intro h; exact UInt8.toNat_inj.1 (by omega)
  · rintro rfl; rfl
theorem quo_esc {c : UInt8} (h : (c.toNat : Int) = 34 ∨ (c.toNat : Int) = 92) : quo c = [92, c] := by
  unfold quo; rw [if_pos]
  rcases h with h | h
  · exact .inl (UInt8.toNat_inj.1 (by show c.toNat = 34; omega))
  · exact .inr (UInt8.toNat_inj.1 (by show c.toNat = 92; omega))
theorem quo_not {c : UInt8} (h1 : ¬ (c.toNat : Int) = 34) (h2 : ¬ (c.toNat : Int) = 92) : ¬ (c = 34 ∨ c = 92) := by
  rintro (rfl | rfl)
  · exact h1 rfl
  · exact h2 rfl

set_option maxRecDepth 100000 in
theorem quoted63 (c : UInt8) : Does C 63 [.i .u8 (c.toNat : Int)] [.s (quo c)] := by
  refine Does.mk (n := 28) Tryd.func63 rfl rfl rfl (Nat.le_of_ble_eq_true rfl) ?_
  have hc := u8_lo c
  repeat refine seq_on ?_
  refine cmp_dec (fun h1 => ?_) (fun h1 => ?_)
  · repeat refine seq_on ?_
    refine bytes_is [92, c] rfl ?_
    rw [quo_esc (.inl h1)]; exact rfl
  · refine cmp_dec (fun h2 => ?_) (fun h2 => ?_)
    · repeat refine seq_on ?_
      refine bytes_is [92, c] rfl ?_
      rw [quo_esc (.inr h2)]; exact rfl
    · have hn := quo_not h1 h2
      repeat refine seq_on ?_
      have tail : ∀ h : ¬ (32 ≤ c.toNat ∧ c.toNat ≤ 126), quo c = [92, 117, 48, 48] ++ hexT [c] := by
        intro h; unfold quo; rw [if_neg hn, if_neg h]; rfl
      refine cmp_dec (fun h3 => ?_) (fun h3 => ?_)
      · refine cmp_dec (fun h4 => ?_) (fun h4 => ?_)
        · repeat refine seq_on ?_
          refine bytes_is [c] rfl ?_
          unfold quo; rw [if_neg hn, if_pos (by omega)]; exact rfl
        · repeat refine seq_on ?_
          rw [tail (by omega)]
          refine bytes_is [92] rfl ?_
          refine len_ok (by simp) ?_
          refine call_by (text85 [c] (by simp)) ?_
          refine len_ok (by simp [hexT_len]) ?_
          refine And.intro (draw_ok (by kernel_rfl)) ?_
          exact rfl
      · repeat refine seq_on ?_
        rw [tail (by omega)]
        refine bytes_is [92] rfl ?_
        refine len_ok (by simp) ?_
        refine call_by (text85 [c] (by simp)) ?_
        refine len_ok (by simp [hexT_len]) ?_
        refine And.intro (draw_ok (by kernel_rfl)) ?_
        exact rfl
end Go.Proofs.YtpogmmcfkdofhaaDoor
