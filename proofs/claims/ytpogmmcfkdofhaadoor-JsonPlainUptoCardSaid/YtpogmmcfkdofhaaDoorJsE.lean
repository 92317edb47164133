import Derived.Test.YtpogmmcfkdofhaaDoorJsD
namespace Go.Proofs.YtpogmmcfkdofhaaDoor
open Go.Eng
attribute [local irreducible] Hold

theorem short35 (l : List UInt8) (n : Nat) : Does C 35 [.sl 1 (encB l), .i .i64 (n : Int)] [.sl 1 (encB (l.take n))] := by
  refine Does.mk (n := 13) Tryd.func35 rfl rfl rfl (Nat.le_of_ble_eq_true rfl) ?_
  have hlen := encB_len l
  repeat refine seq_on ?_
  refine cmp_dec (fun h1 => ?_) (fun h1 => ?_)
  · repeat refine seq_on ?_
    refine bnd n rfl (by omega) ?_
    refine congrArg (fun x => [D.sl 1 x]) ?_
    simp [encB, List.map_take]
  · repeat refine seq_on ?_
    refine congrArg (fun x => [D.sl 1 x]) ?_
    rw [List.take_of_length_le (by omega)]

theorem within38 (x n : Int) (hn : 1 ≤ n ∧ n ≤ 4611686018427387904) : ∃ r : Nat, (r : Int) < n ∧ Does C 38 [.i .i64 x, .i .i64 n] [.i .i64 (r : Int)] := by
  have h1 : -n < x.tmod n := Int.lt_tmod_of_pos x (by omega)
  have h2 : x.tmod n < n := Int.tmod_lt_of_pos x (by omega)
  have h3 : 0 ≤ (x.tmod n + n).tmod n := Int.tmod_nonneg _ (by omega)
  have h4 : (x.tmod n + n).tmod n < n := Int.tmod_lt_of_pos _ (by omega)
  refine ⟨((x.tmod n + n).tmod n).toNat, by omega, ?_⟩
  rw [Int.toNat_of_nonneg h3]
  refine Does.mk (n := 12) Tryd.func38 rfl rfl rfl (Nat.le_of_ble_eq_true rfl) ?_
  refine div_ok (by omega) ?_
  refine ar ⟨by omega, by omega⟩ ?_
  refine div_ok (by omega) ?_
  exact rfl

theorem acc_le {base most : Int} (hb : 2 ≤ base) : ∀ (l : List UInt8) (n r : Int), 0 ≤ n → n ≤ most → acc base most l n = some r → 0 ≤ r ∧ r ≤ most
  | [], n, r, h0, h1, h => by simp only [acc, Option.some.injEq] at h; omega
  | c :: l, n, r, h0, h1, h => by
    have hd := dc_lo c
    simp only [acc] at h
    split at h
    · cases h
    · rename_i hn
      have hn1 : ¬ most < dc c := fun h => hn (.inl h)
      have hn2 : ¬ (most - dc c).tdiv base < n := fun h => hn (.inr h)
      have hm := div_mul hb (by omega) hn2
      have h0' : 0 ≤ n * base := Int.mul_nonneg h0 (by omega)
      exact acc_le hb l _ r (by omega) (by omega) h
theorem parse_le {base most : Int} {s : List UInt8} (hb : 2 ≤ base) (hm : 0 ≤ most) : 0 ≤ (parseF base most s).1 ∧ (parseF base most s).1 ≤ most := by
  unfold parseF
  split
  · exact ⟨Int.le_refl _, hm⟩
  · unfold parseR
    split
    · exact ⟨Int.le_refl _, hm⟩
    · rename_i r hr; exact acc_le hb s 0 r (Int.le_refl _) hm hr
end Go.Proofs.YtpogmmcfkdofhaaDoor
