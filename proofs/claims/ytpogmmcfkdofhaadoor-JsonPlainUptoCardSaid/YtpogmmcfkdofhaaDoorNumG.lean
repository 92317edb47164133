import Derived.Test.YtpogmmcfkdofhaaDoorNumF
namespace Go.Proofs.YtpogmmcfkdofhaaDoor
open Go.Eng
attribute [local irreducible] Hold

theorem dc_hex_fin : ∀ r : Fin 16, dc (hexd r.val) = (r.val : Int) := by decide +kernel
theorem dc_hex {r : Nat} (h : r < 16) : dc (hexd r) = (r : Int) := dc_hex_fin ⟨r, h⟩

theorem acc_append (b most : Int) (l r : List UInt8) (m : Int) : acc b most (l ++ r) m = (acc b most l m).bind fun x => acc b most r x := by
  induction l generalizing m with
  | nil => rfl
  | cons c l ih =>
    simp only [List.cons_append, acc]
    split
    · rfl
    · exact ih _

theorem acc_digs (b : Nat) (hb : 2 ≤ b ∧ b ≤ 16) (most : Int) (hm : 0 ≤ most) (u : Nat) : acc b most (digs b u) 0 = if (u : Int) ≤ most then some (u : Int) else none := by
  have one : ∀ (r : Nat) (q : Int), r < b → 0 ≤ q → q ≤ most → acc b most [hexd r] q = if q * b + r ≤ most then some (q * b + r) else none := by
    intro r q hr hq hqm
    have hd := dc_hex (r := r) (by omega)
    simp only [acc, hd]
    by_cases h1 : most < r
    · have : 0 ≤ q * b := Int.mul_nonneg hq (by omega)
      rw [if_pos (.inl h1), if_neg (by omega)]
    · have ht : (most - r).tdiv b = (most - r) / b := Int.tdiv_eq_ediv_of_nonneg (by omega)
      have hle : q ≤ (most - r) / b ↔ q * b ≤ most - r := Int.le_ediv_iff_mul_le (by omega)
      rw [ht]
      by_cases h2 : q * b + r ≤ most
      · rw [if_pos h2, if_neg]
        rintro (h | h)
        · exact h1 h
        · have := hle.2 (by omega); omega
      · rw [if_neg h2, if_pos]
        right
        rcases Int.lt_or_le ((most - r) / b) q with h | h
        · exact h
        · have := hle.1 h; omega
  induction u using Nat.strongRecOn with
  | _ u ih =>
    by_cases h : u < b
    · rw [digs_one h, one u 0 h (Int.le_refl _) hm]; simp
    · rw [digs_more hb.1 h, acc_append, ih (u / b) (Nat.div_lt_self (by omega) (by omega))]
      have hu : (u : Int) = (u / b : Nat) * b + (u % b : Nat) := by
        have := Nat.div_add_mod u b
        rw [Nat.mul_comm] at this
        have := congrArg (Nat.cast (R := Int)) this
        rw [← this]; simp
      have hq0 : 0 ≤ ((u / b : Nat) : Int) := Int.natCast_nonneg _
      by_cases hq : ((u / b : Nat) : Int) ≤ most
      · rw [if_pos hq]
        show acc b most [hexd (u % b)] ((u / b : Nat) : Int) = _
        rw [one (u % b) _ (Nat.mod_lt _ (by omega)) hq0 hq, ← hu]
      · rw [if_neg hq]
        have : ((u / b : Nat) : Int) ≤ u := by
          have := Nat.div_le_self u b
          omega
        rw [if_neg (by omega)]; rfl

theorem digs_ok (b : Nat) (hb : 2 ≤ b ∧ b ≤ 16) (u : Nat) : (∀ c, c ∈ digs b u → dc c < b) ∧ digs b u ≠ [] := by
  induction u using Nat.strongRecOn with
  | _ u ih =>
    by_cases h : u < b
    · rw [digs_one h]
      refine ⟨fun c hc => ?_, by simp⟩
      rw [List.mem_singleton.1 hc, dc_hex (by omega)]; omega
    · rw [digs_more hb.1 h]
      have hr := Nat.mod_lt u (show b > 0 by omega)
      refine ⟨fun c hc => ?_, by simp⟩
      rcases List.mem_append.1 hc with hc | hc
      · exact (ih (u / b) (Nat.div_lt_self (by omega) (by omega))).1 c hc
      · rw [List.mem_singleton.1 hc, dc_hex (by omega)]; omega

theorem parse_digs (b : Nat) (hb : 2 ≤ b ∧ b ≤ 16) (most : Int) (hm : 0 ≤ most) (u : Nat) : parseF b most (digs b u) = if (u : Int) ≤ most then ((u : Int), 0) else (0, 3) := by
  obtain ⟨h1, h2⟩ := digs_ok b hb u
  rw [parseF_ok (by rintro ⟨c, hc, hd⟩; have := h1 c hc; omega) h2, acc_digs b hb most hm u]
  split <;> rfl

theorem parse_zeros (b : Nat) (hb : 2 ≤ b ∧ b ≤ 16) (most : Int) (hm : 0 ≤ most) (u : Nat) : parseF b most (48 :: 48 :: digs b u) = if (u : Int) ≤ most then ((u : Int), 0) else (0, 3) := by
  obtain ⟨h1, h2⟩ := digs_ok b hb u
  have h48 : dc 48 = 0 := by decide +kernel
  rw [parseF_ok (by
    rintro ⟨c, hc, hd⟩
    rcases List.mem_cons.1 hc with rfl | hc
    · omega
    · rcases List.mem_cons.1 hc with rfl | hc
      · omega
      · have := h1 c hc; omega) (by simp)]
  have hz : ∀ l, acc b most (48 :: l) 0 = acc b most l 0 := by
    intro l
    simp only [acc, h48]
    have : 0 ≤ (most - 0).tdiv b := (tdiv_lo (by omega) (by omega)).1
    rw [if_neg (by omega)]; simp
  rw [hz, hz, acc_digs b hb most hm u]
  split <;> rfl

/-! ### The law's own look -/

theorem p0F : parseF 16 20 [48, 70] = (15, 0) := by
  rw [parseF_ok _ (by simp)]
  · decide +kernel
  · rintro ⟨c, hc, hd⟩
    simp at hc
    rcases hc with rfl | rfl <;> revert hd <;> decide +kernel
theorem p21 : parseF 10 20 [50, 49] = (0, 3) := by
  rw [parseF_ok _ (by simp)]
  · decide +kernel
  · rintro ⟨c, hc, hd⟩
    simp at hc
    rcases hc with rfl | rfl <;> revert hd <;> decide +kernel
theorem pff : printF 16 255 = [102, 102] := by
  show digs 16 255 = _
  rw [digs_more (by omega) (by omega), digs_one (by omega)]; decide +kernel
theorem p10 : printF 10 10 = [49, 48] := by
  show digs 10 10 = _
  rw [digs_more (by omega) (by omega), digs_one (by omega)]; decide +kernel

end Go.Proofs.YtpogmmcfkdofhaaDoor
