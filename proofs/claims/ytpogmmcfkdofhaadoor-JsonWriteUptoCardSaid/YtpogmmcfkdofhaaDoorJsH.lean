import Derived.Test.YtpogmmcfkdofhaaDoorJsG
namespace Go.Proofs.YtpogmmcfkdofhaaDoor
open Go.Eng
attribute [local irreducible] Hold

theorem quo_spec (c : UInt8) (h : c = 34 ∨ c = 92) : quo c = [92, c] := by unfold quo; rw [if_pos h]
theorem quo_plain (c : UInt8) (h : ¬ (c = 34 ∨ c = 92)) (h1 : 32 ≤ c.toNat ∧ c.toNat ≤ 126) : quo c = [c] := by unfold quo; rw [if_neg h, if_pos h1]
theorem quo_hex (c : UInt8) (h : ¬ (c = 34 ∨ c = 92)) (h1 : ¬ (32 ≤ c.toNat ∧ c.toNat ≤ 126)) : quo c = [92, 117, 48, 48, hexd (c.toNat / 16), hexd (c.toNat % 16)] := by unfold quo; rw [if_neg h, if_neg h1]
theorem u8_eq {c : UInt8} {n : Nat} (h : (c.toNat : Int) = (n : Int)) : c = UInt8.ofNat n := by
  have : c.toNat = n := by omega
  rw [← this]; simp

def f34s (s : List UInt8) (i : Nat) : AS := ⟨[(0, .d (.s s)), (3, .op 16 0 0), (4, .fn (.func 60) [] [.op 16 0 0]), (10, .d (.i .i64 (s.length : Int))), (11, .d (.i .i64 (i : Int)))],
  [(16, some (.box [.os 32])), (32, some (.buf 1 (encB (34 :: quos (s.take i)))))], 50⟩

theorem f34_row {s : List UInt8} {i : Nat} {t : List UInt8} (h : i < s.length) (ht : quo (s.getD i 0) = t) : encB (34 :: quos (s.take i) ++ t) = encB (34 :: quos (s.take (i + 1))) := by
  rw [take_snoc h, quos_snoc, ht]; rfl

theorem quote34 (s : List UInt8) (h : s.length ≤ 1099511627) : Does C 34 [.s s] [.s (quoteF s)] := by
  refine Does.mk (n := 58) Tryd.func34 rfl rfl rfl (Nat.le_of_ble_eq_true rfl) ?_
  repeat refine seq_on ?_
  refine loop_inv (fun i => i ≤ s.length) (f34s s) (fun i => s.length - i) 0 (Nat.zero_le _) [(16, 48)] ?_ ?_
  · ((repeat' constructor) <;> refine hold ?_ <;> first | with_reducible rfl | (congr 1 <;> omega) | (congr 1 <;> simp; done) | (simp; done) | exact encB_snoc _ _ | skip)
  intro i hi
  repeat refine seq_on ?_
  have hl := quos_len (s.take i)
  have ht : (s.take i).length = i := by rw [List.length_take]; omega
  refine cmp_dec (fun h1 => ?_) (fun h1 => ?_)
  · repeat refine seq_on ?_
    have hi' : i < s.length := by omega
    have hc := u8_lo (s.getD i 0)
    have hq := quo_len (s.getD i 0)
    refine Eng.get_at i rfl (get_d 0 hi') ?_
    refine cmp_dec (fun h2 => ?_) (fun h2 => ?_)
    · apply callh [(0, _), (1, _)] (put60 (34 :: quos (s.take i)) [92, s.getD i 0] (by simp only [List.length_cons, List.length_nil]; omega))
      · ((repeat' constructor) <;> refine hold ?_ <;> first | with_reducible rfl | (congr 1 <;> omega) | (congr 1 <;> simp; done) | (simp; done) | exact encB_snoc _ _ | skip)
      refine ar ⟨by omega, by omega⟩ ?_
      apply again (i + 1) [(32, _)] (by omega) (by omega)
      ((repeat' constructor) <;> refine hold ?_ <;> first | with_reducible rfl | (congr 1 <;> omega) | (congr 1 <;> simp; done) | (simp; done) | exact encB_snoc _ _ | skip)
      exact f34_row hi' (quo_spec _ (.inl (u8_eq h2)))
    refine cmp_dec (fun h3 => ?_) (fun h3 => ?_)
    · apply callh [(0, _), (1, _)] (put60 (34 :: quos (s.take i)) [92, s.getD i 0] (by simp only [List.length_cons, List.length_nil]; omega))
      · ((repeat' constructor) <;> refine hold ?_ <;> first | with_reducible rfl | (congr 1 <;> omega) | (congr 1 <;> simp; done) | (simp; done) | exact encB_snoc _ _ | skip)
      refine ar ⟨by omega, by omega⟩ ?_
      apply again (i + 1) [(32, _)] (by omega) (by omega)
      ((repeat' constructor) <;> refine hold ?_ <;> first | with_reducible rfl | (congr 1 <;> omega) | (congr 1 <;> simp; done) | (simp; done) | exact encB_snoc _ _ | skip)
      exact f34_row hi' (quo_spec _ (.inr (u8_eq h3)))
    have hne : ¬ (s.getD i 0 = 34 ∨ s.getD i 0 = 92) := by
      rintro (h | h)
      · exact h2 (by rw [h]; rfl)
      · exact h3 (by rw [h]; rfl)
    have hexc : ¬ (32 ≤ (s.getD i 0).toNat ∧ (s.getD i 0).toNat ≤ 126) → encB (34 :: quos (s.take i) ++ ([92, 117, 48, 48] ++ printF 16 (((s.getD i 0).toNat / 16 : Nat) : Int) ++ printF 16 (((s.getD i 0).toNat % 16 : Nat) : Int))) = encB (34 :: quos (s.take (i + 1))) := by
      intro h
      refine f34_row hi' ?_
      rw [quo_hex _ hne h, print_nat, print_nat, digs_one (by omega), digs_one (by omega)]; rfl
    have hx1 : ∀ k : Nat, k < 16 → (printF 16 (k : Int)).length = 1 := by intro k hk; rw [print_nat, digs_one hk]; rfl
    have hA := hx1 ((s.getD i 0).toNat / 16) (by omega)
    have hB := hx1 ((s.getD i 0).toNat % 16) (by omega)
    have htd : ((s.getD i 0).toNat : Int).tdiv 16 = (((s.getD i 0).toNat / 16 : Nat) : Int) := rfl
    have htm : ((s.getD i 0).toNat : Int).tmod 16 = (((s.getD i 0).toNat % 16 : Nat) : Int) := rfl
    refine cmp_dec (fun h4 => ?_) (fun h4 => ?_)
    · refine cmp_dec (fun h5 => ?_) (fun h5 => ?_)
      · apply callh [(0, _), (1, _)] (put60 (34 :: quos (s.take i)) [s.getD i 0] (by simp only [List.length_cons, List.length_nil]; omega))
        · ((repeat' constructor) <;> refine hold ?_ <;> first | with_reducible rfl | (congr 1 <;> omega) | (congr 1 <;> simp; done) | (simp; done) | exact encB_snoc _ _ | skip)
        refine ar ⟨by omega, by omega⟩ ?_
        apply again (i + 1) [(32, _)] (by omega) (by omega)
        ((repeat' constructor) <;> refine hold ?_ <;> first | with_reducible rfl | (congr 1 <;> omega) | (congr 1 <;> simp; done) | (simp; done) | exact encB_snoc _ _ | skip)
        exact f34_row hi' (quo_plain _ hne (by omega))
      · refine ar ⟨by omega, by omega⟩ ?_
        refine div_ok (by decide) ?_
        refine ar_is (((s.getD i 0).toNat / 16 : Nat) : Int) (wrap_id64 (by omega) (by omega)) ?_
        refine call_by (hex17 _ ⟨by omega, by omega⟩) ?_
        refine len_ok (by simp only [List.length_cons, List.length_nil, hA]; omega) ?_
        refine ar ⟨by omega, by omega⟩ ?_
        refine div_ok (by decide) ?_
        refine call_by (hex17 (((s.getD i 0).toNat % 16 : Nat) : Int) ⟨by omega, by omega⟩) ?_
        refine len_ok (by simp only [List.length_append, List.length_cons, List.length_nil, hA, hB]; omega) ?_
        apply callh [(0, _), (1, _)] (put60 (34 :: quos (s.take i)) ([92, 117, 48, 48] ++ printF 16 (((s.getD i 0).toNat / 16 : Nat) : Int) ++ printF 16 (((s.getD i 0).toNat % 16 : Nat) : Int)) (by simp only [List.length_append, List.length_cons, List.length_nil, hA, hB]; omega))
        · ((repeat' constructor) <;> refine hold ?_ <;> first | with_reducible rfl | (congr 1 <;> omega) | (congr 1 <;> simp; done) | (simp; done) | exact encB_snoc _ _ | skip)
        refine ar ⟨by omega, by omega⟩ ?_
        apply again (i + 1) [(32, _)] (by omega) (by omega)
        ((repeat' constructor) <;> refine hold ?_ <;> first | with_reducible rfl | (congr 1 <;> omega) | (congr 1 <;> simp; done) | (simp; done) | exact encB_snoc _ _ | skip)
        exact hexc (by omega)
    · refine ar ⟨by omega, by omega⟩ ?_
      refine div_ok (by decide) ?_
      refine ar_is (((s.getD i 0).toNat / 16 : Nat) : Int) (wrap_id64 (by omega) (by omega)) ?_
      refine call_by (hex17 _ ⟨by omega, by omega⟩) ?_
      refine len_ok (by simp only [List.length_cons, List.length_nil, hA]; omega) ?_
      refine ar ⟨by omega, by omega⟩ ?_
      refine div_ok (by decide) ?_
      refine call_by (hex17 (((s.getD i 0).toNat % 16 : Nat) : Int) ⟨by omega, by omega⟩) ?_
      refine len_ok (by simp only [List.length_append, List.length_cons, List.length_nil, hA, hB]; omega) ?_
      apply callh [(0, _), (1, _)] (put60 (34 :: quos (s.take i)) ([92, 117, 48, 48] ++ printF 16 (((s.getD i 0).toNat / 16 : Nat) : Int) ++ printF 16 (((s.getD i 0).toNat % 16 : Nat) : Int)) (by simp only [List.length_append, List.length_cons, List.length_nil, hA, hB]; omega))
      · ((repeat' constructor) <;> refine hold ?_ <;> first | with_reducible rfl | (congr 1 <;> omega) | (congr 1 <;> simp; done) | (simp; done) | exact encB_snoc _ _ | skip)
      refine ar ⟨by omega, by omega⟩ ?_
      apply again (i + 1) [(32, _)] (by omega) (by omega)
      ((repeat' constructor) <;> refine hold ?_ <;> first | with_reducible rfl | (congr 1 <;> omega) | (congr 1 <;> simp; done) | (simp; done) | exact encB_snoc _ _ | skip)
      exact hexc (by omega)
  · repeat refine seq_on ?_
    apply callh [(0, _), (1, _)] (put60 (34 :: quos (s.take i)) [34] (by simp only [List.length_cons, List.length_nil]; omega))
    · ((repeat' constructor) <;> refine hold ?_ <;> first | with_reducible rfl | (congr 1 <;> omega) | (congr 1 <;> simp; done) | (simp; done) | exact encB_snoc _ _ | skip)
    have hle : i = s.length := by omega
    subst hle
    refine bytes_is (34 :: quos s ++ [34]) (by rw [List.take_of_length_le (Nat.le_refl _)]) ?_
    exact rfl
end Go.Proofs.YtpogmmcfkdofhaaDoor
