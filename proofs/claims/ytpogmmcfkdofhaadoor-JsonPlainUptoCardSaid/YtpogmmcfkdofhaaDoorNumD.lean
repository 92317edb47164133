import Derived.Test.YtpogmmcfkdofhaaDoorNumC
namespace Go.Proofs.YtpogmmcfkdofhaaDoor
open Go.Eng
attribute [local irreducible] Hold Does

def p56a (s : List UInt8) (base most : Int) (i : Nat) : AS :=
  ⟨[(0, .d (.s s)), (2, .d (.i .i64 base)), (1, .d (.i .i64 most)), (8, .d (.i .i64 i))], [], 1⟩
def p56b (s : List UInt8) (base most : Int) : Nat × Int → AS
  | (i, n) => ⟨[(0, .d (.s s)), (2, .d (.i .i64 base)), (1, .d (.i .i64 most)), (9, .d (.i .i64 n)), (10, .d (.i .i64 i))], [], 1⟩

theorem parse56 (s : List UInt8) (base most : Int) (hb : 2 ≤ base ∧ base ≤ 16) (hm : I64 most) (hs : s.length ≤ 9223372036854775807) :
    Does C 56 [.s s, .i .i64 most, .i .i64 base] (pres (parseF base most s)) := by
  have hmm := hm.2
  refine Does.mk (n := 55) Tryd.func56 rfl rfl rfl (Nat.le_of_ble_eq_true rfl) ?_
  repeat refine seq_on ?_
  refine cmp_dec (fun h1 => ?_) (fun h1 => ?_)
  · show pres (0, 2) = pres (parseF base most s)
    rw [parseF_bad (.inr h1)]
  refine seq_inv (fun _ : Unit => ¬ bad base s) (fun _ => ⟨[(0, .d (.s s)), (2, .d (.i .i64 base)), (1, .d (.i .i64 most))], [], 1⟩) ?_ ?_
  · repeat refine seq_on ?_
    refine loop_inv (pia s base) (p56a s base most) (fun i => s.length - i) 0 ⟨Nat.zero_le _, Iff.rfl⟩ [] ?_ ?_
    · ((repeat' constructor) <;> refine hold ?_ <;> first | with_reducible rfl | (congr 1 <;> omega) | (congr 1 <;> simp; done) | (simp; done) | exact encB_snoc _ _ | skip)
    rintro i ⟨hi, hf⟩
    repeat refine seq_on ?_
    refine cmp_dec (fun h1 => ?_) (fun h1 => ?_)
    · repeat refine seq_on ?_
      have hi' : i < s.length := by omega
      rw [drop_at 0 hi', bad_cons] at hf
      refine get_at i rfl (get_d 0 hi') ?_
      refine call_by (digit81 _ base (u8_lo _) hb) ?_
      have hd := dc_lo (s.getD i 0)
      refine cmp_dec (fun h2 => ?_) (fun h2 => ?_)
      · show pres (0, 2) = pres (parseF base most s)
        have : base ≤ dc (s.getD i 0) := by
          unfold dc at *
          split at h2 <;> omega
        rw [parseF_bad (.inl (hf.1 (.inl this)))]
      · repeat refine seq_on ?_
        have : ¬ base ≤ dc (s.getD i 0) := by
          intro h3
          have h4 : base ≤ dg ((s.getD i 0).toNat : Int) := h3
          rw [if_pos h4] at h2; omega
        refine ar ⟨by omega, by omega⟩ ?_
        refine again (i + 1) [] ⟨by omega, ?_⟩ (by omega) ?_
        · rw [← hf]; exact ⟨.inr, fun h => h.resolve_left this⟩
        · ((repeat' constructor) <;> refine hold ?_ <;> first | with_reducible rfl | (congr 1 <;> omega) | (congr 1 <;> simp; done) | (simp; done) | exact encB_snoc _ _ | skip)
    · repeat refine seq_on ?_
      refine cut_inv () [] ?_ ?_
      · rw [List.drop_eq_nil_of_le (by omega)] at hf
        exact fun h => bad_nil (hf.2 h)
      · ((repeat' constructor) <;> refine hold ?_ <;> first | with_reducible rfl | (congr 1 <;> omega) | (congr 1 <;> simp; done) | (simp; done) | exact encB_snoc _ _ | skip)
  rintro _ hnb
  rw [parseF_ok hnb h1]
  repeat refine seq_on ?_
  refine loop_inv (fun y => pib s base most y) (p56b s base most) (fun y => s.length - y.1) (0, 0) ⟨Nat.zero_le _, Int.le_refl _, rfl⟩ [] ?_ ?_
  · ((repeat' constructor) <;> refine hold ?_ <;> first | with_reducible rfl | (congr 1 <;> omega) | (congr 1 <;> simp; done) | (simp; done) | exact encB_snoc _ _ | skip)
  rintro ⟨i, n⟩ ⟨hi, h0, hf⟩
  repeat refine seq_on ?_
  refine cmp_dec (fun h2 => ?_) (fun h2 => ?_)
  · repeat refine seq_on ?_
    have hi' : i < s.length := by omega
    rw [drop_at 0 hi'] at hf
    have hd := dc_lo (s.getD i 0)
    have hdb : ¬ base ≤ dg ((s.getD i 0).toNat : Int) := fun h => hnb ⟨s.getD i 0, List.mem_of_getElem? (get_d 0 hi'), h⟩
    refine get_at i rfl (get_d 0 hi') ?_
    refine call_by (digit81 _ base (u8_lo _) hb) ?_
    rw [if_neg hdb]
    repeat refine seq_on ?_
    refine cmp_dec (fun h3 => ?_) (fun h3 => ?_)
    · repeat refine seq_on ?_
      show pres (0, 3) = pres _
      rw [← hf, acc_none (.inl h3)]; rfl
    have h3' : ¬ most < dc (s.getD i 0) := h3
    have hq := tdiv_lo hb.1 (a := most - dc (s.getD i 0)) (by omega)
    refine ar (e := most - dc (s.getD i 0)) ⟨by omega, by omega⟩ ?_
    refine div_ok (by omega) ?_
    refine ar (e := (most - dc (s.getD i 0)).tdiv base) ⟨by omega, by omega⟩ ?_
    repeat refine seq_on ?_
    refine cmp_dec (fun h4 => ?_) (fun h4 => ?_)
    · repeat refine seq_on ?_
      show pres (0, 3) = pres _
      rw [← hf, acc_none (.inr h4)]; rfl
    have hmul := div_mul hb.1 (by omega) h4
    have hmul0 : 0 ≤ n * base := Int.mul_nonneg h0 (by omega)
    repeat refine seq_on ?_
    refine ar (e := n * base) ⟨by omega, by omega⟩ ?_
    refine ar (e := n * base + dc (s.getD i 0)) ⟨by omega, by omega⟩ ?_
    refine ar (e := (i : Int) + 1) ⟨by omega, by omega⟩ ?_
    refine again (i + 1, n * base + dc (s.getD i 0)) [] ⟨by omega, by omega, ?_⟩ (by show s.length - (i + 1) < s.length - i; omega) ?_
    · rw [← hf, acc_some h3' h4]
    · ((repeat' constructor) <;> refine hold ?_ <;> first | with_reducible rfl | (congr 1 <;> omega) | (congr 1 <;> simp; done) | (simp; done) | exact encB_snoc _ _ | skip)
  · repeat refine seq_on ?_
    show pres (n, 0) = pres _
    rw [← hf, List.drop_eq_nil_of_le (by omega)]; rfl

theorem parseDec20 (s : List UInt8) (most : Int) (hm : I64 most) (hs : s.length ≤ 9223372036854775807) : Does C 20 [.s s, .i .i64 most] (pres (parseF 10 most s)) := by
  refine Does.mk (n := 11) Tryd.func20 rfl rfl rfl (Nat.le_of_ble_eq_true rfl) ?_
  refine call_by (parse55 s 10 most (by omega) hm hs) ?_
  exact rfl
theorem parseHex21 (s : List UInt8) (most : Int) (hm : I64 most) (hs : s.length ≤ 9223372036854775807) : Does C 21 [.s s, .i .i64 most] (pres (parseF 16 most s)) := by
  refine Does.mk (n := 11) Tryd.func21 rfl rfl rfl (Nat.le_of_ble_eq_true rfl) ?_
  refine call_by (parse55 s 16 most (by omega) hm hs) ?_
  exact rfl
theorem parseDec23 (s : List UInt8) (most : Int) (hm : I64 most) (hs : s.length ≤ 9223372036854775807) : Does C 23 [.s s, .i .i64 most] (pres (parseF 10 most s)) := by
  refine Does.mk (n := 11) Tryd.func23 rfl rfl rfl (Nat.le_of_ble_eq_true rfl) ?_
  refine call_by (parse56 s 10 most (by omega) hm hs) ?_
  exact rfl
theorem parseHex24 (s : List UInt8) (most : Int) (hm : I64 most) (hs : s.length ≤ 9223372036854775807) : Does C 24 [.s s, .i .i64 most] (pres (parseF 16 most s)) := by
  refine Does.mk (n := 11) Tryd.func24 rfl rfl rfl (Nat.le_of_ble_eq_true rfl) ?_
  refine call_by (parse56 s 16 most (by omega) hm hs) ?_
  exact rfl
end Go.Proofs.YtpogmmcfkdofhaaDoor
