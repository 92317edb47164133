import Derived.Test.YtpogmmcfkdofhaaDoorNumI
namespace Go.Proofs.YtpogmmcfkdofhaaDoor
open Go.Eng
attribute [local irreducible] Hold

/-! ### json.Number -/

def jnum (n : Int) : List UInt8 := if n < 0 then 45 :: digs 10 n.natAbs else digs 10 n.toNat

theorem tmod_neg (u : Nat) : (-(u : Int)).tmod 10 = -((u % 10 : Nat) : Int) := by
  rw [Int.neg_tmod]; rfl
theorem tdiv_neg (u : Nat) : (-(u : Int)).tdiv 10 = -((u / 10 : Nat) : Int) := by
  rw [Int.neg_tdiv]; rfl

theorem print_nat (b u : Nat) : printF b (u : Int) = digs b u := by
  unfold printF; rw [if_neg (by omega)]; rfl

theorem neg57 (u : Nat) (h1 : 1 ≤ u) (h : u ≤ 9223372036854775808) : Does C 57 [.i .i64 (-(u : Int))] [.s (digs 10 u)] := by
  refine Does.mk (n := 18) Tryd.func57 rfl rfl rfl (Nat.le_of_ble_eq_true rfl) ?_
  have e1 := tmod_neg u
  have e2 := tdiv_neg u
  have hr : u % 10 < 10 := Nat.mod_lt _ (by decide)
  refine div_ok (by decide) ?_
  refine ar_is ((u % 10 : Nat) : Int) ?_ ?_
  · rw [e1]; exact (wrap_id64 (by omega) (by omega)).trans (by omega)
  refine call_by (dec16 ((u % 10 : Nat) : Int) ⟨by omega, by omega⟩) ?_
  rw [print_nat, digs_one hr]
  repeat refine seq_on ?_
  refine div_ok (by decide) ?_
  refine ar_is (-((u / 10 : Nat) : Int)) ?_ ?_
  · rw [e2]; exact wrap_id64 (by omega) (by omega)
  refine cmp_dec (fun h2 => ?_) (fun h2 => ?_)
  · repeat refine seq_on ?_
    refine congrArg (fun x => [D.s x]) ?_
    have : u < 10 := by omega
    rw [digs_one this, Nat.mod_eq_of_lt this]
  · repeat refine seq_on ?_
    refine div_ok (by decide) ?_
    refine ar_is (-((u / 10 : Nat) : Int)) ?_ ?_
    · rw [e2]; exact wrap_id64 (by omega) (by omega)
    refine ar_is ((u / 10 : Nat) : Int) ?_ ?_
    · exact (wrap_id64 (by omega) (by omega)).trans (by omega)
    refine call_by (dec16 ((u / 10 : Nat) : Int) ⟨by omega, by omega⟩) ?_
    rw [print_nat]
    have hl := digs_len 10 (by omega) (u / 10)
    refine len_ok (by simp only [List.length_cons, List.length_nil]; omega) ?_
    refine congrArg (fun x => [D.s x]) ?_
    rw [digs_more (u := u) (by omega) (by omega)]

theorem jnum_pos {n : Int} (h : ¬ n < 0) : jnum n = printF 10 n := by unfold jnum printF; rw [if_neg h, if_neg h]
theorem jnum_neg {u : Nat} (h : 1 ≤ u) : jnum (-(u : Int)) = 45 :: digs 10 u := by
  unfold jnum; rw [if_pos (by omega)]; simp

theorem num28 (n : Int) (h : I64 n) : Does C 28 [.i .i64 n] [.s (jnum n)] := by
  have hn := h.1
  refine Does.mk (n := 10) Tryd.func28 rfl rfl rfl (Nat.le_of_ble_eq_true rfl) ?_
  repeat refine seq_on ?_
  refine cmp_dec (fun h1 => ?_) (fun h1 => ?_)
  · obtain ⟨u, rfl, hu⟩ : ∃ u : Nat, n = -(u : Int) ∧ 1 ≤ u := ⟨n.natAbs, by omega, by omega⟩
    repeat refine seq_on ?_
    refine call_by (neg57 u hu (by omega)) ?_
    have hl := digs_len 10 (by omega) u
    refine len_ok (by simp only [List.length_cons, List.length_nil]; omega) ?_
    rw [jnum_neg hu]; exact rfl
  · repeat refine seq_on ?_
    refine call_by (dec16 n h) ?_
    rw [jnum_pos h1]; exact rfl

theorem num29 (n : Int) (h : I64 n) : Does C 29 [.i .i64 n] [.s (jnum n)] := by
  have hn := h.1
  refine Does.mk (n := 23) Tryd.func29 rfl rfl rfl (Nat.le_of_ble_eq_true rfl) ?_
  repeat refine seq_on ?_
  refine cmp_dec (fun h1 => ?_) (fun h1 => ?_)
  · repeat refine seq_on ?_
    refine call_by (dec18 n h) ?_
    rw [jnum_pos (by omega)]; exact rfl
  · obtain ⟨u, rfl, hu⟩ : ∃ u : Nat, n = -(u : Int) ∧ 1 ≤ u := ⟨n.natAbs, by omega, by omega⟩
    have e1 := tmod_neg u
    have e2 := tdiv_neg u
    have hr : u % 10 < 10 := Nat.mod_lt _ (by decide)
    rw [jnum_neg hu]
    repeat refine seq_on ?_
    refine div_ok (by decide) ?_
    refine ar_is ((u % 10 : Nat) : Int) ?_ ?_
    · rw [e1]; exact (wrap_id64 (by omega) (by omega)).trans (by omega)
    refine call_by (dec18 ((u % 10 : Nat) : Int) ⟨by omega, by omega⟩) ?_
    rw [print_nat, digs_one hr]
    repeat refine seq_on ?_
    refine cmp_dec (fun h2 => ?_) (fun h2 => ?_)
    · repeat refine seq_on ?_
      refine len_ok (by simp only [List.length_cons, List.length_nil]; omega) ?_
      have : u < 10 := by omega
      rw [digs_one this, Nat.mod_eq_of_lt this]; exact rfl
    · repeat refine seq_on ?_
      refine div_ok (by decide) ?_
      refine ar_is (-((u / 10 : Nat) : Int)) ?_ ?_
      · rw [e2]; exact wrap_id64 (by omega) (by omega)
      refine ar_is ((u / 10 : Nat) : Int) ?_ ?_
      · exact (wrap_id64 (by omega) (by omega)).trans (by omega)
      refine call_by (dec18 ((u / 10 : Nat) : Int) ⟨by omega, by omega⟩) ?_
      rw [print_nat]
      have hl := digs_len 10 (by omega) (u / 10)
      refine len_ok (by simp only [List.length_cons, List.length_nil]; omega) ?_
      refine len_ok (by simp only [List.length_append, List.length_cons, List.length_nil]; omega) ?_
      rw [digs_more (u := u) (by omega) (by omega)]; exact rfl

/-! ### One byte, quoted -/

def quo (c : UInt8) : List UInt8 :=
  if c = 34 ∨ c = 92 then [92, c] else if 32 ≤ c.toNat ∧ c.toNat ≤ 126 then [c] else [92, 117, 48, 48, hexd (c.toNat / 16), hexd (c.toNat % 16)]
end Go.Proofs.YtpogmmcfkdofhaaDoor
