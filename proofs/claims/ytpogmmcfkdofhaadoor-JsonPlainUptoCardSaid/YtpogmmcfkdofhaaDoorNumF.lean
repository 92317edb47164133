import Derived.Test.YtpogmmcfkdofhaaDoorNumE
namespace Go.Proofs.YtpogmmcfkdofhaaDoor
open Go.Eng
attribute [local irreducible] Hold

theorem pow103 : Does C 103 [.i .i64 16] [.b true] := by
  refine Does.mk (n := 8) Tryd.func103 rfl rfl rfl (Nat.le_of_ble_eq_true rfl) ?_
  refine ar_is 15 (by decide) ?_
  refine cmp_yes (by decide +kernel) ?_
  exact rfl

set_option maxRecDepth 100000 in
theorem tz106 : Does C 106 [.i .u64 16] [.i .i64 4] := by
  refine Does.mk (n := 14) Tryd.func106 rfl rfl rfl (Nat.le_of_ble_eq_true rfl) ?_
  repeat refine seq_on ?_
  refine cmp_no (by decide) ?_
  repeat refine seq_on ?_
  refine ar_is 18446744073709551600 (by decide +kernel) ?_
  refine ar_is 4573923408821661840 (by decide +kernel) ?_
  refine And.intro (by decide) ?_
  refine Eng.get_at 15 (by decide +kernel) rfl ?_
  refine ar_is 4 (by decide +kernel) ?_
  exact rfl

theorem tz104 : Does C 104 [.i .u64 16] [.i .i64 4] := by
  refine Does.mk (n := 8) Tryd.func104 rfl rfl rfl (Nat.le_of_ble_eq_true rfl) ?_
  repeat refine seq_on ?_
  refine call_by tz106 ?_
  exact rfl

theorem hex36_fin : ∀ r : Fin 16, (ByteArray.mk #[48, 49, 50, 51, 52, 53, 54, 55, 56, 57, 97, 98, 99, 100, 101, 102, 103, 104, 105, 106, 107, 108, 109, 110, 111, 112, 113, 114, 115, 116, 117, 118, 119, 120, 121, 122]).data.toList[r.val]? = some (hexd r.val) := by decide +kernel
theorem hex36 {r : Nat} (h : r < 16) : (ByteArray.mk #[48, 49, 50, 51, 52, 53, 54, 55, 56, 57, 97, 98, 99, 100, 101, 102, 103, 104, 105, 106, 107, 108, 109, 110, 111, 112, 113, 114, 115, 116, 117, 118, 119, 120, 121, 122]).data.toList[r]? = some (hexd r) := hex36_fin ⟨r, h⟩

theorem and_u64 {x n : Nat} (h : x < 18446744073709551616) (hn : n ≤ 63) : bitsOp .and .u64 (x : Int) ((2 ^ n - 1 : Nat) : Int) = ((x % 2 ^ n : Nat) : Int) := by
  have hlt : 2 ^ n ≤ 2 ^ 63 := Nat.pow_le_pow_right (by omega) hn
  have hm : x % 2 ^ n < 2 ^ n := Nat.mod_lt _ (Nat.two_pow_pos n)
  have : (BitVec.ofNat 64 x &&& BitVec.ofNat 64 (2 ^ n - 1)).toNat = x % 2 ^ n := by
    rw [BitVec.toNat_and, BitVec.toNat_ofNat, BitVec.toNat_ofNat, Nat.mod_eq_of_lt (by omega), Nat.mod_eq_of_lt (by omega), Nat.and_two_pow_sub_one_eq_mod]
  show IntKind.u64.wrap (((BitVec.ofInt 64 (x : Int) &&& BitVec.ofInt 64 ((2 ^ n - 1 : Nat) : Int)).toNat : Nat) : Int) = _
  rw [BitVec.ofInt_natCast, BitVec.ofInt_natCast, this]
  exact wrap_u64 (by omega) (by omega)

theorem drop_set {β : Type} {xs : List β} {i : Nat} {d : β} (h : 1 ≤ i) (hi : i ≤ xs.length) : (xs.set (i - 1) d).drop (i - 1) = d :: xs.drop i := by
  rw [List.drop_eq_getElem_cons (by simp; omega), List.getElem_set_self, List.drop_set_of_lt (by omega), show i - 1 + 1 = i by omega]

theorem fdiv_nat (v : Nat) : (v : Int).fdiv (2 ^ (min (4 : Int).toNat 64)) = ((v / 16 : Nat) : Int) := by
  show (v : Int).fdiv (2 ^ 4) = _
  rw [Int.fdiv_eq_ediv_of_nonneg _ (by decide)]; omega

def f98i (u0 : Nat) : Nat × Nat × List D → Prop
  | (u, i, xs) => xs.length = 65 ∧ 50 ≤ i ∧ i ≤ 65 ∧ u < 16 ^ (i - 49) ∧ ∃ t, xs.drop i = encB t ∧ digs 16 u0 = digs 16 u ++ t
def f98s : Nat × Nat × List D → AS
  | (u, i, xs) => ⟨[(0, .d (.sl 1 [])), (1, .d (.i .u64 (u : Int))), (3, .d (.b false)), (4, .d (.b false)), (10, .os 32), (12, .op 16 0 0), (13, .d (.i .i64 (i : Int))), (14, .d (.i .u64 4)), (15, .d (.i .u64 16)), (16, .d (.i .u64 15))], [(16, some (.arr 1 xs)), (32, some (.buf 1 []))], 20⟩

set_option maxRecDepth 100000 in
theorem bits98 (u : Nat) (h : u ≤ 9223372036854775807) : Does C 98 [.sl 1 [], .i .u64 (u : Int), .i .i64 16, .b false, .b false] [.sl 1 [], .s (digs 16 u)] := by
  refine Does.mk (n := 102) Tryd.func98 rfl rfl rfl (Nat.le_of_ble_eq_true rfl) ?_
  repeat refine seq_on ?_
  refine cmp_no (by decide) ?_
  refine cmp_no (by decide) ?_
  refine cmp_no (by decide) ?_
  repeat refine seq_on ?_
  refine call_by pow103 ?_
  repeat refine seq_on ?_
  refine ar_is 16 (by decide) ?_
  refine call_by tz104 ?_
  refine ar_is 4 (by decide) ?_
  refine ar_is 16 (by decide) ?_
  refine ar_is 16 (by decide) ?_
  refine ar_is 15 (by decide) ?_
  repeat refine seq_on ?_
  refine loop_inv (f98i u) f98s (fun y => y.1) (u, 65, List.replicate 65 (.i .u8 0)) ⟨by simp, by omega, by omega, by omega, [], rfl, by simp⟩ [(16, 208), (32, 16)] ?_ ?_
  · ((repeat' constructor) <;> refine hold ?_ <;> first | with_reducible rfl | (congr 1 <;> omega) | (congr 1 <;> simp; done) | (simp; done) | exact encB_snoc _ _ | skip)
  rintro ⟨v, i, xs⟩ ⟨hxs, hi, hi', hv, t, ht, hd⟩
  have hvv : v < 18446744073709551616 := Nat.lt_of_lt_of_le hv (Nat.le_trans (Nat.pow_le_pow_right (by omega) (show i - 49 ≤ 16 by omega)) (by decide))
  repeat refine seq_on ?_
  refine cmp_dec (fun h1 => ?_) (fun h1 => ?_)
  · repeat refine seq_on ?_
    refine ar (e := (i : Int) - 1) ⟨by omega, by omega⟩ ?_
    have hand : bitsOp .and .u64 (v : Int) 15 = ((v % 16 : Nat) : Int) := and_u64 (n := 4) hvv (by omega)
    refine Eng.get_at (v % 16) hand (hex36 (Nat.mod_lt _ (by decide))) ?_
    refine same_is (by omega) ?_
    refine idx (i - 1) (by omega) (by omega) ?_
    refine set_is (get_d (.i .u8 0) (by omega)) ?_
    refine And.intro (by decide) ?_
    refine again (v / 16, i - 1, xs.set (i - 1) (.i .u8 ((hexd (v % 16)).toNat : Int))) [] ⟨by simp [hxs], ?_, by omega, ?_, hexd (v % 16) :: t, ?_, ?_⟩ (Nat.div_lt_self (by omega) (by omega)) ?_
    · have hne : i ≠ 50 := by
        intro h; subst h; simp at hv; omega
      omega
    · have e : 16 ^ (i - 49) = 16 ^ (i - 1 - 49) * 16 := by rw [← Nat.pow_succ]; congr 1; omega
      rw [e] at hv
      exact Nat.div_lt_of_lt_mul (by omega)
    · rw [drop_set (by omega) (by omega), ht]; rfl
    · rw [hd, digs_more (by omega) (by omega)]; simp
    · ((repeat' constructor) <;> refine hold ?_ <;> first | with_reducible rfl | (congr 1 <;> omega) | (congr 1 <;> simp; done) | (simp; done) | exact encB_snoc _ _ | skip)
      exact congrArg (D.i .u64) (fdiv_nat v)
  · have hlt : v < 16 := by omega
    repeat refine seq_on ?_
    refine ar (e := (i : Int) - 1) ⟨by omega, by omega⟩ ?_
    refine Eng.get_at v rfl (hex36 hlt) ?_
    refine same_is (by omega) ?_
    refine idx (i - 1) (by omega) (by omega) ?_
    refine set_is (get_d (.i .u8 0) (by omega)) ?_
    repeat refine seq_on ?_
    refine same_is (by simp; omega) ?_
    refine bnd (i - 1) (by omega) (by simp; omega) ?_
    refine bytes_is (hexd v :: t) ?_ ?_
    · rw [drop_set (by omega) (by omega), ht]; rfl
    · rw [hd, digs_one hlt]; exact rfl

theorem fmt91_16 (u : Nat) (h : u ≤ 9223372036854775807) : Does C 91 [.i .i64 (u : Int), .i .i64 16] [.s (digs 16 u)] := by
  refine Does.mk (n := 54) Tryd.func91 rfl rfl rfl (Nat.le_of_ble_eq_true rfl) ?_
  repeat refine seq_on ?_
  refine cmp_no (by decide) ?_
  repeat refine seq_on ?_
  refine aru ⟨by omega, by omega⟩ ?_
  refine cmp_no (by omega) ?_
  refine call_by (bits98 u h) ?_
  exact rfl

theorem fmt79 (u b : Nat) (hb : b = 10 ∨ b = 16) (h : u ≤ 9223372036854775807) : Does C 79 [.i .i64 (u : Int), .i .i64 (b : Int)] [.s (digs b u)] := by
  refine Does.mk (n := 8) Tryd.func79 rfl rfl rfl (Nat.le_of_ble_eq_true rfl) ?_
  refine call_by (rs := [.s (digs b u)]) ?_ ?_
  · rcases hb with rfl | rfl
    · exact fmt91_10 (u : Int) ⟨by omega, by omega⟩
    · exact fmt91_16 u h
  · exact rfl

theorem format53 (n : Int) (b : Nat) (hb : b = 10 ∨ b = 16) (h : I64 n) : Does C 53 [.i .i64 n, .i .i64 (b : Int)] [.s (printF b n)] := by
  refine Does.mk (n := 10) Tryd.func53 rfl rfl rfl (Nat.le_of_ble_eq_true rfl) ?_
  repeat refine seq_on ?_
  refine cmp_dec (fun h1 => ?_) (fun h1 => ?_)
  · refine congrArg (fun x => [D.s x]) ?_
    unfold printF; rw [if_pos h1]
  · obtain ⟨u, rfl⟩ : ∃ u : Nat, n = u := ⟨n.toNat, by omega⟩
    have := h.2
    refine call_by (fmt79 u b hb (by omega)) ?_
    refine congrArg (fun x => [D.s x]) ?_
    unfold printF; rw [if_neg h1]; rfl

theorem dec16 (n : Int) (h : I64 n) : Does C 16 [.i .i64 n] [.s (printF 10 n)] := by
  refine Does.mk (n := 5) Tryd.func16 rfl rfl rfl (Nat.le_of_ble_eq_true rfl) ?_
  refine call_by (format53 n 10 (.inl rfl) h) ?_
  exact rfl
theorem hex17 (n : Int) (h : I64 n) : Does C 17 [.i .i64 n] [.s (printF 16 n)] := by
  refine Does.mk (n := 5) Tryd.func17 rfl rfl rfl (Nat.le_of_ble_eq_true rfl) ?_
  refine call_by (format53 n 16 (.inr rfl) h) ?_
  exact rfl

theorem base54i (n : Int) (b : Nat) (hb : 2 ≤ b ∧ b ≤ 16) (h : I64 n) : Does C 54 [.i .i64 n, .i .i64 (b : Int)] [.s (printF b n)] := by
  by_cases h1 : n < 0
  · refine Does.mk (n := 24) Tryd.func54 rfl rfl rfl (Nat.le_of_ble_eq_true rfl) ?_
    repeat refine seq_on ?_
    refine cmp_yes h1 ?_
    refine congrArg (fun x => [D.s x]) ?_
    unfold printF; rw [if_pos h1]
  · obtain ⟨u, rfl⟩ : ∃ u : Nat, n = u := ⟨n.toNat, by omega⟩
    have := h.2
    have := base54 u b (by omega) hb
    unfold printF; rw [if_neg h1]; exact this
theorem dec18 (n : Int) (h : I64 n) : Does C 18 [.i .i64 n] [.s (printF 10 n)] := by
  refine Does.mk (n := 5) Tryd.func18 rfl rfl rfl (Nat.le_of_ble_eq_true rfl) ?_
  refine call_by (base54i n 10 (by omega) h) ?_
  exact rfl
theorem hex19 (n : Int) (h : I64 n) : Does C 19 [.i .i64 n] [.s (printF 16 n)] := by
  refine Does.mk (n := 5) Tryd.func19 rfl rfl rfl (Nat.le_of_ble_eq_true rfl) ?_
  refine call_by (base54i n 16 (by omega) h) ?_
  exact rfl
end Go.Proofs.YtpogmmcfkdofhaaDoor
