import Derived.Test.YtbfkfmpfdafogaaGreatDoorMd
import Derived.Test.YtbfkfmpfdafogaaGreatDoorFmt
import Derived.Lib.ItoaLen
namespace Go.Proofs.YtbfkfmpfdafogaaGreatDoor
variable {G : List Go.Eng.Gl}
open Go.Eng
attribute [local irreducible] Hold

/-! ### Digits -/

def hexd (d : Nat) : UInt8 := if d < 10 then UInt8.ofNat (48 + d) else UInt8.ofNat (87 + d)
def digs (b u : Nat) : List UInt8 := if _h : u < b ∨ b < 2 then [hexd u] else digs b (u / b) ++ [hexd (u % b)]
termination_by u
decreasing_by exact Nat.div_lt_self (by omega) (by omega)

theorem digs_one {b u : Nat} (h : u < b) : digs b u = [hexd u] := by rw [digs, dif_pos (.inl h)]
theorem digs_more {b u : Nat} (hb : 2 ≤ b) (h : ¬ u < b) : digs b u = digs b (u / b) ++ [hexd (u % b)] := by rw [digs, dif_neg (by omega)]

theorem digs_ten (u : Nat) : digs 10 u = Lib.decDigits u := by
  induction u using Nat.strongRecOn with
  | _ u ih =>
    by_cases h : u < 10
    · rw [digs_one h, Lib.decDigits_one h, hexd, if_pos h]
    · rw [digs_more (by omega) h, Lib.decDigits, dif_neg h, ih (u / 10) (by omega), hexd, if_pos (by omega)]

def printF (b : Nat) (n : Int) : List UInt8 := if n < 0 then [] else digs b n.toNat

/-! ### strconv.FormatInt at base 10: the kit's contract -/

theorem hex_fin : ∀ r : Fin 16, (((ByteArray.mk #[48, 49, 50, 51, 52, 53, 54, 55, 56, 57, 97, 98, 99, 100, 101, 102]).data.toList.take (r.val + 1)).drop r.val) = [hexd r.val] := by decide +kernel
theorem hex_at {r : Nat} (h : r < 16) : (((ByteArray.mk #[48, 49, 50, 51, 52, 53, 54, 55, 56, 57, 97, 98, 99, 100, 101, 102]).data.toList.take (r + 1)).drop r) = [hexd r] := hex_fin ⟨r, h⟩

def b54i (n0 : Nat) (b : Nat) : Nat × List UInt8 → Prop
  | (n, l) => digs b n0 = digs b n ++ l ∧ l.length + n ≤ n0 ∧ (n = 0 → l = [])
def b54s (b : Nat) : Nat × List UInt8 → AS
  | (n, l) => ⟨[(0, .d (.i .i64 (n : Int))), (1, .d (.i .i64 (b : Int))), (5, .d (.s l))], [], 1⟩

end Go.Proofs.YtbfkfmpfdafogaaGreatDoor

namespace Go.Proofs.YtbfkfmpfdafogaaGreatDoor
variable {G : List Go.Eng.Gl}
open Go.Eng
set_option maxRecDepth 100000
attribute [local irreducible] Hold

theorem hex36_fin : ∀ r : Fin 16, (ByteArray.mk #[48, 49, 50, 51, 52, 53, 54, 55, 56, 57, 97, 98, 99, 100, 101, 102, 103, 104, 105, 106, 107, 108, 109, 110, 111, 112, 113, 114, 115, 116, 117, 118, 119, 120, 121, 122]).data.toList[r.val]? = some (hexd r.val) := by decide +kernel
theorem hex36 {r : Nat} (h : r < 16) : (ByteArray.mk #[48, 49, 50, 51, 52, 53, 54, 55, 56, 57, 97, 98, 99, 100, 101, 102, 103, 104, 105, 106, 107, 108, 109, 110, 111, 112, 113, 114, 115, 116, 117, 118, 119, 120, 121, 122]).data.toList[r]? = some (hexd r) := hex36_fin ⟨r, h⟩

theorem and_u64 {x n : Nat} (h : x < 18446744073709551616) (hn : n ≤ 63) : bitsOp .and .u64 (x : Int) ((2 ^ n - 1 : Nat) : Int) = ((x % 2 ^ n : Nat) : Int) := by
  have hlt : 2 ^ n ≤ 2 ^ 63 := Nat.pow_le_pow_right (by omega) hn
  have hm : x % 2 ^ n < 2 ^ n := Nat.mod_lt _ (Nat.two_pow_pos n)
  have : (BitVec.ofNat 64 x &&& BitVec.ofNat 64 (2 ^ n - 1)).toNat = x % 2 ^ n := by
    rw [BitVec.toNat_and, BitVec.toNat_ofNat, BitVec.toNat_ofNat, Nat.mod_eq_of_lt (by omega), Nat.mod_eq_of_lt (by omega), Nat.and_two_pow_sub_one_eq_mod]
  show IntKind.u64.wrap (((BitVec.ofInt 64 (x : Int) &&& BitVec.ofInt 64 ((2 ^ n - 1 : Nat) : Int)).toNat : Nat) : Int) = _
  rw [BitVec.ofInt_natCast, BitVec.ofInt_natCast, this]
  exact wrap_u64 (by omega) (by omega)

theorem drop_set {β : Type} {xs : List β} {i : Nat} {d : β} (h : 1 ≤ i) (hi : i ≤ xs.length) : (xs.set (i - 1) d).drop (i - 1) = d :: xs.drop i := by
  rw [List.drop_eq_getElem_cons (by simp; omega), List.getElem_set_self, List.drop_set_of_lt (by omega), show i - 1 + 1 = i by omega]

theorem fdiv_nat (v : Nat) : (v : Int).fdiv (2 ^ (min (4 : Int).toNat 64)) = ((v / 16 : Nat) : Int) := by
  show (v : Int).fdiv (2 ^ 4) = _
  rw [Int.fdiv_eq_ediv_of_nonneg _ (by decide)]; omega

def f98i (u0 : Nat) : Nat × Nat × List D → Prop
  | (u, i, xs) => xs.length = 65 ∧ 50 ≤ i ∧ i ≤ 65 ∧ u < 16 ^ (i - 49) ∧ ∃ t, xs.drop i = encB t ∧ digs 16 u0 = digs 16 u ++ t
def f98s : Nat × Nat × List D → AS
  | (u, i, xs) => ⟨[(0, .d (.sl 1 [])), (1, .d (.i .u64 (u : Int))), (3, .d (.b false)), (4, .d (.b false)), (10, .os 32), (12, .op 16 0 0), (13, .d (.i .i64 (i : Int))), (14, .d (.i .u64 4)), (15, .d (.i .u64 16)), (16, .d (.i .u64 15))], [(16, some (.arr 1 xs)), (32, some (.buf 1 []))], 20⟩

end Go.Proofs.YtbfkfmpfdafogaaGreatDoor

namespace Go.Proofs.YtbfkfmpfdafogaaGreatDoor
open Go.Eng
attribute [local irreducible] Hold

theorem dc_hex_fin : ∀ r : Fin 16, dc (hexd r.val) = (r.val : Int) := by decide +kernel
theorem dc_hex {r : Nat} (h : r < 16) : dc (hexd r) = (r : Int) := dc_hex_fin ⟨r, h⟩

theorem acc_append (b most : Int) (l r : List UInt8) (m : Int) : acc b most (l ++ r) m = (acc b most l m).bind fun x => acc b most r x := by
  induction l generalizing m with
  | nil => rfl
  | cons c l ih =>
    simp only [List.cons_append, acc]
    split
    · rfl
    · exact ih _

theorem acc_digs (b : Nat) (hb : 2 ≤ b ∧ b ≤ 16) (most : Int) (hm : 0 ≤ most) (u : Nat) : acc b most (digs b u) 0 = if (u : Int) ≤ most then some (u : Int) else none := by
  have one : ∀ (r : Nat) (q : Int), r < b → 0 ≤ q → q ≤ most → acc b most [hexd r] q = if q * b + r ≤ most then some (q * b + r) else none := by
    intro r q hr hq hqm
    have hd := dc_hex (r := r) (by omega)
    simp only [acc, hd]
    by_cases h1 : most < r
    · have : 0 ≤ q * b := Int.mul_nonneg hq (by omega)
      rw [if_pos (.inl h1), if_neg (by omega)]
    · have ht : (most - r).tdiv b = (most - r) / b := Int.tdiv_eq_ediv_of_nonneg (by omega)
      have hle : q ≤ (most - r) / b ↔ q * b ≤ most - r := Int.le_ediv_iff_mul_le (by omega)
      rw [ht]
      by_cases h2 : q * b + r ≤ most
      · rw [if_pos h2, if_neg]
        rintro (h | h)
        · exact h1 h
        · have := hle.2 (by omega); omega
      · rw [if_neg h2, if_pos]
        right
        rcases Int.lt_or_le ((most - r) / b) q with h | h
        · exact h
        · have := hle.1 h; omega
  induction u using Nat.strongRecOn with
  | _ u ih =>
    by_cases h : u < b
    · rw [digs_one h, one u 0 h (Int.le_refl _) hm]; simp
    · rw [digs_more hb.1 h, acc_append, ih (u / b) (Nat.div_lt_self (by omega) (by omega))]
      have hu : (u : Int) = (u / b : Nat) * b + (u % b : Nat) := by
        have := Nat.div_add_mod u b
        rw [Nat.mul_comm] at this
        have := congrArg (Nat.cast (R := Int)) this
        rw [← this]; simp
      have hq0 : 0 ≤ ((u / b : Nat) : Int) := Int.natCast_nonneg _
      by_cases hq : ((u / b : Nat) : Int) ≤ most
      · rw [if_pos hq]
        show acc b most [hexd (u % b)] ((u / b : Nat) : Int) = _
        rw [one (u % b) _ (Nat.mod_lt _ (by omega)) hq0 hq, ← hu]
      · rw [if_neg hq]
        have : ((u / b : Nat) : Int) ≤ u := by
          have := Nat.div_le_self u b
          omega
        rw [if_neg (by omega)]; rfl

theorem digs_ok (b : Nat) (hb : 2 ≤ b ∧ b ≤ 16) (u : Nat) : (∀ c, c ∈ digs b u → dc c < b) ∧ digs b u ≠ [] := by
  induction u using Nat.strongRecOn with
  | _ u ih =>
    by_cases h : u < b
    · rw [digs_one h]
      refine ⟨fun c hc => ?_, by simp⟩
      rw [List.mem_singleton.1 hc, dc_hex (by omega)]; omega
    · rw [digs_more hb.1 h]
      have hr := Nat.mod_lt u (show b > 0 by omega)
      refine ⟨fun c hc => ?_, by simp⟩
      rcases List.mem_append.1 hc with hc | hc
      · exact (ih (u / b) (Nat.div_lt_self (by omega) (by omega))).1 c hc
      · rw [List.mem_singleton.1 hc, dc_hex (by omega)]; omega

theorem parse_digs (b : Nat) (hb : 2 ≤ b ∧ b ≤ 16) (most : Int) (hm : 0 ≤ most) (u : Nat) : parseF b most (digs b u) = if (u : Int) ≤ most then ((u : Int), 0) else (0, 3) := by
  obtain ⟨h1, h2⟩ := digs_ok b hb u
  rw [parseF_ok (by rintro ⟨c, hc, hd⟩; have := h1 c hc; omega) h2, acc_digs b hb most hm u]
  split <;> rfl

theorem parse_zeros (b : Nat) (hb : 2 ≤ b ∧ b ≤ 16) (most : Int) (hm : 0 ≤ most) (u : Nat) : parseF b most (48 :: 48 :: digs b u) = if (u : Int) ≤ most then ((u : Int), 0) else (0, 3) := by
  obtain ⟨h1, h2⟩ := digs_ok b hb u
  have h48 : dc 48 = 0 := by decide +kernel
  rw [parseF_ok (by
    rintro ⟨c, hc, hd⟩
    rcases List.mem_cons.1 hc with rfl | hc
    · omega
    · rcases List.mem_cons.1 hc with rfl | hc
      · omega
      · have := h1 c hc; omega) (by simp)]
  have hz : ∀ l, acc b most (48 :: l) 0 = acc b most l 0 := by
    intro l
    simp only [acc, h48]
    have : 0 ≤ (most - 0).tdiv b := (tdiv_lo (by omega) (by omega)).1
    rw [if_neg (by omega)]; simp
  rw [hz, hz, acc_digs b hb most hm u]
  split <;> rfl

/-! ### The law's own look -/

theorem p0F : parseF 16 20 [48, 70] = (15, 0) := by
  rw [parseF_ok _ (by simp)]
  · decide +kernel
  · rintro ⟨c, hc, hd⟩
    simp at hc
    rcases hc with rfl | rfl <;> revert hd <;> decide +kernel
theorem p21 : parseF 10 20 [50, 49] = (0, 3) := by
  rw [parseF_ok _ (by simp)]
  · decide +kernel
  · rintro ⟨c, hc, hd⟩
    simp at hc
    rcases hc with rfl | rfl <;> revert hd <;> decide +kernel
theorem pff : printF 16 255 = [102, 102] := by
  show digs 16 255 = _
  rw [digs_more (by omega) (by omega), digs_one (by omega)]; decide +kernel
theorem p10 : printF 10 10 = [49, 48] := by
  show digs 10 10 = _
  rw [digs_more (by omega) (by omega), digs_one (by omega)]; decide +kernel

end Go.Proofs.YtbfkfmpfdafogaaGreatDoor

namespace Go.Proofs.YtbfkfmpfdafogaaGreatDoor
variable {G : List Go.Eng.Gl}
open Go.Eng
attribute [local irreducible] Hold
end Go.Proofs.YtbfkfmpfdafogaaGreatDoor

namespace Go.Proofs.YtbfkfmpfdafogaaGreatDoor
variable {G : List Go.Eng.Gl}
open Go.Eng
attribute [local irreducible] Hold

def pos : List Int → Int
  | [] => 0
  | n :: l => max n 0 + pos l
theorem pos_lo (l : List Int) : 0 ≤ pos l := by
  induction l with
  | nil => exact Int.le_refl _
  | cons n l ih => simp only [pos]; omega
theorem addF_min (m : Int) (l : List Int) (s : Int) (h : 0 ≤ s ∧ s ≤ m) : addF m l s = min m (s + pos l) := by
  induction l generalizing s with
  | nil => simp only [addF, pos]; omega
  | cons n l ih =>
    simp only [addF, pos]
    rw [ih _ (by omega)]
    have := pos_lo l
    omega
theorem add_min (most : Int) (l : List Int) : addF (max most 0) l 0 = min (max most 0) (pos l) := by
  rw [addF_min _ _ _ (by omega)]; omega

theorem digs_len (b : Nat) (hb : 2 ≤ b) (u : Nat) : (digs b u).length ≤ 2 + u / 2 := by
  induction u using Nat.strongRecOn with
  | _ u ih =>
    by_cases h : u < b
    · rw [digs_one h]; simp only [List.length_cons, List.length_nil]; omega
    · rw [digs_more hb h]
      have := ih (u / b) (Nat.div_lt_self (by omega) (by omega))
      have h2 : u / b ≤ u / 2 := Nat.div_le_div_left hb (by omega)
      simp only [List.length_append, List.length_cons, List.length_nil]
      omega
theorem print_len (b : Nat) (hb : 2 ≤ b) (n : Int) (h : n ≤ 9223372036854775807) : (printF b n).length ≤ 4611686018427387906 := by
  unfold printF
  split
  · simp
  · have := digs_len b hb n.toNat
    omega

theorem and_i64 (x : Int) : 0 ≤ bitsOp .and .i64 x 4611686018427387903 ∧ bitsOp .and .i64 x 4611686018427387903 ≤ 4611686018427387903 := by
  have h : (BitVec.ofInt 64 x &&& BitVec.ofInt 64 4611686018427387903).toNat ≤ 4611686018427387903 := by
    rw [BitVec.toNat_and]
    exact Nat.and_le_right
  have e : bitsOp .and .i64 x 4611686018427387903 = IntKind.i64.wrap (((BitVec.ofInt 64 x &&& BitVec.ofInt 64 4611686018427387903).toNat : Nat) : Int) := rfl
  rw [e, wrap_id64 (by omega) (by omega)]
  omega

theorem two (b : Nat) (hb : b = 10 ∨ b = 16) (x m : Int) (hx : 0 ≤ x) (hm : 0 ≤ m) :
    parseF b m (printF b x) = (if x ≤ m then (x, 0) else (0, 3)) ∧ parseF b m (48 :: 48 :: printF b x) = (if x ≤ m then (x, 0) else (0, 3)) := by
  obtain ⟨u, rfl⟩ : ∃ u : Nat, x = u := ⟨x.toNat, by omega⟩
  unfold printF; rw [if_neg (by omega)]
  exact ⟨parse_digs b (by omega) m hm u, parse_zeros b (by omega) m hm u⟩

theorem law5x (x m : Int) (hx : 0 ≤ x ∧ x ≤ 4611686018427387903) (hm : 0 ≤ m ∧ m ≤ 4611686018427387903) : I64 x ∧ I64 m ∧ (printF 10 x).length ≤ 4611686018427387906 ∧ (printF 16 x).length ≤ 4611686018427387906 :=
  ⟨⟨by omega, by omega⟩, ⟨by omega, by omega⟩, print_len 10 (by omega) x (by omega), print_len 16 (by omega) x (by omega)⟩

def f4s (ds : List UInt8) (most : Int) : Nat × List UInt8 → AS
  | (i, t) => ⟨[(2, .d (.i .i64 most)), (1, .d (.sl 1 (encB ds))), (9, .os 16), (10, .d (.i .i64 (i : Int)))], [(16, some (.buf 1 (encB t)))], 50⟩
def f4i (ds : List UInt8) : Nat × List UInt8 → Prop
  | (i, t) => i ≤ ds.length ∧ i ≤ 24 ∧ t.length = i
theorem encB_get {l : List UInt8} {i : Nat} (h : i < l.length) : (encB l)[i]? = some (.i .u8 ((l.getD i 0).toNat : Int)) := by simp [encB, h]
theorem encB_snoc (l : List UInt8) (c : UInt8) : encB l ++ [.i .u8 (c.toNat : Int)] = encB (l ++ [c]) := by simp [encB]
theorem encB_len (l : List UInt8) : (encB l).length = l.length := by simp [encB]

end Go.Proofs.YtbfkfmpfdafogaaGreatDoor

