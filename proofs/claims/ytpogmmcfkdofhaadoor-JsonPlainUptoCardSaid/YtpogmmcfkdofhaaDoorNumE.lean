import Derived.Test.YtpogmmcfkdofhaaDoorNumD
import Derived.Test.YtpogmmcfkdofhaaDoorFmt
import Derived.Lib.ItoaLen
namespace Go.Proofs.YtpogmmcfkdofhaaDoor
open Go.Eng
attribute [local irreducible] Hold

/-! ### Digits -/

def hexd (d : Nat) : UInt8 := if d < 10 then UInt8.ofNat (48 + d) else UInt8.ofNat (87 + d)
def digs (b u : Nat) : List UInt8 := if _h : u < b ∨ b < 2 then [hexd u] else digs b (u / b) ++ [hexd (u % b)]
termination_by u
decreasing_by exact Nat.div_lt_self (by omega) (by omega)

theorem digs_one {b u : Nat} (h : u < b) : digs b u = [hexd u] := by rw [digs, dif_pos (.inl h)]
theorem digs_more {b u : Nat} (hb : 2 ≤ b) (h : ¬ u < b) : digs b u = digs b (u / b) ++ [hexd (u % b)] := by rw [digs, dif_neg (by omega)]

theorem digs_ten (u : Nat) : digs 10 u = Lib.decDigits u := by
  induction u using Nat.strongRecOn with
  | _ u ih =>
    by_cases h : u < 10
    · rw [digs_one h, Lib.decDigits_one h, hexd, if_pos h]
    · rw [digs_more (by omega) h, Lib.decDigits, dif_neg h, ih (u / 10) (by omega), hexd, if_pos (by omega)]

def printF (b : Nat) (n : Int) : List UInt8 := if n < 0 then [] else digs b n.toNat

/-! ### strconv.FormatInt at base 10: the kit's contract -/

theorem tabOf {w : World} {X : Nat → Prop} (h : GlobAt w X glPow) : Lib.TabIs Tryd.prog w "internal/strconv.uint64pow10" .u64 Lib.pow10Tab := by
  obtain ⟨arr, T, fz, hh, hsz, hw, hr⟩ := h
  have hg : Tryd.prog.globalNamed "internal/strconv.uint64pow10" = some 0 := by kernel_rfl
  unfold Lib.TabIs World.var?
  rw [hg]
  have hh' : w.heap[0]? = some (.cells arr T fz) := hh
  simp only [Option.bind_some, hh', Option.some.injEq]
  have hlen : glPow.xs.length = 20 := rfl
  have hsz' : arr.size = 20 := by rw [hsz, hlen]; rfl
  have hx : glPow.xs = Lib.pow10Tab.map (D.i .u64) := by kernel_rfl
  have hxl : Lib.pow10Tab.length = 20 := by decide +kernel
  apply Array.ext
  · simp [hsz', hxl]
  · intro j h1 h2
    have hj : glPow.xs[j]? = some (.i .u64 (Lib.pow10Tab[j]'(by omega))) := by rw [hx]; simp [show j < Lib.pow10Tab.length by omega]
    obtain ⟨v, hv, hv'⟩ := hr j 0 _ _ hj rfl
    have : arr[j]? = some v := by simpa [glPow] using hv
    cases hv'
    rw [Array.getElem?_eq_getElem h1] at this
    simp only [Option.some.injEq] at this
    rw [this]; simp

theorem fmt91_10 (n : Int) (h : 0 ≤ n ∧ n ≤ 9223372036854775807) : Does C 91 [.i .i64 n, .i .i64 10] [.s (digs 10 n.toNat)] := by
  refine ⟨⟨_, Tryd.func91, rfl, rfl⟩, fun w X vs hX hG hl hd => ?_⟩
  obtain ⟨l⟩ := vs
  match l, hl, hd with
  | [a, b], _, hd =>
    have ha := (hd 0 _ a rfl rfl).iinv
    have hb := (hd 1 _ b rfl rfl).iinv
    subst ha hb
    have htab := tabOf (hG glPow (by simp [C])).2.2
    refine (Tryd.internal_strconv_FormatInt_10 n (by omega) h.2 w htab).mono fun e w' hh => ?_
    obtain ⟨rfl, k, os, rfl⟩ := hh
    refine ⟨_, rfl, ?_, ?_⟩
    · have : Lib.itoa n = digs 10 n.toNat := by
        rw [digs_ten]; unfold Lib.itoa; rw [if_neg (by omega)]
      rw [this]; exact .d _ _ (.s _)
    · refine ⟨rfl, rfl, rfl, ?_, fun i hi => ?_⟩
      · show w.heap.size ≤ (w.heap ++ os).size
        simp
      · show (w.heap ++ os)[i]? = w.heap[i]?
        rw [Array.getElem?_append, if_pos hi]

/-! ### The reference's numeral -/

theorem hex_fin : ∀ r : Fin 16, (((ByteArray.mk #[48, 49, 50, 51, 52, 53, 54, 55, 56, 57, 97, 98, 99, 100, 101, 102]).data.toList.take (r.val + 1)).drop r.val) = [hexd r.val] := by decide +kernel
theorem hex_at {r : Nat} (h : r < 16) : (((ByteArray.mk #[48, 49, 50, 51, 52, 53, 54, 55, 56, 57, 97, 98, 99, 100, 101, 102]).data.toList.take (r + 1)).drop r) = [hexd r] := hex_fin ⟨r, h⟩

def b54i (n0 : Nat) (b : Nat) : Nat × List UInt8 → Prop
  | (n, l) => digs b n0 = digs b n ++ l ∧ l.length + n ≤ n0 ∧ (n = 0 → l = [])
def b54s (b : Nat) : Nat × List UInt8 → AS
  | (n, l) => ⟨[(0, .d (.i .i64 (n : Int))), (1, .d (.i .i64 (b : Int))), (5, .d (.s l))], [], 1⟩

theorem base54 (n b : Nat) (hn : n ≤ 9223372036854775807) (hb : 2 ≤ b ∧ b ≤ 16) : Does C 54 [.i .i64 (n : Int), .i .i64 (b : Int)] [.s (digs b n)] := by
  refine Does.mk (n := 24) Tryd.func54 rfl rfl rfl (Nat.le_of_ble_eq_true rfl) ?_
  repeat refine seq_on ?_
  refine cmp_no (by omega) ?_
  repeat refine seq_on ?_
  refine loop_inv (b54i n b) (b54s b) (fun y => y.1) (n, []) ⟨by simp, by simp, fun _ => rfl⟩ [] ?_ ?_
  · ((repeat' constructor) <;> refine hold ?_ <;> first | with_reducible rfl | (congr 1 <;> omega) | (congr 1 <;> simp; done) | (simp; done) | exact encB_snoc _ _ | skip)
  rintro ⟨m, l⟩ ⟨h1, h2, h3⟩
  have hr : m % b < b := Nat.mod_lt _ (by omega)
  repeat refine seq_on ?_
  refine div_ok (by omega) ?_
  refine div_ok (by omega) ?_
  refine ar (e := ((m % b : Nat) : Int) + 1) ⟨by omega, by omega⟩ ?_
  refine bnd (m % b + 1) rfl ?_ ?_
  · show m % b + 1 ≤ 16
    omega
  refine bnd (m % b) rfl (by omega) ?_
  have hx := hex_at (r := m % b) (by omega)
  have hl : [hexd (m % b)].length = 1 := rfl
  have hll : l.length + 1 ≤ 9223372036854775807 := by
    rcases Nat.eq_zero_or_pos m with h | h
    · rw [h3 h]; decide
    · omega
  have hq : 0 ≤ ((m / b : Nat) : Int) ∧ ((m / b : Nat) : Int) ≤ 9223372036854775807 := by
    have := Nat.div_le_self m b
    generalize m / b = q at *
    omega
  refine len_ok (Nat.le_trans (Nat.add_le_add_right (Nat.le_of_eq (congrArg List.length hx)) _) (by omega)) ?_
  refine And.intro (draw_ok (by kernel_rfl)) ?_
  refine div_ok (by omega) ?_
  refine ar (e := ((m / b : Nat) : Int)) ⟨Int.le_trans (by decide) hq.1, hq.2⟩ ?_
  repeat refine seq_on ?_
  refine cmp_dec (fun h4 => ?_) (fun h4 => ?_)
  · repeat refine seq_on ?_
    refine congrArg (fun x => [D.s x]) ?_
    have h4' : m / b = 0 := by omega
    have hlt : m < b := by
      rcases Nat.lt_or_ge m b with h | h
      · exact h
      · have := Nat.div_pos h (by omega); omega
    rw [h1, digs_one hlt]
    refine (congrArg (· ++ l) hx).trans ?_
    rw [Nat.mod_eq_of_lt hlt]
  · repeat refine seq_on ?_
    have hge : ¬ m < b := fun h => h4 (by rw [Nat.div_eq_of_lt h]; rfl)
    have hdm : m / b < m := Nat.div_lt_self (by omega) (by omega)
    refine again (m / b, hexd (m % b) :: l) [] ⟨?_, ?_, ?_⟩ hdm ?_
    · rw [h1, digs_more (by omega) hge]; simp
    · simp only [List.length_cons]; omega
    · intro h0; rw [h0] at h4; exact absurd rfl h4
    · ((repeat' constructor) <;> refine hold ?_ <;> first | with_reducible rfl | (congr 1 <;> omega) | (congr 1 <;> simp; done) | (simp; done) | exact encB_snoc _ _ | skip)
      exact congrArg (fun x => D.s (x ++ l)) hx
end Go.Proofs.YtpogmmcfkdofhaaDoor
