import Derived.Test.YtpogmmcfkdofhaaDoorNumB
namespace Go.Proofs.YtpogmmcfkdofhaaDoor
open Go.Eng
attribute [local irreducible] Hold Does

def dc (c : UInt8) : Int := dg (c.toNat : Int)
theorem dc_lo (c : UInt8) : 0 ≤ dc c ∧ dc c ≤ 16 := dg_lo _
theorem u8_lo (c : UInt8) : 0 ≤ (c.toNat : Int) ∧ (c.toNat : Int) ≤ 255 := by
  have := c.toNat_lt; omega

def bad (base : Int) (s : List UInt8) : Prop := ∃ c, c ∈ s ∧ base ≤ dc c

def acc (base most : Int) : List UInt8 → Int → Option Int
  | [], n => some n
  | c :: l, n => if most < dc c ∨ (most - dc c).tdiv base < n then none else acc base most l (n * base + dc c)

def parseR (r : Option Int) : Int × Int := match r with | none => (0, 3) | some n => (n, 0)
noncomputable def parseF (base most : Int) (s : List UInt8) : Int × Int :=
  open Classical in if bad base s ∨ s = [] then (0, 2) else parseR (acc base most s 0)

theorem parseF_bad {base most : Int} {s : List UInt8} (h : bad base s ∨ s = []) : parseF base most s = (0, 2) := by unfold parseF; rw [if_pos h]
theorem parseF_ok {base most : Int} {s : List UInt8} (h : ¬ bad base s) (h1 : s ≠ []) : parseF base most s = parseR (acc base most s 0) := by
  unfold parseF; rw [if_neg]; rintro (h2 | h2)
  · exact h h2
  · exact h1 h2

def pres (r : Int × Int) : List D := [.i .i64 r.1, .i .i64 r.2]

theorem acc_none {base most : Int} {c : UInt8} {l : List UInt8} {n : Int} (h : most < dc c ∨ (most - dc c).tdiv base < n) : acc base most (c :: l) n = none := by simp only [acc]; rw [if_pos h]
theorem acc_some {base most : Int} {c : UInt8} {l : List UInt8} {n : Int} (h1 : ¬ most < dc c) (h : ¬ (most - dc c).tdiv base < n) : acc base most (c :: l) n = acc base most l (n * base + dc c) := by
  simp only [acc]; rw [if_neg (by omega)]
theorem div_mul {base a n : Int} (hb : 2 ≤ base) (ha : 0 ≤ a) (h : ¬ a.tdiv base < n) : n * base ≤ a := by
  rw [Int.tdiv_eq_ediv_of_nonneg ha] at h
  exact (Int.le_ediv_iff_mul_le (by omega)).1 (by omega)
theorem tdiv_lo {base a : Int} (hb : 2 ≤ base) (ha : 0 ≤ a) : 0 ≤ a.tdiv base ∧ a.tdiv base ≤ a := by
  rw [Int.tdiv_eq_ediv_of_nonneg ha]
  exact ⟨Int.ediv_nonneg ha (by omega), Int.ediv_le_self _ ha⟩

def p55a (s : List UInt8) (base most : Int) (i : Nat) : AS :=
  ⟨[(0, .d (.s s)), (1, .d (.i .i64 base)), (2, .d (.i .i64 most)), (13, .d (.i .i64 s.length)), (14, .d (.i .i64 i))], [], 1⟩
def p55b (s : List UInt8) (base most : Int) : Nat × Int → AS
  | (i, n) => ⟨[(0, .d (.s s)), (1, .d (.i .i64 base)), (2, .d (.i .i64 most)), (9, .d (.i .i64 n)), (27, .d (.i .i64 s.length)), (28, .d (.i .i64 i))], [], 1⟩
def pia (s : List UInt8) (base : Int) (i : Nat) : Prop := i ≤ s.length ∧ (bad base (s.drop i) ↔ bad base s)
def pib (s : List UInt8) (base most : Int) : Nat × Int → Prop
  | (i, n) => i ≤ s.length ∧ 0 ≤ n ∧ acc base most (s.drop i) n = acc base most s 0

theorem bad_cons {base : Int} {c : UInt8} {l : List UInt8} : bad base (c :: l) ↔ base ≤ dc c ∨ bad base l := by
  unfold bad
  constructor
  · rintro ⟨x, hx, hb⟩
    rcases List.mem_cons.1 hx with rfl | hx
    · exact .inl hb
    · exact .inr ⟨x, hx, hb⟩
  · rintro (h | ⟨x, hx, hb⟩)
    · exact ⟨c, List.mem_cons_self, h⟩
    · exact ⟨x, List.mem_cons_of_mem _ hx, hb⟩
theorem bad_nil {base : Int} : ¬ bad base [] := by rintro ⟨x, hx, _⟩; cases hx

theorem parse55 (s : List UInt8) (base most : Int) (hb : 2 ≤ base ∧ base ≤ 16) (hm : I64 most) (hs : s.length ≤ 9223372036854775807) :
    Does C 55 [.s s, .i .i64 base, .i .i64 most] (pres (parseF base most s)) := by
  have hmm := hm.2
  refine Does.mk (n := 54) Tryd.func55 rfl rfl rfl (Nat.le_of_ble_eq_true rfl) ?_
  refine seq_inv (fun _ : Unit => ¬ bad base s) (fun _ => ⟨[(0, .d (.s s)), (1, .d (.i .i64 base)), (2, .d (.i .i64 most))], [], 1⟩) ?_ ?_
  · repeat refine seq_on ?_
    refine loop_inv (pia s base) (p55a s base most) (fun i => s.length - i) 0 ⟨Nat.zero_le _, Iff.rfl⟩ [] ?_ ?_
    · ((repeat' constructor) <;> refine hold ?_ <;> first | with_reducible rfl | (congr 1 <;> omega) | (congr 1 <;> simp; done) | (simp; done) | exact encB_snoc _ _ | skip)
    rintro i ⟨hi, hf⟩
    repeat refine seq_on ?_
    refine cmp_dec (fun h1 => ?_) (fun h1 => ?_)
    · repeat refine seq_on ?_
      have hi' : i < s.length := by omega
      rw [drop_at 0 hi', bad_cons] at hf
      refine get_at i rfl (get_d 0 hi') ?_
      refine call_by (digit80 _ (u8_lo _)) ?_
      refine cmp_dec (fun h2 => ?_) (fun h2 => ?_)
      · show pres (0, 2) = pres (parseF base most s)
        rw [parseF_bad (.inl (hf.1 (.inl h2)))]
      · refine ar ⟨by omega, by omega⟩ ?_
        refine again (i + 1) [] ⟨by omega, ?_⟩ (by omega) ?_
        · rw [← hf]; exact ⟨.inr, fun h => h.resolve_left h2⟩
        · ((repeat' constructor) <;> refine hold ?_ <;> first | with_reducible rfl | (congr 1 <;> omega) | (congr 1 <;> simp; done) | (simp; done) | exact encB_snoc _ _ | skip)
    · repeat refine seq_on ?_
      refine cut_inv () [] ?_ ?_
      · rw [List.drop_eq_nil_of_le (by omega)] at hf
        exact fun h => bad_nil (hf.2 h)
      · ((repeat' constructor) <;> refine hold ?_ <;> first | with_reducible rfl | (congr 1 <;> omega) | (congr 1 <;> simp; done) | (simp; done) | exact encB_snoc _ _ | skip)
  rintro _ hnb
  repeat refine seq_on ?_
  refine cmp_dec (fun h1 => ?_) (fun h1 => ?_)
  · show pres (0, 2) = pres (parseF base most s)
    rw [parseF_bad (.inr h1)]
  rw [parseF_ok hnb h1]
  repeat refine seq_on ?_
  refine loop_inv (pib s base most) (p55b s base most) (fun y => s.length - y.1) (0, 0) ⟨Nat.zero_le _, Int.le_refl _, rfl⟩ [] ?_ ?_
  · ((repeat' constructor) <;> refine hold ?_ <;> first | with_reducible rfl | (congr 1 <;> omega) | (congr 1 <;> simp; done) | (simp; done) | exact encB_snoc _ _ | skip)
  rintro ⟨i, n⟩ ⟨hi, h0, hf⟩
  repeat refine seq_on ?_
  repeat refine seq_on ?_
  refine cmp_dec (fun h2 => ?_) (fun h2 => ?_)
  · repeat refine seq_on ?_
    have hi' : i < s.length := by omega
    rw [drop_at 0 hi'] at hf
    have hd := dc_lo (s.getD i 0)
    refine get_at i rfl (get_d 0 hi') ?_
    refine call_by (digit80 _ (u8_lo _)) ?_
    repeat refine seq_on ?_
    refine cmp_dec (fun h3 => ?_) (fun h3 => ?_)
    · show pres (0, 3) = pres _
      rw [← hf, acc_none (.inl h3)]; rfl
    have h3' : ¬ most < dc (s.getD i 0) := h3
    have hq := tdiv_lo hb.1 (a := most - dc (s.getD i 0)) (by omega)
    refine ar (e := most - dc (s.getD i 0)) ⟨by omega, by omega⟩ ?_
    refine div_ok (by omega) ?_
    refine ar (e := (most - dc (s.getD i 0)).tdiv base) ⟨by omega, by omega⟩ ?_
    repeat refine seq_on ?_
    refine cmp_dec (fun h4 => ?_) (fun h4 => ?_)
    · show pres (0, 3) = pres _
      rw [← hf, acc_none (.inr h4)]; rfl
    have hmul := div_mul hb.1 (by omega) h4
    have hmul0 : 0 ≤ n * base := Int.mul_nonneg h0 (by omega)
    refine ar (e := n * base) ⟨by omega, by omega⟩ ?_
    refine ar (e := n * base + dc (s.getD i 0)) ⟨by omega, by omega⟩ ?_
    refine ar (e := (i : Int) + 1) ⟨by omega, by omega⟩ ?_
    refine again (i + 1, n * base + dc (s.getD i 0)) [] ⟨by omega, by omega, ?_⟩ (by show s.length - (i + 1) < s.length - i; omega) ?_
    · rw [← hf, acc_some h3' h4]
    · ((repeat' constructor) <;> refine hold ?_ <;> first | with_reducible rfl | (congr 1 <;> omega) | (congr 1 <;> simp; done) | (simp; done) | exact encB_snoc _ _ | skip)
  · repeat refine seq_on ?_
    show pres (n, 0) = pres _
    rw [← hf, List.drop_eq_nil_of_le (by omega)]; rfl
end Go.Proofs.YtpogmmcfkdofhaaDoor
