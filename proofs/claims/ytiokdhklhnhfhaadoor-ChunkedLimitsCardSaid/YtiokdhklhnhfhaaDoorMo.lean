import Derived.Test.YtiokdhklhnhfhaaDoorMi
import Derived.Test.YtiokdhklhnhfhaaDoorMn
import Derived.Test.YtiokdhklhnhfhaaDoorMd
namespace Go.Proofs.YtiokdhklhnhfhaaDoor
variable {G : List Go.Eng.Gl}
open Go.Eng
attribute [local irreducible] Hold
set_option maxRecDepth 100000

def wiV (x n : Int) : Nat := ((x.tmod n + n).tmod n).toNat
theorem wiV_lt (x n : Int) (hn : 1 ≤ n) : (wiV x n : Int) < n := by
  have h3 : 0 ≤ (x.tmod n + n).tmod n := by
    have h1 : -n < x.tmod n := Int.lt_tmod_of_pos x (by omega)
    exact Int.tmod_nonneg _ (by omega)
  have h4 : (x.tmod n + n).tmod n < n := Int.tmod_lt_of_pos _ (by omega)
  unfold wiV; omega
theorem withinV (x n : Int) (hn : 1 ≤ n ∧ n ≤ 4611686018427387904) : Does (CG G) 16 [.i .i64 x, .i .i64 n] [.i .i64 (wiV x n : Int)] := by
  have h1 : -n < x.tmod n := Int.lt_tmod_of_pos x (by omega)
  have h2 : x.tmod n < n := Int.tmod_lt_of_pos x (by omega)
  have h3 : 0 ≤ (x.tmod n + n).tmod n := Int.tmod_nonneg _ (by omega)
  unfold wiV
  rw [Int.toNat_of_nonneg h3]
  refine Does.mk (n := 12) Tryd.func16 rfl rfl rfl (Nat.le_of_ble_eq_true rfl) ?_
  refine div_ok (by omega) ?_
  refine ar ⟨by omega, by omega⟩ ?_
  refine div_ok (by omega) ?_
  exact rfl

def nxV (l : List Int) (i : Nat) (n : Int) : Nat := if i < l.length then wiV (l.getD i 0) n else 0
theorem nxV_lt (l : List Int) (i : Nat) (n : Int) (hn : 1 ≤ n) : (nxV l i n : Int) < n := by
  unfold nxV; split
  · exact wiV_lt _ _ hn
  · simp; omega
theorem nextV (l : List Int) (i : Nat) (n : Int) (hi : i ≤ l.length) (hl : l.length ≤ 1000000) (hn : 1 ≤ n ∧ n ≤ 4611686018427387904) : DoesH (CG G) 60 [.op 0 0 0, .d (.i .i64 n)] (srcB l i) [.d (.i .i64 (nxV l i n : Int))] (srcB l (nxt l i)) := by
  have hlen : (l.map (D.i .i64)).length = l.length := by simp
  by_cases h : i < l.length
  · refine DoesH.mk (n := 35) Tryd.func60 rfl rfl rfl (Nat.le_of_ble_eq_true rfl) rfl ?_
    repeat refine seq_on ?_
    refine cmp_no (by omega) ?_
    refine ⟨draw_ok (by kernel_rfl), ?_⟩
    repeat refine seq_on ?_
    refine ar ⟨by omega, by omega⟩ ?_
    refine ar ⟨by omega, by omega⟩ ?_
    refine Eng.get_at i (by omega) (getInts h) ?_
    refine call_by (withinV _ n hn) ?_
    refine ⟨draw_ok (by kernel_rfl), ?_⟩
    refine end_ok [] ?_
    simp only [nxt, nxV, if_pos h]
    ((repeat' constructor) <;> refine hold ?_ <;> first | with_reducible rfl | (congr 1 <;> omega) | (congr 1 <;> simp; done) | (simp; done) | exact encB_snoc _ _ | skip)
  · refine DoesH.mk (n := 35) Tryd.func60 rfl rfl rfl (Nat.le_of_ble_eq_true rfl) rfl ?_
    repeat refine seq_on ?_
    refine cmp_yes (by omega) ?_
    refine ⟨draw_ok (by kernel_rfl), ?_⟩
    repeat refine seq_on ?_
    refine end_ok [] ?_
    simp only [nxt, nxV, if_neg h]
    ((repeat' constructor) <;> refine hold ?_ <;> first | with_reducible rfl | (congr 1 <;> omega) | (congr 1 <;> simp; done) | (simp; done) | exact encB_snoc _ _ | skip)

def ofF (l : List Int) (i : Nat) (m : List (List UInt8)) : List UInt8 := m.getD (nxV l i (m.length : Int)) []
theorem ofF_mem (l : List Int) (i : Nat) (m : List (List UInt8)) (hm : 1 ≤ m.length) : ofF l i m ∈ m := by
  have := nxV_lt l i (m.length : Int) (by omega)
  unfold ofF
  rw [List.getD_eq_getElem?_getD, List.getElem?_eq_getElem (by omega)]
  exact List.getElem_mem _
theorem ofV (l : List Int) (i : Nat) (m : List (List UInt8)) (hi : i ≤ l.length) (hl : l.length ≤ 1000000) (hm : 1 ≤ m.length ∧ m.length ≤ 1000000) : DoesH (CG G) 61 [.op 0 0 0, .d (strs m)] (srcB l i) [.d (.s (ofF l i m))] (srcB l (nxt l i)) := by
  have hlen : (m.map D.s).length = m.length := by simp
  have hx := nextV (G := G) l i ((m.map D.s).length : Int) hi hl (by omega)
  have hr := nxV_lt l i (m.length : Int) (by omega)
  unfold ofF
  rw [hlen] at hx
  generalize hg : nxV l i (m.length : Int) = r at hx hr
  have hr' : r < m.length := by omega
  have hgd : m.getD r [] = m[r] := by simp [hr']
  rw [hgd]
  rw [← hlen] at hx
  refine DoesH.mk (n := 12) Tryd.func61 rfl rfl rfl (Nat.le_of_ble_eq_true rfl) rfl ?_
  refine callh [(0, 0)] hx ?_ ?_
  · ((repeat' constructor) <;> refine hold ?_ <;> first | with_reducible rfl | (congr 1 <;> omega) | (congr 1 <;> simp; done) | (simp; done) | exact encB_snoc _ _ | skip)
  refine Eng.get_at r rfl (x := D.s m[r]) (by simp [hr']) ?_
  refine end_ok [] ?_
  ((repeat' constructor) <;> refine hold ?_ <;> first | with_reducible rfl | (congr 1 <;> omega) | (congr 1 <;> simp; done) | (simp; done) | exact encB_snoc _ _ | skip)

def alpha7 : List UInt8 := [97, 98, 13, 10, 48, 59, 32]
def byW (l : List Int) : Nat → Nat → List UInt8 → List UInt8 × Nat
  | 0, i, o => (o, i)
  | k + 1, i, o => byW l k (nxt l i) (o ++ [alpha7.getD (nxV l i 7) 0])
def bytesF (l : List Int) (i : Nat) (most : Int) : List UInt8 × Nat := byW l (nxV l i (most + 1)) (nxt l i) []
theorem nxt_le' {l : List Int} {i : Nat} (h : i ≤ l.length) : i ≤ nxt l i ∧ nxt l i ≤ l.length := by unfold nxt; split <;> omega
theorem byW_len (l : List Int) : ∀ (k i : Nat) (o : List UInt8), (byW l k i o).1.length = o.length + k
  | 0, _, _ => rfl
  | k + 1, i, o => by simp only [byW]; rw [byW_len l k]; simp; omega
theorem byW_le (l : List Int) : ∀ (k i : Nat) (o : List UInt8), i ≤ l.length → i ≤ (byW l k i o).2 ∧ (byW l k i o).2 ≤ l.length
  | 0, i, _, h => ⟨Nat.le_refl i, h⟩
  | k + 1, i, o, h => by
    have := nxt_le' h
    have := byW_le l k (nxt l i) (o ++ [alpha7.getD (nxV l i 7) 0]) this.2
    simp only [byW]; omega

theorem bytesV (l : List Int) (i : Nat) (most : Int) (hi : i ≤ l.length) (hl : l.length ≤ 1000000) (hm : 0 ≤ most ∧ most ≤ 1000000) : DoesH (CG G) 67 [.op 0 0 0, .d (.i .i64 most)] (srcB l i) [.os 16] ((16, some (.buf 1 (encB (bytesF l i most).1))) :: srcB l (bytesF l i most).2) := by
  unfold bytesF
  have hr := nxV_lt l i (most + 1) (by omega)
  have hx := nextV (G := G) l i (most + 1) hi hl (by omega)
  generalize hg : nxV l i (most + 1) = r at hx hr
  have hn := nxt_le' hi
  generalize hfin : byW l r (nxt l i) [] = fin
  refine DoesH.mk (n := 22) Tryd.func67 rfl rfl rfl (Nat.le_of_ble_eq_true rfl) rfl ?_
  repeat refine seq_on ?_
  refine ar ⟨by omega, by omega⟩ ?_
  refine callh [(0, 0)] hx ?_ ?_
  · ((repeat' constructor) <;> refine hold ?_ <;> first | with_reducible rfl | (congr 1 <;> omega) | (congr 1 <;> simp; done) | (simp; done) | exact encB_snoc _ _ | skip)
  repeat refine seq_on ?_
  apply loop_inv (fun x : Nat × Nat × List UInt8 => x.2.1 ≤ l.length ∧ x.2.2.length + x.1 ≤ 1000000 ∧ byW l x.1 x.2.1 x.2.2 = fin) (fun x => ⟨[(0, .op 0 0 0), (5, .os 16), (6, .d (.i .i64 (x.1 : Int)))], (16, some (.buf 1 (encB x.2.2))) :: srcB l x.2.1, 2⟩) (fun x => x.1) (r, nxt l i, []) ⟨hn.2, by simp; omega, hfin⟩ [(16, _)]
  · simp only [srcB]
    ((repeat' constructor) <;> refine hold ?_ <;> first | with_reducible rfl | (congr 1 <;> omega) | (congr 1 <;> simp; done) | (simp; done) | exact encB_snoc _ _ | skip)
  · rintro ⟨k, j, o⟩ ⟨h1, h2, h3⟩
    simp only at h1 h2 h3
    repeat refine seq_on ?_
    refine cmp_dec (fun h => ?_) (fun h => ?_)
    · obtain ⟨k, rfl⟩ : ∃ q, k = q + 1 := ⟨k - 1, by omega⟩
      have h7 := nxV_lt l j 7 (by omega)
      have h7' := nextV (G := G) l j 7 h1 hl (by omega)
      simp only [byW] at h3
      generalize hg7 : nxV l j 7 = q at h7 h7' h3
      have hal : alpha7[q]? = some (alpha7.getD q 0) := by
        have : q < alpha7.length := by have : alpha7.length = 7 := rfl
                                       omega
        simp [this]
      repeat refine seq_on ?_
      refine callh [(0, 0)] h7' ?_ ?_
      · ((repeat' constructor) <;> refine hold ?_ <;> first | with_reducible rfl | (congr 1 <;> omega) | (congr 1 <;> simp; done) | (simp; done) | exact encB_snoc _ _ | skip)
      refine Eng.get_at q rfl hal ?_
      refine app_ok (by rw [encB_len]; simp; omega) ?_
      repeat refine seq_on ?_
      refine ar ⟨by omega, by omega⟩ ?_
      apply again (k, nxt l j, o ++ [alpha7.getD q 0]) [(16, _)] ⟨(nxt_le' h1).2, by simp; omega, h3⟩ (by simp only; omega)
      simp only [srcB]
      ((repeat' constructor) <;> refine hold ?_ <;> first | with_reducible rfl | (congr 1 <;> omega) | (congr 1 <;> simp; done) | (simp; done) | exact encB_snoc _ _ | skip)
      all_goals (rw [encB_app]; rfl)
    · obtain rfl : k = 0 := by omega
      simp only [byW] at h3
      subst h3
      repeat refine seq_on ?_
      apply end_ok [(16, _)]
      simp only [srcB]
      ((repeat' constructor) <;> refine hold ?_ <;> first | with_reducible rfl | (congr 1 <;> omega) | (congr 1 <;> simp; done) | (simp; done) | exact encB_snoc _ _ | skip)
end Go.Proofs.YtiokdhklhnhfhaaDoor

namespace Go.Proofs.YtiokdhklhnhfhaaDoor
variable {G : List Go.Eng.Gl}
open Go.Eng
attribute [local irreducible] Hold
set_option maxRecDepth 100000

/-- The state of the decoder of a chunked body. -/
structure Chk where
  ph : Int
  lf : Int
  tr : Int
  ln : List UInt8
def chkD (c : Chk) : D := .agg [.i .i64 c.ph, .i .i64 c.lf, .i .i64 c.tr, .sl 1 (encB c.ln)]
def chkA (c : Chk) (k : Nat) : AV := .agg [.d (.i .i64 c.ph), .d (.i .i64 c.lf), .d (.i .i64 c.tr), .os k]
def chkN (c : Chk) : AV := .agg [.d (.i .i64 c.ph), .d (.i .i64 c.lf), .d (.i .i64 c.tr), .nl 1]
structure Chk.Ok (c : Chk) : Prop where
  ph : c.ph = 0 ∨ c.ph = 1 ∨ c.ph = 2 ∨ c.ph = 3 ∨ c.ph = 4
  tr0 : c.ph ≠ 3 → c.ph ≠ 4 → c.tr = 0
  tr : 0 ≤ c.tr ∧ c.tr ≤ 1024
  lf0 : c.ph ≠ 1 → c.lf = 0
  lf : 0 ≤ c.lf ∧ c.lf ≤ 1000000000
  lf1 : c.ph = 1 → 0 < c.lf
  ln : c.ln.length ≤ 129
  lr : c.ln.getLast? ≠ some 13 → c.ln.length ≤ 128

noncomputable def sizedF (c : Chk) (l : List UInt8) : Chk × Int :=
  if (parseF 16 1000000000 (cutF 59 l).1).2 = 2 ∨ visF (cutF 59 l).2.1 = false then (c, 2)
  else if (parseF 16 1000000000 (cutF 59 l).1).2 ≠ 0 then (c, (parseF 16 1000000000 (cutF 59 l).1).2)
  else if (parseF 16 1000000000 (cutF 59 l).1).1 = 0 then ({ c with ph := 3, tr := 0 }, 0)
  else ({ c with ph := 1, lf := (parseF 16 1000000000 (cutF 59 l).1).1 }, 0)
/-- A line that is complete. -/
noncomputable def lineC (c : Chk) (l : List UInt8) : Chk × Int :=
  if c.ph = 0 then sizedF c l
  else if c.ph = 2 then (if l = [] then ({ c with ph := 0 }, 0) else (c, 2))
  else if l = [] then ({ c with ph := 4 }, 0) else if (fparseF l).2 = 0 then (c, 0) else (c, 2)
def bumpC (c : Chk) : Chk := if c.ph = 3 then { c with tr := c.tr + 1 } else c
/-- One byte of a line. -/
noncomputable def stepC (c : Chk) (x : UInt8) : Chk × Int :=
  if c.ph = 3 ∧ 1024 < c.tr + 1 then (bumpC c, 3)
  else if c.ln.getLast? = some 13 then (if x = 10 then lineC { bumpC c with ln := [] } c.ln.dropLast else (bumpC c, 2))
  else if x = 10 then (bumpC c, 2)
  else if 128 < c.ln.length + 1 ∧ x ≠ 13 then ({ bumpC c with ln := c.ln ++ [x] }, 3) else ({ bumpC c with ln := c.ln ++ [x] }, 0)

theorem ext201 (l : List UInt8) (hl : l.length ≤ 9223372036854775806) : Does (CG G) 201 [.s l] [.b (visF l)] := by
  refine Does.mk (n := 24) Tryd.func201 rfl rfl rfl (Nat.le_of_ble_eq_true rfl) ?_
  repeat refine seq_on ?_
  apply loop_inv (fun i : Nat => i ≤ l.length ∧ (l.take i).all viscF = true) (fun i => ⟨[(0, .d (.s l)), (6, .d (.i .i64 (l.length : Int))), (7, .d (.i .i64 (i : Int)))], [], 1⟩) (fun i => l.length - i) 0 ⟨Nat.zero_le _, by simp⟩ []
  · ((repeat' constructor) <;> refine hold ?_ <;> first | with_reducible rfl | (congr 1 <;> omega) | (congr 1 <;> simp; done) | (simp; done) | exact encB_snoc _ _ | skip)
  rintro i ⟨hi, hn⟩
  repeat refine seq_on ?_
  refine cmp_dec (fun h => ?_) (fun h => ?_)
  · have hi' : i < l.length := by omega
    repeat refine seq_on ?_
    refine Eng.get_at i rfl (x := l[i]) (by simp [hi']) ?_
    have no : ∀ (_ : viscF l[i] = false), [D.b false] = [D.b (visF l)] := fun hv => congrArg (fun x => [D.b x]) (Eq.symm (by unfold visF; rw [all_fail hi' hv]))
    repeat' (refine cmp_dec (fun _ => ?_) (fun _ => ?_))
    all_goals (repeat refine seq_on ?_)
    all_goals first
      | exact no (by unfold viscF; exact decide_eq_false (by omega))
      | (refine ar ⟨by omega, by omega⟩ ?_
         apply again (i + 1) [] ⟨by omega, all_step hi' hn (by unfold viscF; exact decide_eq_true (by omega))⟩ (by omega)
         ((repeat' constructor) <;> refine hold ?_ <;> first | with_reducible rfl | (congr 1 <;> omega) | (congr 1 <;> simp; done) | (simp; done) | exact encB_snoc _ _ | skip))
  · repeat refine seq_on ?_
    have ha := all_end (by omega) hn
    exact congrArg (fun x => [D.b x]) (Eq.symm (by unfold visF; rw [ha]))

theorem cutF_len (c : UInt8) (l : List UInt8) : (cutF c l).1.length ≤ l.length ∧ (cutF c l).2.1.length ≤ l.length := by
  unfold cutF; split <;> simp; omega

theorem sized1 (c : Chk) (l : List UInt8) (hl : l.length ≤ 4294967295) : DoesH (CG G) 157 [chkN c, .d (.s l)] [] [chkN (sizedF c l).1, .d (.i .i64 (sizedF c l).2)] [] := by
  refine DoesH.mk (n := 45) Tryd.func157 rfl rfl rfl (Nat.le_of_ble_eq_true rfl) rfl ?_
  obtain ⟨k1, k2⟩ := cutF_len 59 l
  refine call_by (cutS l 59 (by omega)) ?_
  repeat refine seq_on ?_
  have hp := parseHex21 (G := G) (cutF 59 l).1 1000000000 ⟨by omega, by omega⟩ (by omega)
  generalize hq : parseF 16 1000000000 (cutF 59 l).1 = q at hp
  obtain ⟨n, e⟩ := q
  refine call_by hp ?_
  apply seq_inv (fun _ : Unit => (e = 0 ∧ visF (cutF 59 l).2.1 = true)) (fun _ => ⟨[(2, .op 16 0 0), (4, .op 17 0 0)], [(16, some (.box [.d (.i .i64 (sizedF c l).1.ph), .d (.i .i64 (sizedF c l).1.lf), .d (.i .i64 (sizedF c l).1.tr), .nl 1])), (17, some (.box [.d (.i .i64 0), .d (.i .i64 0), .d (.i .i64 0), .nl 1]))], 2⟩)
  · have bad : e = 2 ∨ visF (cutF 59 l).2.1 = false → sizedF c l = (c, 2) := fun h => by unfold sizedF; rw [hq, if_pos h]
    refine cmp_dec (fun h1 => ?_) (fun h1 => ?_)
    · repeat refine seq_on ?_
      simp only [bad (.inl h1)]
      refine end_ok [] ?_
      ((repeat' constructor) <;> refine hold ?_ <;> first | with_reducible rfl | (congr 1 <;> omega) | (congr 1 <;> simp; done) | (simp; done) | exact encB_snoc _ _ | skip)
    · refine call_bool (ext201 _ (by omega)) (fun h2 => ?_) (fun h2 => ?_)
      · repeat refine seq_on ?_
        refine cmp_dec (fun h3 => ?_) (fun h3 => ?_)
        · repeat refine seq_on ?_
          have : sizedF c l = (c, e) := by unfold sizedF; rw [hq, if_neg (by simp only [h2]; simp; exact h1), if_pos h3]
          simp only [this]
          refine end_ok [] ?_
          ((repeat' constructor) <;> refine hold ?_ <;> first | with_reducible rfl | (congr 1 <;> omega) | (congr 1 <;> simp; done) | (simp; done) | exact encB_snoc _ _ | skip)
        · repeat refine seq_on ?_
          have h3' : e = 0 := by simpa using h3
          refine cmp_dec (fun h4 => ?_) (fun h4 => ?_)
          · repeat refine seq_on ?_
            have : sizedF c l = ({ c with ph := 3, tr := 0 }, 0) := by unfold sizedF; rw [hq, if_neg (by simp only [h2]; simp; exact h1), if_neg (by simpa using h3'), if_pos h4]
            apply cut_inv () [(16, _), (17, _)] ⟨h3', h2⟩
            simp only [this]
            ((repeat' constructor) <;> refine hold ?_ <;> first | with_reducible rfl | (congr 1 <;> omega) | (congr 1 <;> simp; done) | (simp; done) | exact encB_snoc _ _ | skip)
          · repeat refine seq_on ?_
            have : sizedF c l = ({ c with ph := 1, lf := n }, 0) := by unfold sizedF; rw [hq, if_neg (by simp only [h2]; simp; exact h1), if_neg (by simpa using h3'), if_neg h4]
            apply cut_inv () [(16, _), (17, _)] ⟨h3', h2⟩
            simp only [this]
            ((repeat' constructor) <;> refine hold ?_ <;> first | with_reducible rfl | (congr 1 <;> omega) | (congr 1 <;> simp; done) | (simp; done) | exact encB_snoc _ _ | skip)
      · repeat refine seq_on ?_
        simp only [bad (.inr h2)]
        refine end_ok [] ?_
        ((repeat' constructor) <;> refine hold ?_ <;> first | with_reducible rfl | (congr 1 <;> omega) | (congr 1 <;> simp; done) | (simp; done) | exact encB_snoc _ _ | skip)
  rintro ⟨⟩ ⟨he, hv⟩
  repeat refine seq_on ?_
  have : (sizedF c l).2 = 0 := by
    subst he
    unfold sizedF; rw [hq, if_neg (by simp [hv]), if_neg (by simp)]
    split <;> rfl
  rw [this]
  refine end_ok [] ?_
  ((repeat' constructor) <;> refine hold ?_ <;> first | with_reducible rfl | (congr 1 <;> omega) | (congr 1 <;> simp; done) | (simp; done) | exact encB_snoc _ _ | skip)
end Go.Proofs.YtiokdhklhnhfhaaDoor

namespace Go.Proofs.YtiokdhklhnhfhaaDoor
variable {G : List Go.Eng.Gl}
open Go.Eng
attribute [local irreducible] Hold
set_option maxRecDepth 100000

theorem complete1 (c : Chk) (l : List UInt8) (hl : l.length ≤ 4294967295) : DoesH (CG G) 113 [chkN c, .d (.s l)] [] [chkN (lineC c l).1, .d (.i .i64 (lineC c l).2)] [] := by
  refine DoesH.mk (n := 35) Tryd.func113 rfl rfl rfl (Nat.le_of_ble_eq_true rfl) rfl ?_
  apply seq_inv (fun _ : Unit => (lineC c l).2 = 0) (fun _ => ⟨[(2, .op 16 0 0), (4, .op 17 0 0)], [(16, some (.box [.d (.i .i64 (lineC c l).1.ph), .d (.i .i64 (lineC c l).1.lf), .d (.i .i64 (lineC c l).1.tr), .nl 1])), (17, some (.box [.d (.i .i64 0), .d (.i .i64 0), .d (.i .i64 0), .nl 1]))], 2⟩)
  · refine cmp_dec (fun h1 => ?_) (fun h1 => ?_)
    · repeat refine seq_on ?_
      have : lineC c l = sizedF c l := by unfold lineC; rw [if_pos h1]
      rw [this]
      refine call_alt (callh [] (sized1 c l hl) ?_ ?_)
      · ((repeat' constructor) <;> refine hold ?_ <;> first | with_reducible rfl | (congr 1 <;> omega) | (congr 1 <;> simp; done) | (simp; done) | exact encB_snoc _ _ | skip)
      repeat refine seq_on ?_
      refine end_ok [] ?_
      ((repeat' constructor) <;> refine hold ?_ <;> first | with_reducible rfl | (congr 1 <;> omega) | (congr 1 <;> simp; done) | (simp; done) | exact encB_snoc _ _ | skip)
    · repeat refine seq_on ?_
      refine cmp_dec (fun h2 => ?_) (fun h2 => ?_)
      · repeat refine seq_on ?_
        refine cmp_dec (fun h3 => ?_) (fun h3 => ?_)
        · repeat refine seq_on ?_
          have : lineC c l = (c, 2) := by unfold lineC; rw [if_neg h1, if_pos h2, if_neg h3]
          rw [this]
          refine end_ok [] ?_
          ((repeat' constructor) <;> refine hold ?_ <;> first | with_reducible rfl | (congr 1 <;> omega) | (congr 1 <;> simp; done) | (simp; done) | exact encB_snoc _ _ | skip)
        · repeat refine seq_on ?_
          have : lineC c l = ({ c with ph := 0 }, 0) := by unfold lineC; rw [if_neg h1, if_pos h2, if_pos (by simpa using h3)]
          rw [this]
          apply cut_inv () [(16, _), (17, _)] (by rfl)
          ((repeat' constructor) <;> refine hold ?_ <;> first | with_reducible rfl | (congr 1 <;> omega) | (congr 1 <;> simp; done) | (simp; done) | exact encB_snoc _ _ | skip)
      · repeat refine seq_on ?_
        refine cmp_dec (fun h3 => ?_) (fun h3 => ?_)
        · repeat refine seq_on ?_
          have : lineC c l = ({ c with ph := 4 }, 0) := by unfold lineC; rw [if_neg h1, if_neg h2, if_pos h3]
          rw [this]
          apply cut_inv () [(16, _), (17, _)] (by rfl)
          ((repeat' constructor) <;> refine hold ?_ <;> first | with_reducible rfl | (congr 1 <;> omega) | (congr 1 <;> simp; done) | (simp; done) | exact encB_snoc _ _ | skip)
        · repeat refine seq_on ?_
          have hp := fparse1 (G := G) l (by omega)
          refine call_by hp ?_
          repeat refine seq_on ?_
          refine cmp_dec (fun h4 => ?_) (fun h4 => ?_)
          · repeat refine seq_on ?_
            have : lineC c l = (c, 2) := by unfold lineC; rw [if_neg h1, if_neg h2, if_neg h3, if_neg h4]
            rw [this]
            refine end_ok [] ?_
            ((repeat' constructor) <;> refine hold ?_ <;> first | with_reducible rfl | (congr 1 <;> omega) | (congr 1 <;> simp; done) | (simp; done) | exact encB_snoc _ _ | skip)
          · repeat refine seq_on ?_
            have : lineC c l = (c, 0) := by unfold lineC; rw [if_neg h1, if_neg h2, if_neg h3, if_pos (by simpa using h4)]
            rw [this]
            apply cut_inv () [(16, _), (17, _)] (by rfl)
            ((repeat' constructor) <;> refine hold ?_ <;> first | with_reducible rfl | (congr 1 <;> omega) | (congr 1 <;> simp; done) | (simp; done) | exact encB_snoc _ _ | skip)
  rintro ⟨⟩ he
  repeat refine seq_on ?_
  rw [he]
  refine end_ok [] ?_
  ((repeat' constructor) <;> refine hold ?_ <;> first | with_reducible rfl | (congr 1 <;> omega) | (congr 1 <;> simp; done) | (simp; done) | exact encB_snoc _ _ | skip)

theorem clone68 (l : List UInt8) (h : l.length ≤ 68719476736) : DoesH (CG G) 68 [.d (.sl 1 (encB l))] [] [.os 16] [(16, some (.buf 1 (encB l)))] := by
  refine DoesH.mk (n := 8) Tryd.func68 rfl rfl rfl (Nat.le_of_ble_eq_true rfl) rfl ?_
  repeat refine seq_on ?_
  refine nil_both (fun h0 => ?_) (fun h0 => ?_)
  · repeat refine seq_on ?_
    refine both ?_ ?_
    · repeat refine seq_on ?_
      apply end_ok [(16, _)]
      ((repeat' constructor) <;> refine hold ?_ <;> first | with_reducible rfl | (congr 1 <;> omega) | (congr 1 <;> simp; done) | (simp; done) | exact encB_snoc _ _ | skip)
      exact h0.symm
    · repeat refine seq_on ?_
      refine app_ok (by simpa [encB] using h) ?_
      repeat refine seq_on ?_
      apply end_ok [(16, _)]
      ((repeat' constructor) <;> refine hold ?_ <;> first | with_reducible rfl | (congr 1 <;> omega) | (congr 1 <;> simp; done) | (simp; done) | exact encB_snoc _ _ | skip)
  · repeat refine seq_on ?_
    refine app_ok (by simpa [encB] using h) ?_
    repeat refine seq_on ?_
    apply end_ok [(16, _)]
    ((repeat' constructor) <;> refine hold ?_ <;> first | with_reducible rfl | (congr 1 <;> omega) | (congr 1 <;> simp; done) | (simp; done) | exact encB_snoc _ _ | skip)

theorem last_at {l : List UInt8} (h : 0 < l.length) : l.getLast? = some (l[l.length - 1]'(by omega)) := by
  rw [List.getLast?_eq_getElem?, List.getElem?_eq_getElem]

/-- The row of the line goes over to the name 16. -/
theorem letter1' (c : Chk) (x : UInt8) (hc : c.Ok) (h1 : c.ph ≠ 1) (h4 : c.ph ≠ 4) : DoesH (CG G) 69 [chkA c 1, .d (.i .u8 (x.toNat : Int))] [(1, some (.buf 1 (encB c.ln)))] [chkA (stepC c x).1 16, .d (.i .i64 (stepC c x).2)] [(16, some (.buf 1 (encB (stepC c x).1.ln)))] := by
  have hln := hc.ln
  have htr := hc.tr
  refine DoesH.mk (n := 67) Tryd.func69 rfl rfl rfl (Nat.le_of_ble_eq_true rfl) rfl ?_
  apply seq_inv (fun _ : Unit => ¬ (c.ph = 3 ∧ 1024 < c.tr + 1)) (fun _ => ⟨[(1, .d (.i .u8 (x.toNat : Int))), (2, .op 16 0 0), (4, .op 17 0 0)], [(16, some (.box [.d (.i .i64 (bumpC c).ph), .d (.i .i64 (bumpC c).lf), .d (.i .i64 (bumpC c).tr), .os 1])), (17, some (.box [.d (.i .i64 0), .d (.i .i64 0), .d (.i .i64 0), .nl 1])), (1, some (.buf 1 (encB c.ln)))], 2⟩)
  · refine cmp_dec (fun h3 => ?_) (fun h3 => ?_)
    · repeat refine seq_on ?_
      have hb : bumpC c = { c with tr := c.tr + 1 } := by unfold bumpC; rw [if_pos h3]
      refine ar ⟨by omega, by omega⟩ ?_
      refine cmp_dec (fun h5 => ?_) (fun h5 => ?_)
      · repeat refine seq_on ?_
        have : stepC c x = (bumpC c, 3) := by unfold stepC; rw [if_pos ⟨h3, by omega⟩]
        rw [this, hb]
        refine end_ok [(16, 1)] ?_
        ((repeat' constructor) <;> refine hold ?_ <;> first | with_reducible rfl | (congr 1 <;> omega) | (congr 1 <;> simp; done) | (simp; done) | exact encB_snoc _ _ | skip)
      · repeat refine seq_on ?_
        apply cut_inv () [(16, _), (17, _)] (fun e => h5 (by omega))
        rw [hb]
        ((repeat' constructor) <;> refine hold ?_ <;> first | with_reducible rfl | (congr 1 <;> omega) | (congr 1 <;> simp; done) | (simp; done) | exact encB_snoc _ _ | skip)
    · repeat refine seq_on ?_
      have hb : bumpC c = c := by unfold bumpC; rw [if_neg h3]
      apply cut_inv () [(16, _), (17, _)] (fun e => h3 e.1)
      rw [hb]
      ((repeat' constructor) <;> refine hold ?_ <;> first | with_reducible rfl | (congr 1 <;> omega) | (congr 1 <;> simp; done) | (simp; done) | exact encB_snoc _ _ | skip)
  rintro ⟨⟩ hno
  have hlnl : (encB c.ln).length = c.ln.length := by simp [encB]
  generalize hcb : bumpC c = cb
  have hph : cb.ph = c.ph := by rw [← hcb]; unfold bumpC; split <;> rfl
  have hst : stepC c x = if c.ln.getLast? = some 13 then (if x = 10 then lineC { cb with ln := [] } c.ln.dropLast else (cb, 2))
      else if x = 10 then (cb, 2)
      else if 128 < c.ln.length + 1 ∧ x ≠ 13 then ({ cb with ln := c.ln ++ [x] }, 3) else ({ cb with ln := c.ln ++ [x] }, 0) := by
    unfold stepC; rw [if_neg hno, hcb]
  have hcl : cb.ln = c.ln := by rw [← hcb]; unfold bumpC; split <;> rfl
  have app : c.ln.getLast? ≠ some 13 → x ≠ 10 → stepC c x = if 128 < c.ln.length + 1 ∧ x ≠ 13 then ({ cb with ln := c.ln ++ [x] }, 3) else ({ cb with ln := c.ln ++ [x] }, 0) := fun g1 g2 => by
    rw [hst, if_neg g1, if_neg g2]
  have x10 : (x.toNat : Int) = 10 ↔ x = 10 := ⟨fun e => UInt8.toNat.inj (show x.toNat = 10 by omega), fun e => by rw [e]; rfl⟩
  have x13 : (x.toNat : Int) = 13 ↔ x = 13 := ⟨fun e => UInt8.toNat.inj (show x.toNat = 13 by omega), fun e => by rw [e]; rfl⟩
  repeat refine seq_on ?_
  refine cmp_dec (fun h5 => ?_) (fun h5 => ?_)
  · rw [hlnl] at h5
    have h0 : 0 < c.ln.length := by omega
    refine ar ⟨by rw [hlnl]; omega, by rw [hlnl]; omega⟩ ?_
    refine idx (c.ln.length - 1) (by rw [hlnl]; omega) (by rw [hlnl]; omega) ?_
    refine at_is (x := .i .u8 ((c.ln[c.ln.length - 1]'(by omega)).toNat : Int)) (encB_at (by omega)) ?_
    have hl13 : c.ln.getLast? = some 13 ↔ ((c.ln[c.ln.length - 1]'(by omega)).toNat : Int) = 13 := by
      rw [last_at h0]
      exact ⟨fun e => by rw [Option.some.inj e]; rfl, fun e => congrArg some (UInt8.toNat.inj (show _ = 13 by omega))⟩
    refine cmp_dec (fun h6 => ?_) (fun h6 => ?_)
    · repeat refine seq_on ?_
      have g1 := hl13.2 h6
      refine cmp_dec (fun h7 => ?_) (fun h7 => ?_)
      · repeat refine seq_on ?_
        have : stepC c x = (cb, 2) := by rw [hst, if_pos g1, if_neg (fun e => h7 (x10.2 e))]
        rw [this, hcl]
        refine end_ok [(16, 1)] ?_
        ((repeat' constructor) <;> refine hold ?_ <;> first | with_reducible rfl | (congr 1 <;> omega) | (congr 1 <;> simp; done) | (simp; done) | exact encB_snoc _ _ | skip)
      · repeat refine seq_on ?_
        have : stepC c x = lineC { cb with ln := [] } c.ln.dropLast := by rw [hst, if_pos g1, if_pos (x10.1 (by simpa using h7))]
        rw [this]
        refine ar ⟨by rw [hlnl]; omega, by rw [hlnl]; omega⟩ ?_
        refine bnd (c.ln.length - 1) (by rw [hlnl]; omega) (by rw [hlnl]; omega) ?_
        refine keep_data ?_
        refine bytes_is c.ln.dropLast (by simp [encB, List.dropLast_eq_take]) ?_
        repeat refine seq_on ?_
        refine call_alt (callh [] (complete1 { cb with ln := [] } c.ln.dropLast (by simp; omega)) ?_ ?_)
        · ((repeat' constructor) <;> refine hold ?_ <;> first | with_reducible rfl | (congr 1 <;> omega) | (congr 1 <;> simp; done) | (simp; done) | exact encB_snoc _ _ | skip)
        repeat refine seq_on ?_
        have hl0 : (lineC { cb with ln := [] } c.ln.dropLast).1.ln = [] := by
          unfold lineC sizedF
          repeat' split
          all_goals rfl
        rw [hl0]
        refine end_ok [(16, 14)] ?_
        ((repeat' constructor) <;> refine hold ?_ <;> first | with_reducible rfl | (congr 1 <;> omega) | (congr 1 <;> simp; done) | (simp; done) | exact encB_snoc _ _ | skip)
    · repeat refine seq_on ?_
      have g1 : c.ln.getLast? ≠ some 13 := fun e => h6 (hl13.1 e)
      refine cmp_dec (fun h7 => ?_) (fun h7 => ?_)
      · repeat refine seq_on ?_
        have : stepC c x = (cb, 2) := by rw [hst, if_neg g1, if_pos (x10.1 h7)]
        rw [this, hcl]
        refine end_ok [(16, 1)] ?_
        ((repeat' constructor) <;> refine hold ?_ <;> first | with_reducible rfl | (congr 1 <;> omega) | (congr 1 <;> simp; done) | (simp; done) | exact encB_snoc _ _ | skip)
      · have g2 : x ≠ 10 := fun e => h7 (x10.2 e)
        have hap := app g1 g2
        repeat refine seq_on ?_
        refine app_ok (by simp [encB]; omega) ?_
        repeat refine seq_on ?_
        refine cmp_dec (fun h8 => ?_) (fun h8 => ?_)
        · simp only [List.length_append, List.length_singleton, hlnl] at h8
          refine cmp_dec (fun h9 => ?_) (fun h9 => ?_)
          · repeat refine seq_on ?_
            rw [hap, if_pos ⟨by omega, fun e => h9 (x13.2 e)⟩]
            apply end_ok [(16, _)]
            ((repeat' constructor) <;> refine hold ?_ <;> first | with_reducible rfl | (congr 1 <;> omega) | (congr 1 <;> simp; done) | (simp; done) | exact encB_snoc _ _ | skip)
            all_goals exact encB_app c.ln [x]
          · repeat refine seq_on ?_
            rw [hap, if_neg (fun e => e.2 (x13.1 (by simpa using h9)))]
            apply end_ok [(16, _)]
            ((repeat' constructor) <;> refine hold ?_ <;> first | with_reducible rfl | (congr 1 <;> omega) | (congr 1 <;> simp; done) | (simp; done) | exact encB_snoc _ _ | skip)
            all_goals exact encB_app c.ln [x]
        · simp only [List.length_append, List.length_singleton, hlnl] at h8
          repeat refine seq_on ?_
          rw [hap, if_neg (fun e => h8 (by omega))]
          apply end_ok [(16, _)]
          ((repeat' constructor) <;> refine hold ?_ <;> first | with_reducible rfl | (congr 1 <;> omega) | (congr 1 <;> simp; done) | (simp; done) | exact encB_snoc _ _ | skip)
          all_goals exact encB_app c.ln [x]
  · repeat refine seq_on ?_
    have hnil : c.ln = [] := List.eq_nil_of_length_eq_zero (by omega)
    have g1 : c.ln.getLast? ≠ some 13 := by rw [hnil]; simp
    refine cmp_dec (fun h7 => ?_) (fun h7 => ?_)
    · repeat refine seq_on ?_
      have : stepC c x = (cb, 2) := by rw [hst, if_neg g1, if_pos (x10.1 h7)]
      rw [this, hcl]
      refine end_ok [(16, 1)] ?_
      ((repeat' constructor) <;> refine hold ?_ <;> first | with_reducible rfl | (congr 1 <;> omega) | (congr 1 <;> simp; done) | (simp; done) | exact encB_snoc _ _ | skip)
    · have g2 : x ≠ 10 := fun e => h7 (x10.2 e)
      have hap := app g1 g2
      repeat refine seq_on ?_
      refine app_ok (by simp [encB]; omega) ?_
      repeat refine seq_on ?_
      refine cmp_dec (fun h8 => ?_) (fun h8 => ?_)
      · simp only [List.length_append, List.length_singleton, hlnl] at h8
        refine cmp_dec (fun h9 => ?_) (fun h9 => ?_)
        · repeat refine seq_on ?_
          rw [hap, if_pos ⟨by omega, fun e => h9 (x13.2 e)⟩]
          apply end_ok [(16, _)]
          ((repeat' constructor) <;> refine hold ?_ <;> first | with_reducible rfl | (congr 1 <;> omega) | (congr 1 <;> simp; done) | (simp; done) | exact encB_snoc _ _ | skip)
          all_goals exact encB_app c.ln [x]
        · repeat refine seq_on ?_
          rw [hap, if_neg (fun e => e.2 (x13.1 (by simpa using h9)))]
          apply end_ok [(16, _)]
          ((repeat' constructor) <;> refine hold ?_ <;> first | with_reducible rfl | (congr 1 <;> omega) | (congr 1 <;> simp; done) | (simp; done) | exact encB_snoc _ _ | skip)
          all_goals exact encB_app c.ln [x]
      · simp only [List.length_append, List.length_singleton, hlnl] at h8
        repeat refine seq_on ?_
        rw [hap, if_neg (fun e => h8 (by omega))]
        apply end_ok [(16, _)]
        ((repeat' constructor) <;> refine hold ?_ <;> first | with_reducible rfl | (congr 1 <;> omega) | (congr 1 <;> simp; done) | (simp; done) | exact encB_snoc _ _ | skip)
        all_goals exact encB_app c.ln [x]
end Go.Proofs.YtiokdhklhnhfhaaDoor

namespace Go.Proofs.YtiokdhklhnhfhaaDoor
open Go.Eng
attribute [local irreducible] Hold
set_option maxRecDepth 100000

/-! ### Feed, byte by byte -/

def Chk.zero : Chk := ⟨0, 0, 0, []⟩
structure FeedR where
  c : Chk
  out : List UInt8
  n : Nat
  e : Int
def dataC (c : Chk) : Chk := { c with lf := c.lf - 1, ph := if c.lf - 1 = 0 then 2 else c.ph }
noncomputable def feedG (room : Int) : Chk → List UInt8 → List UInt8 → Nat → FeedR
  | c, out, [], i => ⟨c, out, i, 0⟩
  | c, out, x :: r, i => if c.ph = 4 ∨ c.ph = 1 ∧ room ≤ out.length then ⟨c, out, i, 0⟩
    else if c.ph = 1 then feedG room (dataC c) (out ++ [x]) r (i + 1)
    else if (stepC c x).2 ≠ 0 then ⟨.zero, [], 0, (stepC c x).2⟩ else feedG room (stepC c x).1 out r (i + 1)
def FeedR.ds (r : FeedR) : List D := [chkD r.c, .sl 1 (encB r.out), .i .i64 (r.n : Int), .i .i64 r.e]

theorem accC_le {base most : Int} (hb : 2 ≤ base) : ∀ {l : List UInt8} {n m : Int}, 0 ≤ n → n ≤ most → acc base most l n = some m → 0 ≤ m ∧ m ≤ most
  | [], n, m, h0, h1, h => by simp only [acc, Option.some.injEq] at h; subst h; exact ⟨h0, h1⟩
  | c :: l, n, m, h0, h1, h => by
    by_cases hc : most < dc c ∨ (most - dc c).tdiv base < n
    · rw [acc_none hc] at h; cases h
    · have hd := dc_lo c
      rw [acc_some (fun e => hc (.inl e)) (fun e => hc (.inr e))] at h
      have := div_mul hb (by omega) (fun e => hc (.inr e))
      refine accC_le hb ?_ (by omega) h
      have := Int.mul_nonneg h0 (show 0 ≤ base by omega)
      omega
theorem parseF_le {base most : Int} (hb : 2 ≤ base) (hm : 0 ≤ most) (l : List UInt8) : 0 ≤ (parseF base most l).1 ∧ (parseF base most l).1 ≤ most := by
  by_cases h : bad base l ∨ l = []
  · rw [parseF_bad h]; exact ⟨Int.le_refl _, hm⟩
  · rw [parseF_ok (fun e => h (.inl e)) (fun e => h (.inr e))]
    cases ha : acc base most l 0 with
    | none => exact ⟨Int.le_refl _, hm⟩
    | some m => exact accC_le hb (Int.le_refl _) hm ha

theorem bumpC_ok {c : Chk} (hc : c.Ok) (h1 : ¬ (c.ph = 3 ∧ 1024 < c.tr + 1)) : (bumpC c).Ok := by
  unfold bumpC
  split
  · rename_i h3
    obtain ⟨a1, a2, a3, a4, a5, a6, a7, a8⟩ := hc
    exact ⟨a1, fun e => absurd h3 e, ⟨by show 0 ≤ c.tr + 1; omega, by show c.tr + 1 ≤ 1024; omega⟩, a4, a5, a6, a7, a8⟩
  · exact hc
theorem lineC_ok {c : Chk} {l : List UInt8} (hc : c.Ok) (h1 : c.ph ≠ 1) : (lineC c l).1.Ok ∧ ((lineC c l).2 = 0 → (lineC c l).1.ph ≠ 1 ∨ (lineC c l).1.ln = c.ln) := by
  obtain ⟨a1, a2, a3, a4, a5, a6, a7, a8⟩ := hc
  have hp := parseF_le (base := 16) (most := 1000000000) (by decide) (by decide) (cutF 59 l).1
  have A : ∀ e : Int, ((c, e) : Chk × Int).1.Ok ∧ (((c, e) : Chk × Int).2 = 0 → ((c, e) : Chk × Int).1.ph ≠ 1 ∨ ((c, e) : Chk × Int).1.ln = c.ln) := fun e => ⟨⟨a1, a2, a3, a4, a5, a6, a7, a8⟩, fun _ => .inr rfl⟩
  have l0 := a4 h1
  unfold lineC sizedF
  split
  · rename_i h0
    have t0 : c.tr = 0 := a2 (by omega) (by omega)
    split
    · exact A _
    · split
      · exact A _
      · split
        · exact ⟨⟨.inr (.inr (.inr (.inl rfl))), fun e => absurd rfl e, ⟨show (0:Int) ≤ 0 by decide, show (0:Int) ≤ 1024 by decide⟩, fun _ => l0, a5, fun e => absurd e (show ¬ (3:Int) = 1 by decide), a7, a8⟩, fun _ => .inr rfl⟩
        · exact ⟨⟨.inr (.inl rfl), fun _ _ => t0, a3, fun e => absurd rfl e, ⟨hp.1, hp.2⟩, fun _ => by show 0 < (parseF 16 1000000000 (cutF 59 l).1).1; omega, a7, a8⟩, fun _ => .inr rfl⟩
  · split
    · rename_i h2
      have t0 : c.tr = 0 := a2 (by omega) (by omega)
      split
      · exact ⟨⟨.inl rfl, fun _ _ => t0, a3, fun _ => l0, a5, fun e => absurd e (show ¬ (0:Int) = 1 by decide), a7, a8⟩, fun _ => .inr rfl⟩
      · exact A _
    · split
      · exact ⟨⟨.inr (.inr (.inr (.inr rfl))), fun _ e => absurd rfl e, a3, fun _ => l0, a5, fun e => absurd e (show ¬ (4:Int) = 1 by decide), a7, a8⟩, fun _ => .inr rfl⟩
      · split
        · exact A _
        · exact A _
theorem stepC_ok {c : Chk} {x : UInt8} (hc : c.Ok) (h1 : c.ph ≠ 1) (he : (stepC c x).2 = 0) : (stepC c x).1.Ok := by
  by_cases hb : c.ph = 3 ∧ 1024 < c.tr + 1
  · unfold stepC at he; rw [if_pos hb] at he; cases he
  have hB := bumpC_ok hc hb
  have hph : (bumpC c).ph = c.ph := by unfold bumpC; split <;> rfl
  have hln : (bumpC c).ln = c.ln := by unfold bumpC; split <;> rfl
  unfold stepC at he ⊢
  rw [if_neg hb] at he ⊢
  split at he
  · rename_i h2
    rw [if_pos h2]
    split at he
    · rename_i h3
      rw [if_pos h3]
      obtain ⟨a1, a2, a3, a4, a5, a6, a7, a8⟩ := hB
      exact (lineC_ok (c := { bumpC c with ln := [] }) ⟨a1, a2, a3, a4, a5, a6, by simp, by simp⟩ (by rw [← hph] at h1; exact h1)).1
    · cases he
  · rename_i h2
    rw [if_neg h2]
    split at he
    · cases he
    · rename_i h3
      rw [if_neg h3]
      split at he
      · cases he
      · rename_i h4
        rw [if_neg h4]
        obtain ⟨a1, a2, a3, a4, a5, a6, a7, a8⟩ := hB
        have := hc.lr h2
        refine ⟨a1, a2, a3, a4, a5, a6, ?_, fun hl => ?_⟩
        · show (c.ln ++ [x]).length ≤ 129
          rw [List.length_append]; simp only [List.length_singleton]; omega
        · have hx : x ≠ 13 := fun e => hl (by show (c.ln ++ [x]).getLast? = some 13; rw [e]; simp)
          show (c.ln ++ [x]).length ≤ 128
          rw [List.length_append]; simp only [List.length_singleton]
          rcases Nat.lt_or_ge 128 (c.ln.length + 1) with h | h
          · exact absurd ⟨h, hx⟩ h4
          · exact h
theorem dataC_ok {c : Chk} (hc : c.Ok) (h1 : c.ph = 1) : (dataC c).Ok := by
  obtain ⟨a1, a2, a3, a4, a5, a6, a7, a8⟩ := hc
  have := a6 h1
  have ht : c.tr = 0 := a2 (by omega) (by omega)
  unfold dataC
  split
  · rename_i h
    exact ⟨by simp, fun _ _ => ht, a3, fun _ => h, ⟨by show 0 ≤ c.lf - 1; omega, by show c.lf - 1 ≤ _; omega⟩, by simp, a7, a8⟩
  · rename_i h
    exact ⟨a1, a2, a3, fun e => absurd h1 e, ⟨by show 0 ≤ c.lf - 1; omega, by show c.lf - 1 ≤ _; omega⟩, fun _ => by show 0 < c.lf - 1; omega, a7, a8⟩
end Go.Proofs.YtiokdhklhnhfhaaDoor

namespace Go.Proofs.YtiokdhklhnhfhaaDoor
variable {G : List Go.Eng.Gl}
open Go.Eng
attribute [local irreducible] Hold
set_option maxRecDepth 100000

theorem split_head (c : UInt8) : ∀ l : List UInt8, ∃ t, splitF c l = (cutF c l).1 :: t
  | [] => ⟨[], rfl⟩
  | x :: r => by
    obtain ⟨t, ht⟩ := split_head c r
    simp only [splitF]
    by_cases h : x = c
    · refine ⟨splitF c r, ?_⟩
      rw [if_pos h]; simp [cutF, idxO, h]
    · rw [if_neg h, ht]
      refine ⟨t, ?_⟩
      simp only [cutF, idxO, if_neg h]
      cases idxO c r with
      | none => rfl
      | some i => rfl

theorem dc_vis {c : UInt8} (h : dc c < 16) : viscF c = true := by
  unfold viscF
  apply decide_eq_true
  unfold dc dg at h
  have := c.toNat_lt
  repeat' split at h
  all_goals omega
theorem vis_line {l : List UInt8} (h : (parseF 16 1000000000 (cutF 59 l).1).2 ≠ 2) : visF l = visF (cutF 59 l).2.1 := by
  have hd : (cutF 59 l).1.all viscF = true := by
    by_cases hb : bad 16 (cutF 59 l).1 ∨ (cutF 59 l).1 = []
    · rw [parseF_bad hb] at h; exact absurd rfl h
    · rw [List.all_eq_true]
      intro c hc
      refine dc_vis ?_
      have h5 : ¬ bad 16 (cutF 59 l).1 := fun e => hb (.inl e)
      unfold bad at h5
      rcases Int.lt_or_le (dc c) 16 with h6 | h6
      · exact h6
      · exact absurd ⟨c, hc, h6⟩ h5
  unfold cutF at hd ⊢
  cases hi : idxO 59 l with
  | none =>
    simp only [hi] at hd
    simp only [visF, hd]; rfl
  | some i =>
    simp only [hi] at hd
    have := take_drop_at (idxO_some hi).2.1
    conv => lhs; rw [this]
    simp only [visF, List.all_append, List.all_cons, hd]
    rfl

theorem stepR (c : Chk) (x : UInt8) (hc : c.Ok) (h1 : c.ph ≠ 1) (h4 : c.ph ≠ 4) : Does (CG G) 70 [chkD c, .i .u8 (x.toNat : Int)] [chkD (stepC c x).1, .i .i64 (stepC c x).2] := by
  have hln := hc.ln
  have htr := hc.tr
  refine Does.mk (n := 120) Tryd.func70 rfl rfl rfl (Nat.le_of_ble_eq_true rfl) ?_
  apply seq_inv (fun _ : Unit => ¬ (c.ph = 3 ∧ 1024 < c.tr + 1)) (fun _ => ⟨[(1, .d (.i .u8 (x.toNat : Int))), (2, .op 16 0 0), (4, .op 17 0 0)], [(16, some (.box [.d (.i .i64 (bumpC c).ph), .d (.i .i64 (bumpC c).lf), .d (.i .i64 (bumpC c).tr), .d (.sl 1 (encB c.ln))])), (17, some (.box [.d (.i .i64 0), .d (.i .i64 0), .d (.i .i64 0), .nl 1]))], 2⟩)
  · refine cmp_dec (fun h3 => ?_) (fun h3 => ?_)
    · repeat refine seq_on ?_
      have hb : bumpC c = { c with tr := c.tr + 1 } := by unfold bumpC; rw [if_pos h3]
      refine ar ⟨by omega, by omega⟩ ?_
      refine cmp_dec (fun h5 => ?_) (fun h5 => ?_)
      · repeat refine seq_on ?_
        have : stepC c x = (bumpC c, 3) := by unfold stepC; rw [if_pos ⟨h3, by omega⟩]
        rw [this, hb]; rfl
      · repeat refine seq_on ?_
        apply cut_inv () [(16, _), (17, _)] (fun e => h5 (by omega))
        rw [hb]
        ((repeat' constructor) <;> refine hold ?_ <;> first | with_reducible rfl | (congr 1 <;> omega) | (congr 1 <;> simp; done) | (simp; done) | exact encB_snoc _ _ | skip)
    · repeat refine seq_on ?_
      have hb : bumpC c = c := by unfold bumpC; rw [if_neg h3]
      apply cut_inv () [(16, _), (17, _)] (fun e => h3 e.1)
      rw [hb]
      ((repeat' constructor) <;> refine hold ?_ <;> first | with_reducible rfl | (congr 1 <;> omega) | (congr 1 <;> simp; done) | (simp; done) | exact encB_snoc _ _ | skip)
  rintro ⟨⟩ hno
  have hlnl : (encB c.ln).length = c.ln.length := by simp [encB]
  have hbk := bumpC_ok hc hno
  generalize hcb : bumpC c = cb at hbk ⊢
  have hph : cb.ph = c.ph := by rw [← hcb]; unfold bumpC; split <;> rfl
  have hst : stepC c x = if c.ln.getLast? = some 13 then (if x = 10 then lineC { cb with ln := [] } c.ln.dropLast else (cb, 2))
      else if x = 10 then (cb, 2)
      else if 128 < c.ln.length + 1 ∧ x ≠ 13 then ({ cb with ln := c.ln ++ [x] }, 3) else ({ cb with ln := c.ln ++ [x] }, 0) := by
    unfold stepC; rw [if_neg hno, hcb]
  have hcl : cb.ln = c.ln := by rw [← hcb]; unfold bumpC; split <;> rfl
  have app : c.ln.getLast? ≠ some 13 → x ≠ 10 → stepC c x = if 128 < c.ln.length + 1 ∧ x ≠ 13 then ({ cb with ln := c.ln ++ [x] }, 3) else ({ cb with ln := c.ln ++ [x] }, 0) := fun g1 g2 => by
    rw [hst, if_neg g1, if_neg g2]
  have x10 : (x.toNat : Int) = 10 ↔ x = 10 := ⟨fun e => UInt8.toNat.inj (show x.toNat = 10 by omega), fun e => by rw [e]; rfl⟩
  have x13 : (x.toNat : Int) = 13 ↔ x = 13 := ⟨fun e => UInt8.toNat.inj (show x.toNat = 13 by omega), fun e => by rw [e]; rfl⟩
  have fin : chkD { cb with ln := c.ln ++ [x] } = .agg [.i .i64 cb.ph, .i .i64 cb.lf, .i .i64 cb.tr, .sl 1 (encB c.ln ++ [.i .u8 (x.toNat : Int)])] := by
    have := encB_app c.ln [x]
    unfold chkD
    rw [← this]; rfl
  have cbD : chkD cb = .agg [.i .i64 cb.ph, .i .i64 cb.lf, .i .i64 cb.tr, .sl 1 (encB c.ln)] := by unfold chkD; rw [hcl]
  -- the line's end
  apply seq_inv (fun _ : Unit => c.ln.getLast? = some 13) (fun _ => ⟨[(1, .d (.i .u8 (x.toNat : Int))), (2, .op 16 0 0), (4, .op 17 0 0), (6, .d (.i .i64 (c.ln.length : Int)))], [(16, some (.box [.d (.i .i64 cb.ph), .d (.i .i64 cb.lf), .d (.i .i64 cb.tr), .d (.sl 1 (encB c.ln))])), (17, some (.box [.d (.i .i64 0), .d (.i .i64 0), .d (.i .i64 0), .nl 1]))], 2⟩)
  · refine cmp_dec (fun h5 => ?_) (fun h5 => ?_)
    · rw [hlnl] at h5
      have hnil : c.ln = [] := List.eq_nil_of_length_eq_zero (by omega)
      have g1 : c.ln.getLast? ≠ some 13 := by rw [hnil]; simp
      repeat refine seq_on ?_
      refine cmp_dec (fun h7 => ?_) (fun h7 => ?_)
      · repeat refine seq_on ?_
        rw [hst, if_neg g1, if_pos (x10.1 h7)]
        exact congrArg (fun y => [y, D.i .i64 2]) cbD.symm
      · have g2 : x ≠ 10 := fun e => h7 (x10.2 e)
        rw [app g1 g2]
        repeat refine seq_on ?_
        refine app_ok (by simp [encB]; omega) ?_
        refine app_ok (by simp [encB]; omega) ?_
        repeat refine seq_on ?_
        refine cmp_dec (fun h8 => ?_) (fun h8 => ?_)
        · simp only [List.length_append, List.length_singleton, List.length_nil, List.nil_append, hlnl] at h8
          refine cmp_dec (fun h9 => ?_) (fun h9 => ?_)
          · repeat refine seq_on ?_
            rw [if_pos ⟨by omega, fun e => h9 (x13.2 e)⟩]
            exact congrArg (fun y => [y, D.i .i64 3]) fin.symm
          · repeat refine seq_on ?_
            rw [if_neg (fun e => e.2 (x13.1 (by simpa using h9)))]
            exact congrArg (fun y => [y, D.i .i64 0]) fin.symm
        · simp only [List.length_append, List.length_singleton, List.length_nil, List.nil_append, hlnl] at h8
          repeat refine seq_on ?_
          rw [if_neg (fun e => h8 (by omega))]
          exact congrArg (fun y => [y, D.i .i64 0]) fin.symm
    · rw [hlnl] at h5
      have h0 : 0 < c.ln.length := by omega
      refine ar ⟨by rw [hlnl]; omega, by rw [hlnl]; omega⟩ ?_
      refine Eng.get_at (c.ln.length - 1) (by rw [hlnl]; omega) (encB_at (by omega)) ?_
      have hl13 : c.ln.getLast? = some 13 ↔ ((c.ln[c.ln.length - 1]'(by omega)).toNat : Int) = 13 := by
        rw [last_at h0]
        exact ⟨fun e => by rw [Option.some.inj e]; rfl, fun e => congrArg some (UInt8.toNat.inj (show _ = 13 by omega))⟩
      refine cmp_dec (fun h6 => ?_) (fun h6 => ?_)
      · have g1 : c.ln.getLast? ≠ some 13 := fun e => h6 (hl13.1 e)
        repeat refine seq_on ?_
        refine cmp_dec (fun h7 => ?_) (fun h7 => ?_)
        · repeat refine seq_on ?_
          rw [hst, if_neg g1, if_pos (x10.1 h7)]
          exact congrArg (fun y => [y, D.i .i64 2]) cbD.symm
        · have g2 : x ≠ 10 := fun e => h7 (x10.2 e)
          rw [app g1 g2]
          repeat refine seq_on ?_
          refine app_ok (by simp [encB]; omega) ?_
          refine app_ok (by simp [encB]; omega) ?_
          repeat refine seq_on ?_
          refine cmp_dec (fun h8 => ?_) (fun h8 => ?_)
          · simp only [List.length_append, List.length_singleton, List.length_nil, List.nil_append, hlnl] at h8
            refine cmp_dec (fun h9 => ?_) (fun h9 => ?_)
            · repeat refine seq_on ?_
              rw [if_pos ⟨by omega, fun e => h9 (x13.2 e)⟩]
              exact congrArg (fun y => [y, D.i .i64 3]) fin.symm
            · repeat refine seq_on ?_
              rw [if_neg (fun e => e.2 (x13.1 (by simpa using h9)))]
              exact congrArg (fun y => [y, D.i .i64 0]) fin.symm
          · simp only [List.length_append, List.length_singleton, List.length_nil, List.nil_append, hlnl] at h8
            repeat refine seq_on ?_
            rw [if_neg (fun e => h8 (by omega))]
            exact congrArg (fun y => [y, D.i .i64 0]) fin.symm
      · repeat refine seq_on ?_
        apply cut_inv () [(16, _), (17, _)] (hl13.2 (by simpa using h6))
        ((repeat' constructor) <;> refine hold ?_ <;> first | with_reducible rfl | (congr 1 <;> omega) | (congr 1 <;> simp; done) | (simp; done) | exact encB_snoc _ _ | skip)
  rintro ⟨⟩ g1
  have h0 : 0 < c.ln.length := by
    rcases Nat.eq_zero_or_pos c.ln.length with h | h
    · rw [List.eq_nil_of_length_eq_zero h] at g1; cases g1
    · exact h
  repeat refine seq_on ?_
  refine cmp_dec (fun h7 => ?_) (fun h7 => ?_)
  · repeat refine seq_on ?_
    rw [hst, if_pos g1, if_neg (fun e => h7 (x10.2 e))]
    exact congrArg (fun y => [y, D.i .i64 2]) cbD.symm
  · have hl : stepC c x = lineC { cb with ln := [] } c.ln.dropLast := by rw [hst, if_pos g1, if_pos (x10.1 (by simpa using h7))]
    rw [hl]
    have hdl : c.ln.dropLast.length ≤ 128 := by simp; omega
    repeat refine seq_on ?_
    refine ar ⟨by omega, by omega⟩ ?_
    refine bnd (c.ln.length - 1) (by omega) (by rw [hlnl]; omega) ?_
    refine bytes_is c.ln.dropLast (by simp [encB, List.dropLast_eq_take]) ?_
    generalize c.ln.dropLast = line at hdl ⊢
    have c1 : cb.ph ≠ 1 := by rw [hph]; exact h1
    have c4 : cb.ph ≠ 4 := by rw [hph]; exact h4
    have l0 := hbk.lf0 c1
    have lnn : (lineC { cb with ln := [] } line).1.ln = [] := by
      unfold lineC sizedF
      repeat' split
      all_goals rfl
    apply seq_inv (fun _ : Unit => (lineC { cb with ln := [] } line).2 = 0) (fun _ => ⟨[(2, .op 16 0 0), (4, .op 17 0 0)], [(16, some (.box [.d (.i .i64 (lineC { cb with ln := [] } line).1.ph), .d (.i .i64 (lineC { cb with ln := [] } line).1.lf), .d (.i .i64 (lineC { cb with ln := [] } line).1.tr), .nl 1])), (17, some (.box [.d (.i .i64 0), .d (.i .i64 0), .d (.i .i64 0), .nl 1]))], 2⟩)
    · refine cmp_dec (fun k0 => ?_) (fun k0 => ?_)
      · repeat refine seq_on ?_
        have hS : lineC { cb with ln := [] } line = sizedF { cb with ln := [] } line := by unfold lineC; rw [if_pos k0]
        rw [hS]
        have t0 := hbk.tr0 (by omega) c4
        refine call_by (splitR line 59 (by omega)) ?_
        obtain ⟨t, ht⟩ := split_head 59 line
        rw [ht]
        refine Eng.get_at 0 rfl rfl ?_
        have hcl := cutF_len 59 line
        have hp := parseHex24 (G := G) (cutF 59 line).1 1000000000 ⟨by omega, by omega⟩ (by omega)
        have hv := vis_line (l := line)
        unfold sizedF
        generalize hq : parseF 16 1000000000 (cutF 59 line).1 = q at hp hv ⊢
        obtain ⟨n, e⟩ := q
        simp only at hv ⊢
        refine call_by hp ?_
        repeat refine seq_on ?_
        refine cmp_dec (fun k1 => ?_) (fun k1 => ?_)
        · repeat refine seq_on ?_
          rw [if_pos (.inl k1)]; rfl
        · refine call_bool (vis1 line (by omega)) (fun k2 => ?_) (fun k2 => ?_)
          · rw [hv k1] at k2
            rw [if_neg (by rw [k2]; simp; exact k1)]
            repeat refine seq_on ?_
            refine cmp_dec (fun k3 => ?_) (fun k3 => ?_)
            · repeat refine seq_on ?_
              rw [if_pos k3]; rfl
            · repeat refine seq_on ?_
              rw [if_neg k3]
              refine cmp_dec (fun k4 => ?_) (fun k4 => ?_)
              · repeat refine seq_on ?_
                rw [if_pos k4]
                apply cut_inv () [(16, _), (17, _)] (by rfl)
                simp only [l0, t0]
                ((repeat' constructor) <;> refine hold ?_ <;> first | with_reducible rfl | (congr 1 <;> omega) | (congr 1 <;> simp; done) | (simp; done) | exact encB_snoc _ _ | skip)
              · repeat refine seq_on ?_
                rw [if_neg k4]
                apply cut_inv () [(16, _), (17, _)] (by rfl)
                ((repeat' constructor) <;> refine hold ?_ <;> first | with_reducible rfl | (congr 1 <;> omega) | (congr 1 <;> simp; done) | (simp; done) | exact encB_snoc _ _ | skip)
          · rw [hv k1] at k2
            repeat refine seq_on ?_
            rw [if_pos (.inr k2)]; rfl
      · repeat refine seq_on ?_
        refine cmp_dec (fun k2 => ?_) (fun k2 => ?_)
        · repeat refine seq_on ?_
          refine cmp_dec (fun k3 => ?_) (fun k3 => ?_)
          · repeat refine seq_on ?_
            have : lineC { cb with ln := [] } line = ({ cb with ln := [] }, 2) := by unfold lineC; rw [if_neg k0, if_pos k2, if_neg k3]
            rw [this]; rfl
          · repeat refine seq_on ?_
            have : lineC { cb with ln := [] } line = ({ cb with ln := [], ph := 0 }, 0) := by unfold lineC; rw [if_neg k0, if_pos k2, if_pos (by simpa using k3)]
            rw [this]
            apply cut_inv () [(16, _), (17, _)] (by rfl)
            ((repeat' constructor) <;> refine hold ?_ <;> first | with_reducible rfl | (congr 1 <;> omega) | (congr 1 <;> simp; done) | (simp; done) | exact encB_snoc _ _ | skip)
        · repeat refine seq_on ?_
          refine cmp_dec (fun k3 => ?_) (fun k3 => ?_)
          · repeat refine seq_on ?_
            refine call_by (fparseR line (by omega)) ?_
            repeat refine seq_on ?_
            refine cmp_dec (fun k5 => ?_) (fun k5 => ?_)
            · repeat refine seq_on ?_
              have : lineC { cb with ln := [] } line = ({ cb with ln := [], ph := 4 }, 0) := by unfold lineC; rw [if_neg k0, if_neg k2, if_pos k5]
              rw [this]
              apply cut_inv () [(16, _), (17, _)] (by rfl)
              ((repeat' constructor) <;> refine hold ?_ <;> first | with_reducible rfl | (congr 1 <;> omega) | (congr 1 <;> simp; done) | (simp; done) | exact encB_snoc _ _ | skip)
            · repeat refine seq_on ?_
              refine cmp_dec (fun k6 => ?_) (fun k6 => ?_)
              · repeat refine seq_on ?_
                have : lineC { cb with ln := [] } line = ({ cb with ln := [] }, 2) := by unfold lineC; rw [if_neg k0, if_neg k2, if_neg k5, if_neg k6]
                rw [this]; rfl
              · repeat refine seq_on ?_
                have : lineC { cb with ln := [] } line = ({ cb with ln := [] }, 0) := by unfold lineC; rw [if_neg k0, if_neg k2, if_neg k5, if_pos (by simpa using k6)]
                rw [this]
                apply cut_inv () [(16, _), (17, _)] (by rfl)
                ((repeat' constructor) <;> refine hold ?_ <;> first | with_reducible rfl | (congr 1 <;> omega) | (congr 1 <;> simp; done) | (simp; done) | exact encB_snoc _ _ | skip)
          · exfalso
            have := hc.ph
            omega
    rintro ⟨⟩ he
    repeat refine seq_on ?_
    rw [he]
    unfold chkD
    rw [lnn]; rfl
end Go.Proofs.YtiokdhklhnhfhaaDoor

namespace Go.Proofs.YtiokdhklhnhfhaaDoor
variable {G : List Go.Eng.Gl}
open Go.Eng
attribute [local irreducible] Hold
set_option maxRecDepth 100000

theorem feedG_end {room : Int} {c : Chk} {out l : List UInt8} {i : Nat} (h : l.length ≤ i) : feedG room c out (l.drop i) i = ⟨c, out, i, 0⟩ := by
  rw [List.drop_eq_nil_of_le h]; rfl
theorem feedG_at {room : Int} {c : Chk} {out l : List UInt8} {i : Nat} (h : i < l.length) : feedG room c out (l.drop i) i = if c.ph = 4 ∨ c.ph = 1 ∧ room ≤ out.length then ⟨c, out, i, 0⟩
    else if c.ph = 1 then feedG room (dataC c) (out ++ [l[i]]) (l.drop (i + 1)) (i + 1)
    else if (stepC c l[i]).2 ≠ 0 then ⟨.zero, [], 0, (stepC c l[i]).2⟩ else feedG room (stepC c l[i]).1 out (l.drop (i + 1)) (i + 1) := by
  rw [List.drop_eq_getElem_cons h]; rfl

structure FdS where
  i : Nat
  c : Chk
  out : List UInt8
structure FdS.Inv (room : Int) (b : List UInt8) (c : Chk) (x : FdS) : Prop where
  hi : x.i ≤ b.length
  ok : x.c.Ok
  ho : x.out.length ≤ x.i
  eq : feedG room x.c x.out (b.drop x.i) x.i = feedG room c [] b 0
  rm : (x.out.length : Int) ≤ max room 0

def fdR (room : Int) (b : List UInt8) : FdS → AS
  | ⟨i, c, out⟩ => ⟨[(1, .d (.sl 1 (encB b))), (2, .d (.i .i64 room)), (3, .op 17 0 0), (6, .op 18 0 0), (10, .os 19), (11, .d (.i .i64 (i : Int)))],
   [(17, some (.box [.d (.i .i64 c.ph), .d (.i .i64 c.lf), .d (.i .i64 c.tr), .d (.sl 1 (encB c.ln))])), (18, some (.box [.d (.i .i64 0), .d (.i .i64 0), .d (.i .i64 0), .nl 1])), (19, some (.buf 1 (encB out)))], 2⟩

theorem feedR (c : Chk) (b : List UInt8) (room : Int) (hc : c.Ok) (hb : b.length ≤ 4294967295) (hr : I64 room) : Does (CG G) 26 [chkD c, .sl 1 (encB b), .i .i64 room] (feedG room c [] b 0).ds := by
  have hbl := encB_len b
  refine Does.mk (n := 71) Tryd.func26 rfl rfl rfl (Nat.le_of_ble_eq_true rfl) ?_
  repeat refine seq_on ?_
  apply loop_inv (FdS.Inv room b c) (fdR room b) (fun x => b.length - x.i) ⟨0, c, []⟩ ⟨by simp, hc, by simp, rfl, by simp only [List.length_nil]; omega⟩ [(17, _), (18, _), (19, _)]
  · ((repeat' constructor) <;> refine hold ?_ <;> first | with_reducible rfl | (congr 1 <;> omega) | (congr 1 <;> simp; done) | (simp; done) | exact encB_snoc _ _ | skip)
  rintro ⟨i, d, out⟩ ⟨hi, hd, ho, he, hrm⟩
  simp only at hi hd ho he hrm
  have hol := encB_len out
  repeat refine seq_on ?_
  refine cmp_dec (fun h => ?_) (fun h => ?_)
  · rw [hbl] at h
    have hi' : i < b.length := by omega
    have hf := feedG_at (room := room) (c := d) (out := out) hi'
    rw [he] at hf
    repeat refine seq_on ?_
    refine cmp_dec (fun h4 => ?_) (fun h4 => ?_)
    · repeat refine seq_on ?_
      rw [hf, if_pos (.inl h4)]; rfl
    · refine cmp_dec (fun h1 => ?_) (fun h1 => ?_)
      · refine cmp_dec (fun h2 => ?_) (fun h2 => ?_)
        · repeat refine seq_on ?_
          rw [hol] at h2
          rw [hf, if_pos (.inr ⟨h1, h2⟩)]; rfl
        · rw [hol] at h2
          rw [if_neg (fun e => e.elim h4 fun e => h2 e.2), if_pos h1] at hf
          repeat refine seq_on ?_
          refine cmp_yes h1 ?_
          have hl1 := hd.lf1 h1
          have hl2 := hd.lf
          repeat refine seq_on ?_
          refine Eng.get_at i rfl (encB_at hi') ?_
          refine app_ok (by simp [encB]; omega) ?_
          repeat refine seq_on ?_
          refine ar ⟨by omega, by omega⟩ ?_
          repeat refine seq_on ?_
          have hdk := dataC_ok hd h1
          have hrm' : ((out ++ [b[i]]).length : Int) ≤ max room 0 := by simp; omega
          refine cmp_dec (fun h5 => ?_) (fun h5 => ?_)
          · repeat refine seq_on ?_
            refine ar ⟨by omega, by omega⟩ ?_
            apply again ⟨i + 1, dataC d, out ++ [b[i]]⟩ [(17, _), (18, _), (19, _)] ⟨by simp only; omega, hdk, by simp; omega, hf.symm, hrm'⟩ (by simp only; omega)
            simp only [fdR, dataC, if_pos h5]
            ((repeat' constructor) <;> refine hold ?_ <;> first | with_reducible rfl | (congr 1 <;> omega) | (congr 1 <;> simp; done) | (simp; done) | exact encB_snoc _ _ | skip)
            all_goals exact encB_app out [b[i]]
          · repeat refine seq_on ?_
            refine ar ⟨by omega, by omega⟩ ?_
            apply again ⟨i + 1, dataC d, out ++ [b[i]]⟩ [(17, _), (18, _), (19, _)] ⟨by simp only; omega, hdk, by simp; omega, hf.symm, hrm'⟩ (by simp only; omega)
            simp only [fdR, dataC, if_neg h5]
            ((repeat' constructor) <;> refine hold ?_ <;> first | with_reducible rfl | (congr 1 <;> omega) | (congr 1 <;> simp; done) | (simp; done) | exact encB_snoc _ _ | skip)
            all_goals exact encB_app out [b[i]]
      · rw [if_neg (fun e => e.elim h4 fun e => h1 e.1), if_neg h1] at hf
        repeat refine seq_on ?_
        refine cmp_no h1 ?_
        repeat refine seq_on ?_
        refine Eng.get_at i rfl (encB_at hi') ?_
        have hs := stepR (G := G) d b[i] hd h1 h4
        refine call_by hs ?_
        (refine ⟨draw_ok (by kernel_rfl), ?_⟩; repeat refine seq_on ?_)
        refine cmp_dec (fun h5 => ?_) (fun h5 => ?_)
        · repeat refine seq_on ?_
          rw [hf, if_pos h5]; rfl
        · repeat refine seq_on ?_
          refine ar ⟨by omega, by omega⟩ ?_
          rw [if_neg h5] at hf
          apply again ⟨i + 1, (stepC d b[i]).1, out⟩ [(17, _), (18, _), (19, _)] ⟨by simp only; omega, stepC_ok hd h1 (by simpa using h5), by simp only; omega, hf.symm, hrm⟩ (by simp only; omega)
          ((repeat' constructor) <;> refine hold ?_ <;> first | with_reducible rfl | (congr 1 <;> omega) | (congr 1 <;> simp; done) | (simp; done) | exact encB_snoc _ _ | skip)
  · rw [hbl] at h
    rw [← he, feedG_end (by omega)]
    repeat refine seq_on ?_
    obtain rfl : i = b.length := by omega
    rw [← hbl]; rfl

/-- n bytes of a chunk at once. -/
def manyC (c : Chk) (n : Nat) : Chk := ⟨if c.lf - (n : Int) = 0 then 2 else 1, c.lf - (n : Int), c.tr, c.ln⟩
theorem many_data (c : Chk) (n : Nat) : manyC (dataC c) n = manyC c (n + 1) := by
  have e : (dataC c).lf - (n : Int) = c.lf - ((n + 1 : Nat) : Int) := by show c.lf - 1 - (n : Int) = _; omega
  unfold manyC
  rw [e]; rfl
theorem many_one {c : Chk} (h : c.ph = 1) : manyC c 1 = dataC c := by
  unfold manyC dataC; rw [h]; rfl
theorem feedG_many (room : Int) (b : List UInt8) : ∀ (n : Nat) (c : Chk) (out : List UInt8) (i : Nat), c.ph = 1 → 1 ≤ n → (n : Int) ≤ c.lf → i + n ≤ b.length → (n : Int) + out.length ≤ room →
    feedG room c out (b.drop i) i = feedG room (manyC c n) (out ++ (b.drop i).take n) (b.drop (i + n)) (i + n)
  | 0, c, out, i, _, h, _, _, _ => absurd h (by decide)
  | n + 1, c, out, i, h1, _, hl, hb, hr => by
    rw [feedG_at (by omega), if_neg (by rintro (h | ⟨_, h⟩) <;> omega), if_pos h1]
    have ht : (b.drop i).take (n + 1) = b[i] :: (b.drop (i + 1)).take n := by
      rw [List.drop_eq_getElem_cons (by omega), List.take_succ_cons]
    cases n with
    | zero =>
      rw [ht, many_one h1]; rfl
    | succ n =>
      have hne : ¬ c.lf - 1 = 0 := by omega
      have := feedG_many room b (n + 1) (dataC c) (out ++ [b[i]]) (i + 1) (by simp only [dataC, if_neg hne]; exact h1) (by omega) (by simp only [dataC]; omega) (by omega) (by simp; omega)
      rw [this, ht, many_data]
      simp only [List.append_assoc, List.singleton_append]
      rw [show i + 1 + (n + 1) = i + (n + 1 + 1) by omega]
theorem manyC_ok {c : Chk} (hc : c.Ok) (h1 : c.ph = 1) {n : Nat} (hn : (n : Int) ≤ c.lf) (hp : 1 ≤ n) : (manyC c n).Ok := by
  obtain ⟨a1, a2, a3, a4, a5, a6, a7, a8⟩ := hc
  have ht : c.tr = 0 := a2 (by omega) (by omega)
  unfold manyC
  split
  · rename_i h
    exact ⟨.inr (.inr (.inl rfl)), fun _ _ => ht, a3, fun _ => h, ⟨by show 0 ≤ c.lf - (n : Int); omega, by show c.lf - (n : Int) ≤ _; omega⟩, fun e => absurd e (show ¬ (2:Int) = 1 by decide), a7, a8⟩
  · rename_i h
    exact ⟨.inr (.inl rfl), fun _ _ => ht, a3, fun e => absurd rfl e, ⟨by show 0 ≤ c.lf - (n : Int); omega, by show c.lf - (n : Int) ≤ _; omega⟩, fun _ => by show 0 < c.lf - (n : Int); omega, a7, a8⟩

def fdP (room : Int) (b : List UInt8) : FdS → AS
  | ⟨i, c, out⟩ => ⟨[(1, .d (.sl 1 (encB b))), (2, .d (.i .i64 room)), (3, .op 17 0 0), (6, .op 18 0 0), (10, .os 19), (11, .d (.i .i64 (i : Int)))],
   [(17, some (.box [.d (.i .i64 c.ph), .d (.i .i64 c.lf), .d (.i .i64 c.tr), .os 20])), (18, some (.box [.d (.i .i64 0), .d (.i .i64 0), .d (.i .i64 0), .nl 1])), (19, some (.buf 1 (encB out))), (20, some (.buf 1 (encB c.ln)))], 2⟩

theorem feedP (c : Chk) (b : List UInt8) (room : Int) (hc : c.Ok) (hb : b.length ≤ 4294967295) (hr : I64 room) : Does (CG G) 25 [chkD c, .sl 1 (encB b), .i .i64 room] (feedG room c [] b 0).ds := by
  have hbl := encB_len b
  have hln := hc.ln
  have hr1 := hr.1
  have hr2 := hr.2
  refine Does.mk (n := 80) Tryd.func25 rfl rfl rfl (Nat.le_of_ble_eq_true rfl) ?_
  repeat refine seq_on ?_
  refine call_alt (callh [] (clone68 c.ln (by omega)) ?_ ?_)
  · ((repeat' constructor) <;> refine hold ?_ <;> first | with_reducible rfl | (congr 1 <;> omega) | (congr 1 <;> simp; done) | (simp; done) | exact encB_snoc _ _ | skip)
  repeat refine seq_on ?_
  apply loop_inv (FdS.Inv room b c) (fdP room b) (fun x => b.length - x.i) ⟨0, c, []⟩ ⟨by simp, hc, by simp, rfl, by simp only [List.length_nil]; omega⟩ [(17, _), (18, _), (19, _), (20, _)]
  · ((repeat' constructor) <;> refine hold ?_ <;> first | with_reducible rfl | (congr 1 <;> omega) | (congr 1 <;> simp; done) | (simp; done) | exact encB_snoc _ _ | skip)
  rintro ⟨i, d, out⟩ ⟨hi, hd, ho, he, hrm⟩
  simp only at hi hd ho he hrm
  have hol := encB_len out
  repeat refine seq_on ?_
  refine cmp_dec (fun h => ?_) (fun h => ?_)
  · rw [hbl] at h
    have hi' : i < b.length := by omega
    have hf := feedG_at (room := room) (c := d) (out := out) hi'
    rw [he] at hf
    repeat refine seq_on ?_
    refine cmp_dec (fun h4 => ?_) (fun h4 => ?_)
    · repeat refine seq_on ?_
      rw [hf, if_pos (.inl h4)]; rfl
    · repeat refine seq_on ?_
      refine cmp_dec (fun h1 => ?_) (fun h1 => ?_)
      · repeat refine seq_on ?_
        have hl1 := hd.lf1 h1
        have hl2 := hd.lf
        refine ar ⟨by omega, by omega⟩ ?_
        refine ar ⟨by omega, by omega⟩ ?_
        repeat refine seq_on ?_
        rw [hbl, hol]
        generalize hn : min (min d.lf ((b.length : Int) - (i : Int))) (max room 0 - (out.length : Int)) = n
        refine cmp_dec (fun h0 => ?_) (fun h0 => ?_)
        · repeat refine seq_on ?_
          rw [hf, if_pos (.inr ⟨h1, by omega⟩)]; rfl
        · obtain ⟨m, rfl⟩ : ∃ m : Nat, n = m := ⟨n.toNat, by omega⟩
          have hm := feedG_many room b m d out i h1 (by omega) (by omega) (by omega) (by omega)
          rw [he] at hm
          have hmk := manyC_ok hd h1 (n := m) (by omega) (by omega)
          repeat refine seq_on ?_
          refine ar ⟨by omega, by omega⟩ ?_
          refine bnd (i + m) (by omega) (by rw [hbl]; omega) ?_
          refine bnd i rfl (by omega) ?_
          refine app_ok (by simp [encB]; omega) ?_
          refine ar ⟨by omega, by omega⟩ ?_
          refine ar ⟨by omega, by omega⟩ ?_
          (refine ⟨draw_ok (by kernel_rfl), ?_⟩; repeat refine seq_on ?_)
          have hlen : (out ++ (b.drop i).take m).length = out.length + m := by simp; omega
          have hap : encB out ++ ((encB b).take (i + m)).drop i = encB (out ++ (b.drop i).take m) := by
            rw [encB_take, encB_drop, encB_app]
            congr 2
            rw [List.take_drop, Nat.add_comm]
          refine cmp_dec (fun h5 => ?_) (fun h5 => ?_)
          · repeat refine seq_on ?_
            apply again ⟨i + m, manyC d m, out ++ (b.drop i).take m⟩ [(17, _), (18, _), (19, _), (20, _)] ⟨by simp only; omega, hmk, by simp only; omega, hm.symm, by simp only; omega⟩ (by simp only; omega)
            simp only [fdP, manyC, if_pos h5]
            ((repeat' constructor) <;> refine hold ?_ <;> first | with_reducible rfl | (congr 1 <;> omega) | (congr 1 <;> simp; done) | (simp; done) | exact encB_snoc _ _ | skip)
            all_goals exact hap
          · repeat refine seq_on ?_
            apply again ⟨i + m, manyC d m, out ++ (b.drop i).take m⟩ [(17, _), (18, _), (19, _), (20, _)] ⟨by simp only; omega, hmk, by simp only; omega, hm.symm, by simp only; omega⟩ (by simp only; omega)
            simp only [fdP, manyC, if_neg h5]
            ((repeat' constructor) <;> refine hold ?_ <;> first | with_reducible rfl | (congr 1 <;> omega) | (congr 1 <;> simp; done) | (simp; done) | exact encB_snoc _ _ | skip)
            all_goals first | exact hap | (congr 1; done)
      · rw [if_neg (fun e => e.elim h4 fun e => h1 e.1), if_neg h1] at hf
        repeat refine seq_on ?_
        refine Eng.get_at i rfl (encB_at hi') ?_
        have hs := letter1' (G := G) d b[i] hd h1 h4
        refine call_alt (callh [(1, 20)] hs ?_ ?_)
        · ((repeat' constructor) <;> refine hold ?_ <;> first | with_reducible rfl | (congr 1 <;> omega) | (congr 1 <;> simp; done) | (simp; done) | exact encB_snoc _ _ | skip)
        (refine ⟨draw_ok (by kernel_rfl), ?_⟩; repeat refine seq_on ?_)
        refine cmp_dec (fun h5 => ?_) (fun h5 => ?_)
        · repeat refine seq_on ?_
          rw [hf, if_pos h5]; rfl
        · repeat refine seq_on ?_
          refine ar ⟨by omega, by omega⟩ ?_
          rw [if_neg h5] at hf
          apply again ⟨i + 1, (stepC d b[i]).1, out⟩ [(17, _), (18, _), (19, _), (20, _)] ⟨by simp only; omega, stepC_ok hd h1 (by simpa using h5), by simp only; omega, hf.symm, hrm⟩ (by simp only; omega)
          ((repeat' constructor) <;> refine hold ?_ <;> first | with_reducible rfl | (congr 1 <;> omega) | (congr 1 <;> simp; done) | (simp; done) | exact encB_snoc _ _ | skip)
  · rw [hbl] at h
    rw [← he, feedG_end (by omega)]
    repeat refine seq_on ?_
    rfl
end Go.Proofs.YtiokdhklhnhfhaaDoor

