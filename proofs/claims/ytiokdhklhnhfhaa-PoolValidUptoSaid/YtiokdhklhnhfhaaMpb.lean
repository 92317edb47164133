import Derived.Test.YtiokdhklhnhfhaaMpa
namespace Go.Proofs.Ytiokdhklhnhfhaa
variable {G : List Go.Eng.Gl}
open Go.Eng
attribute [local irreducible] Hold
set_option maxRecDepth 100000

theorem acquire23 (p : Po) (h : PoOk p) : Does (CG G) 23 [poD p] (acqD (acqO p)) := by
  obtain ⟨h1, h2, h3, h4, h5, h6, h7, h8, h9⟩ := h
  obtain ⟨ba, qu, se, id, bu⟩ := p
  simp only at *
  cases id with
  | cons n r =>
    have hl : (List.map (D.i .i64) (n :: r)).length = r.length + 1 := by simp
    have c1 := without32 (G := G) (n :: r) 0 (by simp) (by simp at h4 ⊢; omega)
    have c2 := insert33 (G := G) bu n (by omega)
    unfold acqO acqD
    simp only
    unfold poD at *
    simp only at *
    unfold ints at *
    refine Does.mk (n := 57) Try.func23 rfl rfl rfl (Nat.le_of_ble_eq_true rfl) ?_
    repeat refine seq_on ?_
    refine cmp_yes (by omega) ?_
    repeat refine seq_on ?_
    refine Eng.get_at 0 rfl (x := .i .i64 n) rfl ?_
    ((try refine And.intro (draw_ok (by kernel_rfl)) ?_); repeat refine seq_on ?_)
    refine call_by c1 ?_
    refine call_by c2 ?_
    ((try refine And.intro (draw_ok (by kernel_rfl)) ?_); repeat refine seq_on ?_)
    rfl
  | nil =>
    unfold acqO acqD
    simp only
    by_cases hc : (bu.length : Int) < qu ∧ se < 900000
    · rw [if_pos hc]
      have hl : (List.map (D.i .i64) bu).length = bu.length := by simp
      have c2 := insert33 (G := G) bu (ba + (se + 1)) (by omega)
      unfold poD at *
      simp only at *
      unfold ints at *
      refine Does.mk (n := 57) Try.func23 rfl rfl rfl (Nat.le_of_ble_eq_true rfl) ?_
      repeat refine seq_on ?_
      refine cmp_no (by simp) ?_
      repeat refine seq_on ?_
      refine cmp_no (by omega) ?_
      refine cmp_no (by omega) ?_
      ((try refine And.intro (draw_ok (by kernel_rfl)) ?_); repeat refine seq_on ?_)
      refine ar ⟨by omega, by omega⟩ ?_
      ((try refine And.intro (draw_ok (by kernel_rfl)) ?_); repeat refine seq_on ?_)
      refine ar ⟨by omega, by omega⟩ ?_
      refine call_by c2 ?_
      ((try refine And.intro (draw_ok (by kernel_rfl)) ?_); repeat refine seq_on ?_)
      refine ar ⟨by omega, by omega⟩ ?_
      ((try refine And.intro (draw_ok (by kernel_rfl)) ?_); repeat refine seq_on ?_)
      rfl
    · rw [if_neg hc]
      have hl : (List.map (D.i .i64) bu).length = bu.length := by simp
      unfold poD at *
      simp only at *
      refine Does.mk (n := 57) Try.func23 rfl rfl rfl (Nat.le_of_ble_eq_true rfl) ?_
      repeat refine seq_on ?_
      refine cmp_no (by simp) ?_
      repeat refine seq_on ?_
      refine cmp_dec (fun g1 => ?_) (fun g1 => ?_)
      · ((try refine And.intro (draw_ok (by kernel_rfl)) ?_); repeat refine seq_on ?_)
        rfl
      · refine cmp_yes (by omega) ?_
        ((try refine And.intro (draw_ok (by kernel_rfl)) ?_); repeat refine seq_on ?_)
        rfl
theorem release24 (p : Po) (n : Int) (h : PoOk p) : Does (CG G) 24 [poD p, .i .i64 n] [poD (relO p n).1, .b (relO p n).2] := by
  obtain ⟨h1, h2, h3, h4, h5, h6, h7, h8, h9⟩ := h
  have c0 := place30 (G := G) p.bu n (by omega)
  have c2 := insert33 (G := G) p.id n (by omega)
  obtain ⟨ba, qu, se, id, bu⟩ := p
  simp only at *
  rcases c0 with ⟨hn, c0⟩ | ⟨k, hk, hn, he, c0⟩
  · rw [show relO ⟨ba, qu, se, id, bu⟩ n = (⟨ba, qu, se, id, bu⟩, false) from if_neg hn]
    unfold poD at *
    simp only at *
    unfold ints at *
    refine Does.mk (n := 25) Try.func24 rfl rfl rfl (Nat.le_of_ble_eq_true rfl) ?_
    repeat refine seq_on ?_
    refine call_by c0 ?_
    repeat refine seq_on ?_
    refine cmp_yes (by omega) ?_
    ((try refine And.intro (draw_ok (by kernel_rfl)) ?_); repeat refine seq_on ?_)
    rfl
  · rw [show relO ⟨ba, qu, se, id, bu⟩ n = (⟨ba, qu, se, insS id n, bu.erase n⟩, true) from if_pos hn, he]
    have c1 := without32 (G := G) bu k hk (by omega)
    unfold poD at *
    simp only at *
    unfold ints at *
    refine Does.mk (n := 25) Try.func24 rfl rfl rfl (Nat.le_of_ble_eq_true rfl) ?_
    repeat refine seq_on ?_
    refine call_by c0 ?_
    repeat refine seq_on ?_
    refine cmp_no (by omega) ?_
    ((try refine And.intro (draw_ok (by kernel_rfl)) ?_); repeat refine seq_on ?_)
    refine call_by c1 ?_
    refine call_by c2 ?_
    ((try refine And.intro (draw_ok (by kernel_rfl)) ?_); repeat refine seq_on ?_)
    rfl
theorem drop25 (p : Po) (n : Int) (h : PoOk p) : Does (CG G) 25 [poD p, .i .i64 n] [poD (drpO p n).1, .b (drpO p n).2] := by
  obtain ⟨h1, h2, h3, h4, h5, h6, h7, h8, h9⟩ := h
  have c0 := place30 (G := G) p.bu n (by omega)
  have c3 := place30 (G := G) p.id n (by omega)
  obtain ⟨ba, qu, se, id, bu⟩ := p
  simp only at *
  rcases c0 with ⟨hn, c0⟩ | ⟨k, hk, hn, he, c0⟩
  · rcases c3 with ⟨hm, c3⟩ | ⟨k, hk, hm, he, c3⟩
    · rw [show drpO ⟨ba, qu, se, id, bu⟩ n = (⟨ba, qu, se, id, bu⟩, false) by unfold drpO; rw [if_neg hn, if_neg hm]]
      unfold poD at *
      simp only at *
      unfold ints at *
      refine Does.mk (n := 32) Try.func25 rfl rfl rfl (Nat.le_of_ble_eq_true rfl) ?_
      repeat refine seq_on ?_
      refine call_by c0 ?_
      repeat refine seq_on ?_
      refine cmp_no (by omega) ?_
      ((try refine And.intro (draw_ok (by kernel_rfl)) ?_); repeat refine seq_on ?_)
      refine call_by c3 ?_
      repeat refine seq_on ?_
      refine cmp_no (by omega) ?_
      ((try refine And.intro (draw_ok (by kernel_rfl)) ?_); repeat refine seq_on ?_)
      rfl
    · rw [show drpO ⟨ba, qu, se, id, bu⟩ n = (⟨ba, qu, se, id.erase n, bu⟩, true) by unfold drpO; rw [if_neg hn, if_pos hm], he]
      have c1 := without32 (G := G) id k hk (by omega)
      unfold poD at *
      simp only at *
      unfold ints at *
      refine Does.mk (n := 32) Try.func25 rfl rfl rfl (Nat.le_of_ble_eq_true rfl) ?_
      repeat refine seq_on ?_
      refine call_by c0 ?_
      repeat refine seq_on ?_
      refine cmp_no (by omega) ?_
      ((try refine And.intro (draw_ok (by kernel_rfl)) ?_); repeat refine seq_on ?_)
      refine call_by c3 ?_
      repeat refine seq_on ?_
      refine cmp_yes (by omega) ?_
      ((try refine And.intro (draw_ok (by kernel_rfl)) ?_); repeat refine seq_on ?_)
      refine call_by c1 ?_
      ((try refine And.intro (draw_ok (by kernel_rfl)) ?_); repeat refine seq_on ?_)
      rfl
  · rw [show drpO ⟨ba, qu, se, id, bu⟩ n = (⟨ba, qu, se, id, bu.erase n⟩, true) from if_pos hn, he]
    have c1 := without32 (G := G) bu k hk (by omega)
    unfold poD at *
    simp only at *
    unfold ints at *
    refine Does.mk (n := 32) Try.func25 rfl rfl rfl (Nat.le_of_ble_eq_true rfl) ?_
    repeat refine seq_on ?_
    refine call_by c0 ?_
    repeat refine seq_on ?_
    refine cmp_yes (by omega) ?_
    ((try refine And.intro (draw_ok (by kernel_rfl)) ?_); repeat refine seq_on ?_)
    refine call_by c1 ?_
    ((try refine And.intro (draw_ok (by kernel_rfl)) ?_); repeat refine seq_on ?_)
    rfl
theorem same26 (p : Po) (h : p.id.length + p.bu.length ≤ 1000000) : Does (CG G) 26 [poD p, poD p] [.b true] := by
  obtain ⟨ba, qu, se, id, bu⟩ := p
  simp only at *
  have l1 : (id.map (D.i .i64)).length = id.length := by simp
  have l2 : (bu.map (D.i .i64)).length = bu.length := by simp
  unfold poD
  simp only
  refine Does.mk (n := 80) Try.func26 rfl rfl rfl (Nat.le_of_ble_eq_true rfl) ?_
  repeat refine seq_on ?_
  refine cmp_no (fun h => h rfl) ?_
  refine cmp_no (fun h => h rfl) ?_
  refine cmp_no (fun h => h rfl) ?_
  refine cmp_no (fun h => h rfl) ?_
  refine cmp_no (fun h => h rfl) ?_
  repeat refine seq_on ?_
  apply loop_inv (fun i : Nat => i ≤ id.length) (fun i => ⟨[(2, .op (16 * (0 + 1)) 0 0), (3, .op (16 * (1 + 1)) 0 0), (5, .d (.i .i64 (i : Int)))], [(32, some (.box [.d (.i .i64 ba), .d (.i .i64 qu), .d (.i .i64 se), .d (.sl 1 (id.map (.i .i64))), .d (.sl 1 (bu.map (.i .i64)))] (some 28))), (16, some (.box [.d (.i .i64 ba), .d (.i .i64 qu), .d (.i .i64 se), .d (.sl 1 (id.map (.i .i64))), .d (.sl 1 (bu.map (.i .i64)))] (some 28)))], 4⟩) (fun i => id.length - i) 0 (Nat.zero_le _) [(32, _), (16, _)]
  · ((repeat' constructor) <;> (first | refine hold ?_ | rfl) <;> first | with_reducible rfl | (congr 1 <;> omega) | (congr 1 <;> simp; done) | (simp; done) | exact encB_snoc _ _ | skip)
  · intro i hi
    repeat refine seq_on ?_
    refine cmp_dec (fun h1 => ?_) (fun h1 => ?_)
    · have hi' : i < id.length := by omega
      ((try refine And.intro (draw_ok (by kernel_rfl)) ?_); repeat refine seq_on ?_)
      refine Eng.get_at i rfl (getInts hi') ?_
      refine Eng.get_at i rfl (getInts hi') ?_
      refine cmp_no (fun h => h rfl) ?_
      ((try refine And.intro (draw_ok (by kernel_rfl)) ?_); repeat refine seq_on ?_)
      refine ar ⟨by omega, by omega⟩ ?_
      apply again (i + 1) [(32, _), (16, _)] (by omega) (by omega)
      ((repeat' constructor) <;> (first | refine hold ?_ | rfl) <;> first | with_reducible rfl | (congr 1 <;> omega) | (congr 1 <;> simp; done) | (simp; done) | exact encB_snoc _ _ | skip)
    · repeat refine seq_on ?_
      apply loop_inv (fun i : Nat => i ≤ bu.length) (fun i => ⟨[(2, .op (16 * (0 + 1)) 0 0), (3, .op (16 * (1 + 1)) 0 0), (6, .d (.i .i64 (i : Int)))], [(32, some (.box [.d (.i .i64 ba), .d (.i .i64 qu), .d (.i .i64 se), .d (.sl 1 (id.map (.i .i64))), .d (.sl 1 (bu.map (.i .i64)))] (some 28))), (16, some (.box [.d (.i .i64 ba), .d (.i .i64 qu), .d (.i .i64 se), .d (.sl 1 (id.map (.i .i64))), .d (.sl 1 (bu.map (.i .i64)))] (some 28)))], 4⟩) (fun i => bu.length - i) 0 (Nat.zero_le _) [(32, _), (16, _)]
      · ((repeat' constructor) <;> (first | refine hold ?_ | rfl) <;> first | with_reducible rfl | (congr 1 <;> omega) | (congr 1 <;> simp; done) | (simp; done) | exact encB_snoc _ _ | skip)
      · intro i hi
        repeat refine seq_on ?_
        refine cmp_dec (fun h1 => ?_) (fun h1 => ?_)
        · have hi' : i < bu.length := by omega
          ((try refine And.intro (draw_ok (by kernel_rfl)) ?_); repeat refine seq_on ?_)
          refine Eng.get_at i rfl (getInts hi') ?_
          refine Eng.get_at i rfl (getInts hi') ?_
          refine cmp_no (fun h => h rfl) ?_
          ((try refine And.intro (draw_ok (by kernel_rfl)) ?_); repeat refine seq_on ?_)
          refine ar ⟨by omega, by omega⟩ ?_
          apply again (i + 1) [(32, _), (16, _)] (by omega) (by omega)
          ((repeat' constructor) <;> (first | refine hold ?_ | rfl) <;> first | with_reducible rfl | (congr 1 <;> omega) | (congr 1 <;> simp; done) | (simp; done) | exact encB_snoc _ _ | skip)
        · ((try refine And.intro (draw_ok (by kernel_rfl)) ?_); repeat refine seq_on ?_)
          rfl
end Go.Proofs.Ytiokdhklhnhfhaa

namespace Go.Proofs.Ytiokdhklhnhfhaa
variable {G : List Go.Eng.Gl}
open Go.Eng
attribute [local irreducible] Hold
set_option maxRecDepth 100000

theorem cutP (l : List Int) (n : Nat) : Does (CG G) 6 [ints l, .i .i64 (n : Int)] [ints (l.take n)] := by
  refine Does.mk (n := 13) Try.func6 rfl rfl rfl (Nat.le_of_ble_eq_true rfl) ?_
  have hlen : (l.map (D.i .i64)).length = l.length := by simp
  repeat refine seq_on ?_
  refine cmp_dec (fun h1 => ?_) (fun h1 => ?_)
  · repeat refine seq_on ?_
    refine bnd n rfl (by omega) ?_
    refine congrArg (fun x => [D.sl 1 x]) ?_
    simp [List.map_take]
  · repeat refine seq_on ?_
    refine congrArg (fun x => [D.sl 1 x]) ?_
    rw [List.take_of_length_le (by omega)]

def nxtP (l : List Int) (i : Nat) : Nat := if i < l.length then i + 1 else i
def srcP (l : List Int) (i : Nat) : List (Nat × Option Ent) := [(0, some (.box [.d (ints l), .d (.i .i64 (i : Int))]))]

theorem leftP (l : List Int) (i : Nat) : DoesH (CG G) 9 [.op 0 0 0] (srcP l i) [.d (.b (decide ((i : Int) < (l.length : Int))))] (srcP l i) := by
  refine DoesH.mk (n := 13) Try.func9 rfl rfl rfl (Nat.le_of_ble_eq_true rfl) rfl ?_
  have hlen : (l.map (D.i .i64)).length = l.length := by simp
  refine cmp_is (decide ((i : Int) < (l.length : Int))) (by rw [hlen]) ?_
  refine ⟨draw_ok (by kernel_rfl), ?_⟩
  refine end_ok [] ?_
  ((repeat' constructor) <;> (first | refine hold ?_ | rfl) <;> first | with_reducible rfl | (congr 1 <;> omega) | (congr 1 <;> simp; done) | (simp; done) | exact encB_snoc _ _ | skip)

def wiP (x n : Int) : Nat := ((x.tmod n + n).tmod n).toNat
theorem wiP_lt (x n : Int) (hn : 1 ≤ n) : (wiP x n : Int) < n := by
  have h3 : 0 ≤ (x.tmod n + n).tmod n := by
    have h1 : -n < x.tmod n := Int.lt_tmod_of_pos x (by omega)
    exact Int.tmod_nonneg _ (by omega)
  have h4 : (x.tmod n + n).tmod n < n := Int.tmod_lt_of_pos _ (by omega)
  unfold wiP; omega
theorem withinP (x n : Int) (hn : 1 ≤ n ∧ n ≤ 4611686018427387904) : Does (CG G) 8 [.i .i64 x, .i .i64 n] [.i .i64 (wiP x n : Int)] := by
  have h1 : -n < x.tmod n := Int.lt_tmod_of_pos x (by omega)
  have h2 : x.tmod n < n := Int.tmod_lt_of_pos x (by omega)
  have h3 : 0 ≤ (x.tmod n + n).tmod n := Int.tmod_nonneg _ (by omega)
  unfold wiP
  rw [Int.toNat_of_nonneg h3]
  refine Does.mk (n := 12) Try.func8 rfl rfl rfl (Nat.le_of_ble_eq_true rfl) ?_
  refine div_ok (by omega) ?_
  refine ar ⟨by omega, by omega⟩ ?_
  refine div_ok (by omega) ?_
  exact rfl

def nxP (l : List Int) (i : Nat) (n : Int) : Nat := if i < l.length then wiP (l.getD i 0) n else 0
theorem nxP_lt (l : List Int) (i : Nat) (n : Int) (hn : 1 ≤ n) : (nxP l i n : Int) < n := by
  unfold nxP; split
  · exact wiP_lt _ _ hn
  · simp; omega
theorem nextP (l : List Int) (i : Nat) (n : Int) (hi : i ≤ l.length) (hl : l.length ≤ 9223372036854775807) (hn : 1 ≤ n ∧ n ≤ 4611686018427387904) : DoesH (CG G) 10 [.op 0 0 0, .d (.i .i64 n)] (srcP l i) [.d (.i .i64 (nxP l i n : Int))] (srcP l (nxtP l i)) := by
  have hlen : (l.map (D.i .i64)).length = l.length := by simp
  by_cases h : i < l.length
  · refine DoesH.mk (n := 35) Try.func10 rfl rfl rfl (Nat.le_of_ble_eq_true rfl) rfl ?_
    repeat refine seq_on ?_
    refine cmp_no (by omega) ?_
    refine ⟨draw_ok (by kernel_rfl), ?_⟩
    repeat refine seq_on ?_
    refine ar ⟨by omega, by omega⟩ ?_
    refine ar ⟨by omega, by omega⟩ ?_
    refine Eng.get_at i (by omega) (getInts h) ?_
    refine call_by (withinP _ n hn) ?_
    refine ⟨draw_ok (by kernel_rfl), ?_⟩
    refine end_ok [] ?_
    simp only [nxtP, nxP, if_pos h]
    ((repeat' constructor) <;> (first | refine hold ?_ | rfl) <;> first | with_reducible rfl | (congr 1 <;> omega) | (congr 1 <;> simp; done) | (simp; done) | exact encB_snoc _ _ | skip)
  · refine DoesH.mk (n := 35) Try.func10 rfl rfl rfl (Nat.le_of_ble_eq_true rfl) rfl ?_
    repeat refine seq_on ?_
    refine cmp_yes (by omega) ?_
    refine ⟨draw_ok (by kernel_rfl), ?_⟩
    repeat refine seq_on ?_
    refine end_ok [] ?_
    simp only [nxtP, nxP, if_neg h]
    ((repeat' constructor) <;> (first | refine hold ?_ | rfl) <;> first | with_reducible rfl | (congr 1 <;> omega) | (congr 1 <;> simp; done) | (simp; done) | exact encB_snoc _ _ | skip)


theorem nxtP_le (l : List Int) (i : Nat) (h : i ≤ l.length) : i ≤ nxtP l i ∧ nxtP l i ≤ l.length := by unfold nxtP; split <;> omega

/-! The trajectory of a played pool -/
def stepP (l : List Int) (i : Nat) (p : Po) : Nat × Po :=
  if nxP l i 5 ≤ 1 then (nxtP l i, match acqO p with | some (q, _) => q | none => p)
  else if nxP l i 5 ≤ 3 then (nxtP l (nxtP l i), (relO p (p.ba + (nxP l (nxtP l i) (p.se + 2) : Int))).1)
  else (nxtP l (nxtP l i), (drpO p (p.ba + (nxP l (nxtP l i) (p.se + 2) : Int))).1)
theorem stepP_ok (l : List Int) (i : Nat) (p : Po) (hi : i < l.length) (h : PoOk p) : i < (stepP l i p).1 ∧ (stepP l i p).1 ≤ l.length ∧ PoOk (stepP l i p).2 := by
  have h1 : nxtP l i = i + 1 := if_pos hi
  have h2 := nxtP_le l (i + 1) (by omega)
  unfold stepP
  rw [h1]
  split
  · refine ⟨by simp only; omega, by simp only; omega, ?_⟩
    simp only
    split
    · rename_i q r he
      exact (acqO_ok h he).1
    · exact h
  · split
    · exact ⟨by simp only; omega, h2.2, relO_ok h _⟩
    · exact ⟨by simp only; omega, h2.2, drpO_ok h _⟩
def walkP (l : List Int) : Nat → Nat → Po → Po
  | 0, _, p => p
  | k + 1, i, p => if i < l.length then walkP l k (stepP l i p).1 (stepP l i p).2 else p
theorem walkP_ok (l : List Int) : ∀ (k i : Nat) (p : Po), PoOk p → PoOk (walkP l k i p) := by
  intro k
  induction k with
  | zero => intro i p h; exact h
  | succ k ih =>
    intro i p h
    unfold walkP
    split
    · rename_i hi
      exact ih _ _ (stepP_ok l i p hi h).2.2
    · exact h
theorem acqO_none : acqD none = [poD ⟨0, 0, 0, [], []⟩, .i .i64 0, .b false, .i .i64 9] := rfl
theorem acqO_some {q : Po} {n : Int} {f : Bool} : acqD (some (q, n, f)) = [poD q, .i .i64 n, .b f, .i .i64 0] := rfl

theorem awake14 : Does (CG G) 14 [] [.b true] := by
  have c1 := new7 (G := G) 1000 1
  have c2 := acquire11 (G := G) (newPo 1000 1) (newPo_ok _ _)
  have e1 : acqO (newPo 1000 1) = some (⟨1000, 1, 1, [], [1001]⟩, 1001, true) := rfl
  have ok1 := (acqO_ok (newPo_ok _ _) e1).1
  have c3 := acquire11 (G := G) ⟨1000, 1, 1, [], [1001]⟩ ok1
  have c4 := release12 (G := G) ⟨1000, 1, 1, [], [1001]⟩ 1001 ok1
  have e2 : acqO ⟨1000, 1, 1, [], [1001]⟩ = none := rfl
  have e3 : relO ⟨1000, 1, 1, [], [1001]⟩ 1001 = (⟨1000, 1, 1, [1001], []⟩, true) := rfl
  have ok2 : PoOk ⟨1000, 1, 1, [1001], []⟩ := by have := relO_ok ok1 1001; rw [e3] at this; exact this
  have c5 := acquire11 (G := G) ⟨1000, 1, 1, [1001], []⟩ ok2
  have e4 : acqO ⟨1000, 1, 1, [1001], []⟩ = some (⟨1000, 1, 1, [], [1001]⟩, 1001, false) := rfl
  rw [e1, acqO_some] at c2
  rw [e2, acqO_none] at c3
  rw [e3] at c4
  rw [e4, acqO_some] at c5
  simp only at c4
  unfold poD at *
  simp only at *
  refine Does.mk (n := 69) Try.func14 rfl rfl rfl (Nat.le_of_ble_eq_true rfl) ?_
  repeat refine seq_on ?_
  refine call_by c1 ?_
  refine call_by c2 ?_
  repeat refine seq_on ?_
  refine call_by c3 ?_
  repeat refine seq_on ?_
  refine call_by c4 ?_
  repeat refine seq_on ?_
  refine call_by c5 ?_
  repeat' (first | refine cmp_is true rfl ?_ | refine seq_on ?_)
  rfl
end Go.Proofs.Ytiokdhklhnhfhaa

namespace Go.Proofs.Ytiokdhklhnhfhaa
variable {G : List Go.Eng.Gl}
open Go.Eng
attribute [local irreducible] Hold
set_option maxRecDepth 100000

theorem play15 (m l : List Int) (hm : l = m.take 90) (b0 q0 : Int) : Does (CG G) 15 [ints m, .i .i64 b0, .i .i64 q0] [poD (walkP l l.length 0 (newPo b0 q0)), .b true] := by
  have h0 := cutP (G := G) m 90
  have hl : l.length ≤ 90 := by rw [hm]; simp; omega
  rw [← hm] at h0
  generalize hfin : walkP l l.length 0 (newPo b0 q0) = fin
  have n1 := new7 (G := G) b0 q0
  have n2 := new22 (G := G) b0 q0
  unfold poD at n1 n2
  refine Does.mk (n := 128) Try.func15 rfl rfl rfl (Nat.le_of_ble_eq_true rfl) ?_
  repeat refine seq_on ?_
  refine call_by h0 ?_
  repeat refine seq_on ?_
  refine call_by n1 ?_
  refine call_by n2 ?_
  repeat refine seq_on ?_
  apply loop_inv (fun y : Nat × Po => y.1 ≤ l.length ∧ PoOk y.2 ∧ ∃ k, l.length ≤ k + y.1 ∧ walkP l k y.1 y.2 = fin) (fun y => ⟨[(6, .op 16 0 0), (8, .op 17 0 0), (9, .op 18 0 0), (10, .op 19 0 0)], [(16, some (.box [.d (.i .i64 0), .d (.i .i64 0), .d (.i .i64 0), .nl 1, .nl 1] (some 28))), (17, some (.box [.d (ints l), .d (.i .i64 (y.1 : Int))])), (18, some (.box [.d (.i .i64 y.2.ba), .d (.i .i64 y.2.qu), .d (.i .i64 y.2.se), .d (.sl 1 (y.2.id.map (.i .i64))), .d (.sl 1 (y.2.bu.map (.i .i64)))] (some 28))), (19, some (.box [.d (.i .i64 y.2.ba), .d (.i .i64 y.2.qu), .d (.i .i64 y.2.se), .d (.sl 1 (y.2.id.map (.i .i64))), .d (.sl 1 (y.2.bu.map (.i .i64)))] (some 28)))], 2⟩) (fun y => l.length - y.1) (0, newPo b0 q0) ⟨Nat.zero_le _, newPo_ok _ _, l.length, by simp, hfin⟩ [(16, _), (17, _), (18, _), (19, _)]
  · ((repeat' constructor) <;> (first | refine hold ?_ | rfl) <;> first | with_reducible rfl | (congr 1 <;> omega) | (congr 1 <;> simp; done) | (simp; done) | exact encB_snoc _ _ | skip)
  · rintro ⟨i, p⟩ ⟨h1, h2, k, h3, h4⟩
    simp only at h1 h2 h3 h4
    have hlf := leftP (G := G) l i
    repeat refine seq_on ?_
    by_cases hi : i < l.length
    · rw [decide_eq_true (by omega)] at hlf
      refine callh [(0, 17)] hlf ?_ ?_
      · ((repeat' constructor) <;> (first | refine hold ?_ | rfl) <;> first | with_reducible rfl | (congr 1 <;> omega) | (congr 1 <;> simp; done) | (simp; done) | exact encB_snoc _ _ | skip)
      obtain ⟨k, rfl⟩ : ∃ q, k = q + 1 := ⟨k - 1, by omega⟩
      have hs := stepP_ok l i p hi h2
      have hw : walkP l k (stepP l i p).1 (stepP l i p).2 = fin := by rw [← h4, walkP, if_pos hi]
      have hx := nextP (G := G) l i 5 h1 (by omega) (by decide)
      have hv := nxP_lt l i 5 (by decide)
      unfold stepP at hs hw
      generalize hj : nxtP l i = j at hs hw hx
      generalize hg : nxP l i 5 = v at hs hw hx hv
      repeat refine seq_on ?_
      refine callh [(0, 17)] hx ?_ ?_
      · simp only [srcP]
        ((repeat' constructor) <;> (first | refine hold ?_ | rfl) <;> first | with_reducible rfl | (congr 1 <;> omega) | (congr 1 <;> simp; done) | (simp; done) | exact encB_snoc _ _ | skip)
      repeat refine seq_on ?_
      refine cmp_dec (fun g0 => ?_) (fun g0 => ?_)
      · -- 0
        ((try refine And.intro (draw_ok (by kernel_rfl)) ?_); repeat refine seq_on ?_)
        rw [if_pos (show v ≤ 1 by omega)] at hs hw
        have c1 := acquire11 (G := G) p h2
        have c2 := acquire23 (G := G) p h2
        cases ha : acqO p with
        | none =>
          rw [ha] at c1 c2 hs hw
          rw [acqO_none] at c1 c2
          have c3 := same26 (G := G) p (by have := h2.le; have := h2.qu; omega)
          unfold poD at c1 c2 c3
          refine call_by c1 ?_
          repeat refine seq_on ?_
          refine call_by c2 ?_
          repeat refine seq_on ?_
          refine cmp_no (fun h => h rfl) ?_
          refine cmp_is false rfl ?_
          repeat refine seq_on ?_
          refine cmp_is false rfl ?_
          repeat refine seq_on ?_
          refine cmp_is false rfl ?_
          refine cmp_no (fun h => h rfl) ?_
          refine call_by c3 ?_
          ((try refine And.intro (draw_ok (by kernel_rfl)) ?_); repeat refine seq_on ?_)
          apply again (j, p) [(16, _), (17, _), (18, _), (19, _)] ⟨hs.2.1, h2, k, by have := hs.1; simp only at this ⊢; omega, hw⟩ (by have := hs.1; simp only at this ⊢; omega)
          ((repeat' constructor) <;> (first | refine hold ?_ | rfl) <;> first | with_reducible rfl | (congr 1 <;> omega) | (congr 1 <;> simp; done) | (simp; done) | exact encB_snoc _ _ | skip)
        | some r =>
          obtain ⟨q, n, f⟩ := r
          rw [ha] at c1 c2 hs hw
          rw [acqO_some] at c1 c2
          simp only at hs hw
          have c3 := same26 (G := G) q (by have := hs.2.2.le; have := hs.2.2.qu; omega)
          unfold poD at c1 c2 c3
          cases f
          all_goals
            refine call_by c1 ?_
            repeat refine seq_on ?_
            refine call_by c2 ?_
            repeat refine seq_on ?_
            refine cmp_no (fun h => h rfl) ?_
            refine cmp_is false rfl ?_
            repeat refine seq_on ?_
            refine cmp_is true rfl ?_
            ((try refine And.intro (draw_ok (by kernel_rfl)) ?_); repeat refine seq_on ?_)
            refine cmp_is false rfl ?_
            refine cmp_no (fun h => h rfl) ?_
            refine call_by c3 ?_
            ((try refine And.intro (draw_ok (by kernel_rfl)) ?_); repeat refine seq_on ?_)
            apply again (j, q) [(16, _), (17, _), (18, _), (19, _)] ⟨hs.2.1, hs.2.2, k, by have := hs.1; simp only at this ⊢; omega, hw⟩ (by have := hs.1; simp only at this ⊢; omega)
            ((repeat' constructor) <;> (first | refine hold ?_ | rfl) <;> first | with_reducible rfl | (congr 1 <;> omega) | (congr 1 <;> simp; done) | (simp; done) | exact encB_snoc _ _ | skip)
      · repeat refine seq_on ?_
        refine cmp_dec (fun g1 => ?_) (fun g1 => ?_)
        · -- 1
          ((try refine And.intro (draw_ok (by kernel_rfl)) ?_); repeat refine seq_on ?_)
          rw [if_pos (show v ≤ 1 by omega)] at hs hw
          have c1 := acquire11 (G := G) p h2
          have c2 := acquire23 (G := G) p h2
          cases ha : acqO p with
          | none =>
            rw [ha] at c1 c2 hs hw
            rw [acqO_none] at c1 c2
            have c3 := same26 (G := G) p (by have := h2.le; have := h2.qu; omega)
            unfold poD at c1 c2 c3
            refine call_by c1 ?_
            repeat refine seq_on ?_
            refine call_by c2 ?_
            repeat refine seq_on ?_
            refine cmp_no (fun h => h rfl) ?_
            refine cmp_is false rfl ?_
            repeat refine seq_on ?_
            refine cmp_is false rfl ?_
            repeat refine seq_on ?_
            refine cmp_is false rfl ?_
            refine cmp_no (fun h => h rfl) ?_
            refine call_by c3 ?_
            ((try refine And.intro (draw_ok (by kernel_rfl)) ?_); repeat refine seq_on ?_)
            apply again (j, p) [(16, _), (17, _), (18, _), (19, _)] ⟨hs.2.1, h2, k, by have := hs.1; simp only at this ⊢; omega, hw⟩ (by have := hs.1; simp only at this ⊢; omega)
            ((repeat' constructor) <;> (first | refine hold ?_ | rfl) <;> first | with_reducible rfl | (congr 1 <;> omega) | (congr 1 <;> simp; done) | (simp; done) | exact encB_snoc _ _ | skip)
          | some r =>
            obtain ⟨q, n, f⟩ := r
            rw [ha] at c1 c2 hs hw
            rw [acqO_some] at c1 c2
            simp only at hs hw
            have c3 := same26 (G := G) q (by have := hs.2.2.le; have := hs.2.2.qu; omega)
            unfold poD at c1 c2 c3
            cases f
            all_goals
              refine call_by c1 ?_
              repeat refine seq_on ?_
              refine call_by c2 ?_
              repeat refine seq_on ?_
              refine cmp_no (fun h => h rfl) ?_
              refine cmp_is false rfl ?_
              repeat refine seq_on ?_
              refine cmp_is true rfl ?_
              ((try refine And.intro (draw_ok (by kernel_rfl)) ?_); repeat refine seq_on ?_)
              refine cmp_is false rfl ?_
              refine cmp_no (fun h => h rfl) ?_
              refine call_by c3 ?_
              ((try refine And.intro (draw_ok (by kernel_rfl)) ?_); repeat refine seq_on ?_)
              apply again (j, q) [(16, _), (17, _), (18, _), (19, _)] ⟨hs.2.1, hs.2.2, k, by have := hs.1; simp only at this ⊢; omega, hw⟩ (by have := hs.1; simp only at this ⊢; omega)
              ((repeat' constructor) <;> (first | refine hold ?_ | rfl) <;> first | with_reducible rfl | (congr 1 <;> omega) | (congr 1 <;> simp; done) | (simp; done) | exact encB_snoc _ _ | skip)
        · repeat refine seq_on ?_
          refine cmp_dec (fun g2 => ?_) (fun g2 => ?_)
          · -- 2
            ((try refine And.intro (draw_ok (by kernel_rfl)) ?_); repeat refine seq_on ?_)
            rw [if_neg (show ¬ v ≤ 1 by omega), if_pos (show v ≤ 3 by omega)] at hs hw
            have hx2 := nextP (G := G) l j (p.se + 2) (by have := nxtP_le l i h1; omega) (by omega) (by have := h2.se; omega)
            have hv2 := nxP_lt l j (p.se + 2) (by have := h2.se; omega)
            have hse := h2.se
            have hba := h2.ba
            generalize hj2 : nxtP l j = j2 at hs hw hx2
            generalize hg2 : nxP l j (p.se + 2) = n at hs hw hx2 hv2
            refine ar ⟨by (try simp only); omega, by (try simp only); omega⟩ ?_
            refine callh [(0, 17)] hx2 ?_ ?_
            · simp only [srcP]
              ((repeat' constructor) <;> (first | refine hold ?_ | rfl) <;> first | with_reducible rfl | (congr 1 <;> omega) | (congr 1 <;> simp; done) | (simp; done) | exact encB_snoc _ _ | skip)
            refine ar ⟨by (try simp only); omega, by (try simp only); omega⟩ ?_
            ((try refine And.intro (draw_ok (by kernel_rfl)) ?_); repeat refine seq_on ?_)
            have c1 := release12 (G := G) p (p.ba + (n : Int)) h2
            have c2 := release24 (G := G) p (p.ba + (n : Int)) h2
            have hq := relO_ok h2 (p.ba + (n : Int))
            simp only at hs hw
            generalize ho : relO p (p.ba + (n : Int)) = o at hs hw c1 c2 hq
            obtain ⟨q, f⟩ := o
            simp only at hs hw c1 c2 hq
            have c3 := same26 (G := G) q (by have := hq.le; have := hq.qu; omega)
            unfold poD at c1 c2 c3
            cases f
            all_goals
              refine call_by c1 ?_
              repeat refine seq_on ?_
              refine call_by c2 ?_
              ((try refine And.intro (draw_ok (by kernel_rfl)) ?_); repeat refine seq_on ?_)
              refine cmp_is false rfl ?_
              refine cmp_no (fun h => h rfl) ?_
              refine call_by c3 ?_
              ((try refine And.intro (draw_ok (by kernel_rfl)) ?_); repeat refine seq_on ?_)
              apply again (j2, q) [(16, _), (17, _), (18, _), (19, _)] ⟨hs.2.1, hq, k, by have := hs.1; simp only at this ⊢; omega, hw⟩ (by have := hs.1; simp only at this ⊢; omega)
              ((repeat' constructor) <;> (first | refine hold ?_ | rfl) <;> first | with_reducible rfl | (congr 1 <;> omega) | (congr 1 <;> simp; done) | (simp; done) | exact encB_snoc _ _ | skip)
          · repeat refine seq_on ?_
            refine cmp_dec (fun g3 => ?_) (fun g3 => ?_)
            · -- 3
              ((try refine And.intro (draw_ok (by kernel_rfl)) ?_); repeat refine seq_on ?_)
              rw [if_neg (show ¬ v ≤ 1 by omega), if_pos (show v ≤ 3 by omega)] at hs hw
              have hx2 := nextP (G := G) l j (p.se + 2) (by have := nxtP_le l i h1; omega) (by omega) (by have := h2.se; omega)
              have hv2 := nxP_lt l j (p.se + 2) (by have := h2.se; omega)
              have hse := h2.se
              have hba := h2.ba
              generalize hj2 : nxtP l j = j2 at hs hw hx2
              generalize hg2 : nxP l j (p.se + 2) = n at hs hw hx2 hv2
              refine ar ⟨by (try simp only); omega, by (try simp only); omega⟩ ?_
              refine callh [(0, 17)] hx2 ?_ ?_
              · simp only [srcP]
                ((repeat' constructor) <;> (first | refine hold ?_ | rfl) <;> first | with_reducible rfl | (congr 1 <;> omega) | (congr 1 <;> simp; done) | (simp; done) | exact encB_snoc _ _ | skip)
              refine ar ⟨by (try simp only); omega, by (try simp only); omega⟩ ?_
              ((try refine And.intro (draw_ok (by kernel_rfl)) ?_); repeat refine seq_on ?_)
              have c1 := release12 (G := G) p (p.ba + (n : Int)) h2
              have c2 := release24 (G := G) p (p.ba + (n : Int)) h2
              have hq := relO_ok h2 (p.ba + (n : Int))
              simp only at hs hw
              generalize ho : relO p (p.ba + (n : Int)) = o at hs hw c1 c2 hq
              obtain ⟨q, f⟩ := o
              simp only at hs hw c1 c2 hq
              have c3 := same26 (G := G) q (by have := hq.le; have := hq.qu; omega)
              unfold poD at c1 c2 c3
              cases f
              all_goals
                refine call_by c1 ?_
                repeat refine seq_on ?_
                refine call_by c2 ?_
                ((try refine And.intro (draw_ok (by kernel_rfl)) ?_); repeat refine seq_on ?_)
                refine cmp_is false rfl ?_
                refine cmp_no (fun h => h rfl) ?_
                refine call_by c3 ?_
                ((try refine And.intro (draw_ok (by kernel_rfl)) ?_); repeat refine seq_on ?_)
                apply again (j2, q) [(16, _), (17, _), (18, _), (19, _)] ⟨hs.2.1, hq, k, by have := hs.1; simp only at this ⊢; omega, hw⟩ (by have := hs.1; simp only at this ⊢; omega)
                ((repeat' constructor) <;> (first | refine hold ?_ | rfl) <;> first | with_reducible rfl | (congr 1 <;> omega) | (congr 1 <;> simp; done) | (simp; done) | exact encB_snoc _ _ | skip)
            · -- drop
              ((try refine And.intro (draw_ok (by kernel_rfl)) ?_); repeat refine seq_on ?_)
              rw [if_neg (show ¬ v ≤ 1 by omega), if_neg (show ¬ v ≤ 3 by omega)] at hs hw
              have hx2 := nextP (G := G) l j (p.se + 2) (by have := nxtP_le l i h1; omega) (by omega) (by have := h2.se; omega)
              have hv2 := nxP_lt l j (p.se + 2) (by have := h2.se; omega)
              have hse := h2.se
              have hba := h2.ba
              generalize hj2 : nxtP l j = j2 at hs hw hx2
              generalize hg2 : nxP l j (p.se + 2) = n at hs hw hx2 hv2
              refine ar ⟨by (try simp only); omega, by (try simp only); omega⟩ ?_
              refine callh [(0, 17)] hx2 ?_ ?_
              · simp only [srcP]
                ((repeat' constructor) <;> (first | refine hold ?_ | rfl) <;> first | with_reducible rfl | (congr 1 <;> omega) | (congr 1 <;> simp; done) | (simp; done) | exact encB_snoc _ _ | skip)
              refine ar ⟨by (try simp only); omega, by (try simp only); omega⟩ ?_
              ((try refine And.intro (draw_ok (by kernel_rfl)) ?_); repeat refine seq_on ?_)
              have c1 := drop13 (G := G) p (p.ba + (n : Int)) h2
              have c2 := drop25 (G := G) p (p.ba + (n : Int)) h2
              have hq := drpO_ok h2 (p.ba + (n : Int))
              simp only at hs hw
              generalize ho : drpO p (p.ba + (n : Int)) = o at hs hw c1 c2 hq
              obtain ⟨q, f⟩ := o
              simp only at hs hw c1 c2 hq
              have c3 := same26 (G := G) q (by have := hq.le; have := hq.qu; omega)
              unfold poD at c1 c2 c3
              cases f
              all_goals
                refine call_by c1 ?_
                repeat refine seq_on ?_
                refine call_by c2 ?_
                ((try refine And.intro (draw_ok (by kernel_rfl)) ?_); repeat refine seq_on ?_)
                refine cmp_is false rfl ?_
                refine cmp_no (fun h => h rfl) ?_
                refine call_by c3 ?_
                ((try refine And.intro (draw_ok (by kernel_rfl)) ?_); repeat refine seq_on ?_)
                apply again (j2, q) [(16, _), (17, _), (18, _), (19, _)] ⟨hs.2.1, hq, k, by have := hs.1; simp only at this ⊢; omega, hw⟩ (by have := hs.1; simp only at this ⊢; omega)
                ((repeat' constructor) <;> (first | refine hold ?_ | rfl) <;> first | with_reducible rfl | (congr 1 <;> omega) | (congr 1 <;> simp; done) | (simp; done) | exact encB_snoc _ _ | skip)
    · rw [decide_eq_false (by omega)] at hlf
      have hp : p = fin := by
        cases k with
        | zero => exact h4
        | succ k => rw [walkP, if_neg hi] at h4; exact h4
      refine callh [(0, 17)] hlf ?_ ?_
      · ((repeat' constructor) <;> (first | refine hold ?_ | rfl) <;> first | with_reducible rfl | (congr 1 <;> omega) | (congr 1 <;> simp; done) | (simp; done) | exact encB_snoc _ _ | skip)
      ((try refine And.intro (draw_ok (by kernel_rfl)) ?_); repeat refine seq_on ?_)
      rw [← hp]
      rfl
end Go.Proofs.Ytiokdhklhnhfhaa

