import Derived.Test.YtiokdhklhnhfhaaDoorMg
import Derived.Test.YtiokdhklhnhfhaaDoorMn
import Derived.Test.YtiokdhklhnhfhaaDoorMe
import Derived.Laws.StructEq
import Derived.WalkKit
import Derived.Test.YtiokdhklhnhfhaaDoorMi
namespace Go.Proofs.YtiokdhklhnhfhaaDoor
variable {G : List Go.Eng.Gl}
open Go.Eng
attribute [local irreducible] Hold
set_option maxRecDepth 100000

theorem fin_eq {α : Type} {a b : α} (h : a = b) : a = b := h
theorem within170 (n lo hi : Int) : Does (CG G) 170 [.i .i64 n, .i .i64 lo, .i .i64 hi] [.b (decide (lo ≤ n ∧ n ≤ hi))] := by
  refine Does.mk (n := 15) Tryd.func170 rfl rfl rfl (Nat.le_of_ble_eq_true rfl) ?_
  repeat refine seq_on ?_
  refine cmp_dec (fun h1 => ?_) (fun h1 => ?_)
  · refine cmp_dec (fun h2 => ?_) (fun h2 => ?_)
    all_goals (first | exact congrArg (fun x => [D.b x]) (Eq.symm (decide_eq_true (by omega))) | exact congrArg (fun x => [D.b x]) (Eq.symm (decide_eq_false (by omega))))
  · (first | exact congrArg (fun x => [D.b x]) (Eq.symm (decide_eq_true (by omega))) | exact congrArg (fun x => [D.b x]) (Eq.symm (decide_eq_false (by omega))))

structure Pl where
  ws : List Int
  ms : Int
  nu : Int
  de : Int
  ho : Int
  wi : Int
def plD (p : Pl) : D := .agg [.sl 1 (p.ws.map (.i .i64)), .i .i64 p.ms, .i .i64 p.nu, .i .i64 p.de, .i .i64 p.ho, .i .i64 p.wi]
def wAt (ws : List Int) (i : Nat) : Bool := decide ((1 ≤ ws.getD i 0 ∧ ws.getD i 0 ≤ 10000) ∧ (i = 0 ∨ ws.getD (i - 1) 0 < ws.getD i 0))
def wAll (ws : List Int) (n : Nat) : Bool := (List.range n).all (wAt ws)
theorem wAll_succ (ws : List Int) (n : Nat) : wAll ws (n + 1) = (wAll ws n && wAt ws n) := by simp [wAll, List.range_succ]
theorem wAll_fail {ws : List Int} {n i : Nat} (hi : i < n) (h : wAt ws i = false) : wAll ws n = false := by
  unfold wAll
  rw [Bool.eq_false_iff]; intro h2
  have := List.all_eq_true.1 h2 i (List.mem_range.2 hi)
  rw [h] at this; cases this
def wOk (ws : List Int) : Bool := decide (1 ≤ ws.length ∧ ws.length ≤ 8) && wAll ws ws.length
def planOk (p : Pl) : Bool := wOk p.ws && decide (1 ≤ p.ms ∧ p.ms ≤ 1000000) && decide (0 ≤ p.nu ∧ p.nu ≤ 1000000) && decide (1 ≤ p.de ∧ p.de ≤ 1000000) && decide (1 ≤ p.ho ∧ p.ho ≤ 100) && decide (1 ≤ p.wi ∧ p.wi ≤ 1000000)

theorem weights213 (ws : List Int) (hl : ws.length ≤ 9223372036854775806) : Does (CG G) 213 [ints ws] [.b (wOk ws)] := by
  have hlen : (ws.map (D.i .i64)).length = ws.length := by simp
  refine Does.mk (n := 38) Tryd.func213 rfl rfl rfl (Nat.le_of_ble_eq_true rfl) ?_
  repeat refine seq_on ?_
  apply loop_inv (fun i : Nat => i ≤ ws.length ∧ wAll ws i = true) (fun i => ⟨[(0, .d (ints ws)), (6, .d (ints ws)), (7, .d (.i .i64 (ws.length : Int))), (8, .d (.i .i64 (i : Int)))], [], 2⟩) (fun i => ws.length - i) 0 ⟨by omega, rfl⟩ []
  · ((repeat' constructor) <;> (first | refine hold ?_ | rfl) <;> first | with_reducible rfl | (congr 1 <;> omega) | (congr 1 <;> simp; done) | (simp; done) | exact encB_snoc _ _ | skip)
  · rintro i ⟨hi, ha⟩
    repeat refine seq_on ?_
    refine cmp_dec (fun h1 => ?_) (fun h1 => ?_)
    · have hi' : i < ws.length := by omega
      have hs := wAll_succ ws i
      repeat refine seq_on ?_
      refine Eng.get_at i rfl (getInts hi') ?_
      repeat refine seq_on ?_
      refine cut3 i rfl rfl (by rw [hlen]; omega) ?_
      repeat refine seq_on ?_
      refine call_bool (within170 _ _ _) (fun hw => ?_) (fun hw => ?_)
      · have hw := of_decide_eq_true hw
        repeat refine seq_on ?_
        refine cmp_dec (fun h2 => ?_) (fun h2 => ?_)
        · have h0 : i ≠ 0 := by rintro rfl; simp at h2
          repeat refine seq_on ?_
          refine ar ⟨by omega, by omega⟩ ?_
          refine Eng.get_at (i - 1) (by omega) (x := .i .i64 (ws.getD (i - 1) 0)) (by simp [List.getElem?_take, show i - 1 < i by omega, show i - 1 < ws.length by omega]) ?_
          refine cmp_dec (fun h3 => ?_) (fun h3 => ?_)
          · repeat refine seq_on ?_
            have hf : wAt ws i = false := by unfold wAt; exact decide_eq_false (by omega)
            rw [show wOk ws = false by unfold wOk; rw [wAll_fail hi' hf, Bool.and_false]]
            rfl
          · repeat refine seq_on ?_
            refine ar ⟨by omega, by omega⟩ ?_
            have hf : wAt ws i = true := by unfold wAt; exact decide_eq_true (by omega)
            apply again (i + 1) [] ⟨by omega, by rw [hs, ha, hf]; rfl⟩ (by omega)
            ((repeat' constructor) <;> (first | refine hold ?_ | rfl) <;> first | with_reducible rfl | (congr 1 <;> omega) | (congr 1 <;> simp; done) | (simp; done) | exact encB_snoc _ _ | skip)
        · have h0 : i = 0 := by
            rw [List.length_take, hlen] at h2
            omega
          repeat refine seq_on ?_
          refine ar ⟨by omega, by omega⟩ ?_
          have hf : wAt ws i = true := by unfold wAt; exact decide_eq_true (by omega)
          apply again (i + 1) [] ⟨by omega, by rw [hs, ha, hf]; rfl⟩ (by omega)
          ((repeat' constructor) <;> (first | refine hold ?_ | rfl) <;> first | with_reducible rfl | (congr 1 <;> omega) | (congr 1 <;> simp; done) | (simp; done) | exact encB_snoc _ _ | skip)
      · have hw := of_decide_eq_false hw
        repeat refine seq_on ?_
        have hf : wAt ws i = false := by unfold wAt; exact decide_eq_false (by omega)
        rw [show wOk ws = false by unfold wOk; rw [wAll_fail hi' hf, Bool.and_false]]
        rfl
    · obtain rfl : i = ws.length := by omega
      repeat refine seq_on ?_
      refine call_by (within170 _ _ _) ?_
      have e : wOk ws = decide ((1 : Int) ≤ (ws.length : Int) ∧ (ws.length : Int) ≤ 8) := by
        unfold wOk; rw [ha, Bool.and_true]
        exact decide_eq_decide.2 ⟨fun h => ⟨by omega, by omega⟩, fun h => ⟨by omega, by omega⟩⟩
      rw [e]
      first | rfl | (rw [hlen]; rfl)

theorem validate167 (p : Pl) (hl : p.ws.length ≤ 9223372036854775806) : Does (CG G) 167 [plD p] [.i .i64 (if planOk p then 0 else 8)] := by
  have e : planOk p = (wOk p.ws && decide (1 ≤ p.ms ∧ p.ms ≤ 1000000) && decide (0 ≤ p.nu ∧ p.nu ≤ 1000000) && decide (1 ≤ p.de ∧ p.de ≤ 1000000) && decide (1 ≤ p.ho ∧ p.ho ≤ 100) && decide (1 ≤ p.wi ∧ p.wi ≤ 1000000)) := rfl
  rw [e]
  refine Does.mk (n := 37) Tryd.func167 rfl rfl rfl (Nat.le_of_ble_eq_true rfl) ?_
  repeat refine seq_on ?_
  refine call_bool (weights213 _ hl) (fun h1 => ?_) (fun h1 => ?_)
  · refine call_bool (within170 _ _ _) (fun h2 => ?_) (fun h2 => ?_)
    · refine call_bool (within170 _ _ _) (fun h3 => ?_) (fun h3 => ?_)
      · refine call_bool (within170 _ _ _) (fun h4 => ?_) (fun h4 => ?_)
        · refine call_bool (within170 _ _ _) (fun h5 => ?_) (fun h5 => ?_)
          · refine call_bool (within170 _ _ _) (fun h6 => ?_) (fun h6 => ?_)
            all_goals (refine fin_eq ?_; simp [h1, h2, h3, h4, h5, h6])
          · refine fin_eq ?_
            simp [h1, h2, h3, h4, h5]
        · refine fin_eq ?_
          simp [h1, h2, h3, h4]
      · refine fin_eq ?_
        simp [h1, h2, h3]
    · refine fin_eq ?_
      simp [h1, h2]
  · refine fin_eq ?_
    simp [h1]
end Go.Proofs.YtiokdhklhnhfhaaDoor

namespace Go.Proofs.YtiokdhklhnhfhaaDoor
variable {G : List Go.Eng.Gl}
open Go.Eng
attribute [local irreducible] Hold
set_option maxRecDepth 100000

theorem planOk_iff (p : Pl) : planOk p = true ↔ (1 ≤ p.ws.length ∧ p.ws.length ≤ 8) ∧ wAll p.ws p.ws.length = true ∧ (1 ≤ p.ms ∧ p.ms ≤ 1000000) ∧ (0 ≤ p.nu ∧ p.nu ≤ 1000000) ∧ (1 ≤ p.de ∧ p.de ≤ 1000000) ∧ (1 ≤ p.ho ∧ p.ho ≤ 100) ∧ (1 ≤ p.wi ∧ p.wi ≤ 1000000) := by
  simp only [planOk, wOk, Bool.and_eq_true, decide_eq_true_eq, and_assoc]
def planBox (p : Pl) : List (Nat × Option Ent) := [(16, some (.box [.d (.sl 1 (p.ws.map (.i .i64))), .d (.i .i64 p.ms), .d (.i .i64 p.nu), .d (.i .i64 p.de), .d (.i .i64 p.ho), .d (.i .i64 p.wi)]))]

theorem plan209 (p : Pl) (hl : p.ws.length ≤ 9223372036854775806) : Does (CG G) 209 [plD p] [.i .i64 (if planOk p then 0 else 8)] := by
  have hlen : (p.ws.map (D.i .i64)).length = p.ws.length := by simp
  have hk := planOk_iff p
  generalize hpk : planOk p = k at hk
  refine Does.mk (n := 109) Tryd.func209 rfl rfl rfl (Nat.le_of_ble_eq_true rfl) ?_
  unfold plD
  repeat refine seq_on ?_
  repeat' (refine cmp_dec (fun _ => ?_) (fun _ => ?_))
  · rename_i c1 c2 c3 c4 c5 c6 c7 c8 c9 c10 c11 c12
    repeat refine seq_on ?_
    apply loop_inv (fun x : Nat × Bool => x.1 ≤ p.ws.length ∧ wAll p.ws x.1 = x.2) (fun x => ⟨[(1, .op 16 0 0), (3, .d (.b x.2)), (4, .d (.i .i64 (x.1 : Int)))], planBox p, 2⟩) (fun x => p.ws.length - x.1) (0, true) ⟨Nat.zero_le _, rfl⟩ [(16, _)]
    · simp only [planBox]
      ((repeat' constructor) <;> (first | refine hold ?_ | rfl) <;> first | with_reducible rfl | (congr 1 <;> omega) | (congr 1 <;> simp; done) | (simp; done) | exact encB_snoc _ _ | skip)
    · rintro ⟨i, b⟩ ⟨hi, ha⟩
      simp only at hi ha
      simp only [planBox]
      repeat refine seq_on ?_
      refine cmp_dec (fun h1 => ?_) (fun h1 => ?_)
      · have hi' : i < p.ws.length := by omega
        have hs := wAll_succ p.ws i
        repeat refine seq_on ?_
        cases b
        · (refine ⟨draw_ok (by kernel_rfl), ?_⟩; repeat refine seq_on ?_)
          refine ar ⟨by omega, by omega⟩ ?_
          apply again (i + 1, false) [(16, _)] ⟨by simp only; omega, by simp only; rw [hs, ha]; rfl⟩ (by simp only; omega)
          ((repeat' constructor) <;> (first | refine hold ?_ | rfl) <;> first | with_reducible rfl | (congr 1 <;> omega) | (congr 1 <;> simp; done) | (simp; done) | exact encB_snoc _ _ | skip)
        · refine Eng.get_at i rfl (getInts hi') ?_
          refine cmp_dec (fun h2 => ?_) (fun h2 => ?_)
          · refine Eng.get_at i rfl (getInts hi') ?_
            refine cmp_dec (fun h3 => ?_) (fun h3 => ?_)
            · refine cmp_dec (fun h4 => ?_) (fun h4 => ?_)
              · (refine ⟨draw_ok (by kernel_rfl), ?_⟩; repeat refine seq_on ?_)
                refine ar ⟨by omega, by omega⟩ ?_
                have hf : wAt p.ws i = true := by unfold wAt; exact decide_eq_true (by omega)
                apply again (i + 1, true) [(16, _)] ⟨by simp only; omega, by simp only; rw [hs, ha, hf]; rfl⟩ (by simp only; omega)
                ((repeat' constructor) <;> (first | refine hold ?_ | rfl) <;> first | with_reducible rfl | (congr 1 <;> omega) | (congr 1 <;> simp; done) | (simp; done) | exact encB_snoc _ _ | skip)
              · refine Eng.get_at i rfl (getInts hi') ?_
                refine ar ⟨by omega, by omega⟩ ?_
                refine Eng.get_at (i - 1) (by omega) (getInts (i := i - 1) (by omega)) ?_
                refine cmp_dec (fun h5 => ?_) (fun h5 => ?_)
                · (refine ⟨draw_ok (by kernel_rfl), ?_⟩; repeat refine seq_on ?_)
                  refine ar ⟨by omega, by omega⟩ ?_
                  have hf : wAt p.ws i = true := by unfold wAt; exact decide_eq_true (by omega)
                  apply again (i + 1, true) [(16, _)] ⟨by simp only; omega, by simp only; rw [hs, ha, hf]; rfl⟩ (by simp only; omega)
                  ((repeat' constructor) <;> (first | refine hold ?_ | rfl) <;> first | with_reducible rfl | (congr 1 <;> omega) | (congr 1 <;> simp; done) | (simp; done) | exact encB_snoc _ _ | skip)
                · (refine ⟨draw_ok (by kernel_rfl), ?_⟩; repeat refine seq_on ?_)
                  refine ar ⟨by omega, by omega⟩ ?_
                  have hf : wAt p.ws i = false := by unfold wAt; exact decide_eq_false (by omega)
                  apply again (i + 1, false) [(16, _)] ⟨by simp only; omega, by simp only; rw [hs, ha, hf]; rfl⟩ (by simp only; omega)
                  ((repeat' constructor) <;> (first | refine hold ?_ | rfl) <;> first | with_reducible rfl | (congr 1 <;> omega) | (congr 1 <;> simp; done) | (simp; done) | exact encB_snoc _ _ | skip)
            · (refine ⟨draw_ok (by kernel_rfl), ?_⟩; repeat refine seq_on ?_)
              refine ar ⟨by omega, by omega⟩ ?_
              have hf : wAt p.ws i = false := by unfold wAt; exact decide_eq_false (by omega)
              apply again (i + 1, false) [(16, _)] ⟨by simp only; omega, by simp only; rw [hs, ha, hf]; rfl⟩ (by simp only; omega)
              ((repeat' constructor) <;> (first | refine hold ?_ | rfl) <;> first | with_reducible rfl | (congr 1 <;> omega) | (congr 1 <;> simp; done) | (simp; done) | exact encB_snoc _ _ | skip)
          · (refine ⟨draw_ok (by kernel_rfl), ?_⟩; repeat refine seq_on ?_)
            refine ar ⟨by omega, by omega⟩ ?_
            have hf : wAt p.ws i = false := by unfold wAt; exact decide_eq_false (by omega)
            apply again (i + 1, false) [(16, _)] ⟨by simp only; omega, by simp only; rw [hs, ha, hf]; rfl⟩ (by simp only; omega)
            ((repeat' constructor) <;> (first | refine hold ?_ | rfl) <;> first | with_reducible rfl | (congr 1 <;> omega) | (congr 1 <;> simp; done) | (simp; done) | exact encB_snoc _ _ | skip)
      · obtain rfl : i = p.ws.length := by omega
        have hkb : k = b := by
          rw [Bool.eq_iff_iff, hk, ha]
          constructor
          · intro h; exact h.2.1
          · intro h; exact ⟨by omega, h, by omega, by omega, by omega, by omega, by omega⟩
        subst hkb
        cases k
        all_goals (repeat refine seq_on ?_; rfl)
  all_goals
    obtain rfl : k = false := by rw [Bool.eq_false_iff]; intro h; have h := hk.1 h; omega
    repeat refine seq_on ?_
    apply loop_inv (fun i : Nat => i ≤ p.ws.length) (fun i => ⟨[(1, .op 16 0 0), (3, .d (.b false)), (4, .d (.i .i64 (i : Int)))], planBox p, 2⟩) (fun i => p.ws.length - i) 0 (Nat.zero_le _) [(16, _)]
    · simp only [planBox]
      ((repeat' constructor) <;> (first | refine hold ?_ | rfl) <;> first | with_reducible rfl | (congr 1 <;> omega) | (congr 1 <;> simp; done) | (simp; done) | exact encB_snoc _ _ | skip)
    · intro i hi
      simp only [planBox]
      repeat refine seq_on ?_
      refine cmp_dec (fun h1 => ?_) (fun h1 => ?_)
      · repeat refine seq_on ?_
        (refine ⟨draw_ok (by kernel_rfl), ?_⟩; repeat refine seq_on ?_)
        refine ar ⟨by omega, by omega⟩ ?_
        apply again (i + 1) [(16, _)] (by omega) (by omega)
        ((repeat' constructor) <;> (first | refine hold ?_ | rfl) <;> first | with_reducible rfl | (congr 1 <;> omega) | (congr 1 <;> simp; done) | (simp; done) | exact encB_snoc _ _ | skip)
      · repeat refine seq_on ?_
        rfl

def stageF (p : Pl) (st : Int) : Int := if planOk p = true ∧ 0 ≤ st ∧ st < (p.ws.length : Int) then p.ws.getD st.toNat 0 else 0
theorem weight127 (p : Pl) (st : Int) (hl : p.ws.length ≤ 9223372036854775806) : Does (CG G) 127 [plD p, .i .i64 st] [.i .i64 (stageF p st)] := by
  have hv := validate167 (G := G) p hl
  have hlen : (p.ws.map (D.i .i64)).length = p.ws.length := by simp
  unfold stageF
  generalize planOk p = k at *
  unfold plD at *
  refine Does.mk (n := 24) Tryd.func127 rfl rfl rfl (Nat.le_of_ble_eq_true rfl) ?_
  repeat refine seq_on ?_
  refine call_by hv ?_
  cases k
  · refine cmp_yes (by decide) ?_
    ((try refine And.intro (draw_ok (by kernel_rfl)) ?_); repeat refine seq_on ?_)
    rfl
  · refine cmp_no (by decide) ?_
    refine cmp_dec (fun h1 => ?_) (fun h1 => ?_)
    · ((try refine And.intro (draw_ok (by kernel_rfl)) ?_); repeat refine seq_on ?_)
      refine fin_eq ?_
      rw [if_neg (by rintro ⟨_, h⟩; omega)]
    · refine cmp_dec (fun h2 => ?_) (fun h2 => ?_)
      · rw [hlen] at h2
        ((try refine And.intro (draw_ok (by kernel_rfl)) ?_); repeat refine seq_on ?_)
        refine fin_eq ?_
        rw [if_neg (by rintro ⟨_, h⟩; omega)]
      · rw [hlen] at h2
        ((try refine And.intro (draw_ok (by kernel_rfl)) ?_); repeat refine seq_on ?_)
        refine Eng.get_at st.toNat (by omega) (getInts (by omega)) ?_
        refine fin_eq ?_
        rw [if_pos ⟨rfl, by omega, by omega⟩]
end Go.Proofs.YtiokdhklhnhfhaaDoor

namespace Go.Proofs.YtiokdhklhnhfhaaDoor
variable {G : List Go.Eng.Gl}
open Go.Eng
attribute [local irreducible] Hold
set_option maxRecDepth 100000

structure Ro where
  st : Int
  sg : Int
  he : Int
  tt : Int
  er : Int
  ag : Int
def roD (r : Ro) : D := .agg [.i .i64 r.st, .i .i64 r.sg, .i .i64 r.he, .i .i64 r.tt, .i .i64 r.er, .i .i64 r.ag]
def ro0 (st : Int) : Ro := ⟨st, 0, 0, 0, 0, 0⟩

/-! Windows -/
def wTick (tt er ag len : Int) : (Int × Int × Int) × Bool := if len ≤ max ag 0 + 1 then ((0, 0, 0), true) else ((tt, er, max ag 0 + 1), false)
def winD (w : Int × Int × Int) : D := .agg [.i .i64 w.1, .i .i64 w.2.1, .i .i64 w.2.2]
theorem wtick131 (tt er ag len : Int) (ha : ag ≤ 1000000000000) : Does (CG G) 131 [winD (tt, er, ag), .i .i64 len] [winD (wTick tt er ag len).1, .b (wTick tt er ag len).2] := by
  unfold winD
  simp only
  refine Does.mk (n := 27) Tryd.func131 rfl rfl rfl (Nat.le_of_ble_eq_true rfl) ?_
  repeat refine seq_on ?_
  refine cmp_dec (fun h1 => ?_) (fun h1 => ?_)
  · ((try refine And.intro (draw_ok (by kernel_rfl)) ?_); repeat refine seq_on ?_)
    refine fin_eq ?_
    rw [show wTick tt er ag len = ((0, 0, 0), true) from if_pos (by omega)]
  · refine ar ⟨by omega, by omega⟩ ?_
    refine cmp_dec (fun h2 => ?_) (fun h2 => ?_)
    · ((try refine And.intro (draw_ok (by kernel_rfl)) ?_); repeat refine seq_on ?_)
      refine fin_eq ?_
      rw [show wTick tt er ag len = ((0, 0, 0), true) from if_pos (by omega)]
    · ((try refine And.intro (draw_ok (by kernel_rfl)) ?_); repeat refine seq_on ?_)
      refine ar ⟨by omega, by omega⟩ ?_
      ((try refine And.intro (draw_ok (by kernel_rfl)) ?_); repeat refine seq_on ?_)
      refine fin_eq ?_
      rw [show wTick tt er ag len = ((tt, er, max ag 0 + 1), false) from if_neg (by omega)]
theorem wtick163 (tt er ag len : Int) (ha : ag ≤ 1000000000000) : Does (CG G) 163 [winD (tt, er, ag), .i .i64 len] [winD (wTick tt er ag len).1, .b (wTick tt er ag len).2] := by
  unfold winD
  simp only
  refine Does.mk (n := 27) Tryd.func163 rfl rfl rfl (Nat.le_of_ble_eq_true rfl) ?_
  repeat refine seq_on ?_
  refine cmp_dec (fun h1 => ?_) (fun h1 => ?_)
  · ((try refine And.intro (draw_ok (by kernel_rfl)) ?_); repeat refine seq_on ?_)
    refine fin_eq ?_
    rw [show wTick tt er ag len = ((0, 0, 0), true) from if_pos (by omega)]
  · refine ar ⟨by omega, by omega⟩ ?_
    refine cmp_dec (fun h2 => ?_) (fun h2 => ?_)
    · ((try refine And.intro (draw_ok (by kernel_rfl)) ?_); repeat refine seq_on ?_)
      refine fin_eq ?_
      rw [show wTick tt er ag len = ((0, 0, 0), true) from if_pos (by omega)]
    · ((try refine And.intro (draw_ok (by kernel_rfl)) ?_); repeat refine seq_on ?_)
      refine ar ⟨by omega, by omega⟩ ?_
      ((try refine And.intro (draw_ok (by kernel_rfl)) ?_); repeat refine seq_on ?_)
      refine fin_eq ?_
      rw [show wTick tt er ag len = ((tt, er, max ag 0 + 1), false) from if_neg (by omega)]

/-- One more, as far as it goes. -/
def incF (n k : Int) : Int := addF 1000000000 [n, k] 0
theorem add_zero (n : Int) : addF 1000000000 [n] 0 = incF n 0 := by
  unfold incF
  simp only [addF]
  omega
theorem incF_le (n k : Int) : 0 ≤ incF n k ∧ incF n k ≤ 1000000000 := by
  unfold incF
  simp only [addF]
  omega
theorem ax1 (n k : Int) : Does (CG G) 171 [.i .i64 1000000000, .sl 1 [.i .i64 n, .i .i64 k]] [.i .i64 (incF n k)] := add25 1000000000 [n, k] ⟨by decide, by decide⟩ (by simp)
theorem ay1 (n k : Int) : Does (CG G) 211 [.i .i64 1000000000, .sl 1 [.i .i64 n, .i .i64 k]] [.i .i64 (incF n k)] := add26 1000000000 [n, k] ⟨by decide, by decide⟩ (by simp)
theorem ay0 (n : Int) : Does (CG G) 211 [.i .i64 1000000000, .sl 1 [.i .i64 n]] [.i .i64 (incF n 0)] := by
  have := add26 (G := G) 1000000000 [n] ⟨by decide, by decide⟩ (by simp)
  rw [show max (1000000000 : Int) 0 = 1000000000 by decide, add_zero] at this
  exact this
theorem cnt210 (n : Int) : Does (CG G) 210 [.i .i64 n] [.i .i64 (incF n 1)] := by
  refine Does.mk (n := 6) Tryd.func210 rfl rfl rfl (Nat.le_of_ble_eq_true rfl) ?_
  repeat refine seq_on ?_
  refine call_by (ay1 n 1) ?_
  rfl
def b01 (b : Bool) : Int := if b then 1 else 0
theorem wcount134 (tt er ag : Int) (b : Bool) : Does (CG G) 134 [winD (tt, er, ag), .b b] [winD (incF tt 1, incF er (b01 b), ag)] := by
  unfold winD
  simp only
  refine Does.mk (n := 19) Tryd.func134 rfl rfl rfl (Nat.le_of_ble_eq_true rfl) ?_
  repeat refine seq_on ?_
  cases b
  · repeat refine seq_on ?_
    refine call_by (ax1 _ _) ?_
    refine call_by (ax1 _ _) ?_
    ((try refine And.intro (draw_ok (by kernel_rfl)) ?_); repeat refine seq_on ?_)
    rfl
  · repeat refine seq_on ?_
    refine call_by (ax1 _ _) ?_
    refine call_by (ax1 _ _) ?_
    ((try refine And.intro (draw_ok (by kernel_rfl)) ?_); repeat refine seq_on ?_)
    rfl
theorem sample165 (tt er ag : Int) (b : Bool) : Does (CG G) 165 [winD (tt, er, ag), .b b] [winD (incF tt 1, incF er (b01 b), ag)] := by
  unfold winD
  simp only
  refine Does.mk (n := 20) Tryd.func165 rfl rfl rfl (Nat.le_of_ble_eq_true rfl) ?_
  repeat refine seq_on ?_
  refine call_by (cnt210 _) ?_
  ((try refine And.intro (draw_ok (by kernel_rfl)) ?_); repeat refine seq_on ?_)
  cases b
  · repeat refine seq_on ?_
    refine call_by (ay0 _) ?_
    ((try refine And.intro (draw_ok (by kernel_rfl)) ?_); repeat refine seq_on ?_)
    rfl
  · repeat refine seq_on ?_
    refine call_by (cnt210 _) ?_
    ((try refine And.intro (draw_ok (by kernel_rfl)) ?_); repeat refine seq_on ?_)
    rfl

/-! Verdicts -/
theorem mulb {a b A B : Int} (h1 : 0 ≤ a ∧ a ≤ A) (h2 : 0 ≤ b ∧ b ≤ B) : 0 ≤ a * b ∧ a * b ≤ A * B :=
  ⟨Int.mul_nonneg h1.1 h2.1, Int.mul_le_mul h1.2 h2.2 h2.1 (by omega)⟩
def cntOk (n : Int) : Bool := decide (0 ≤ n ∧ n ≤ 1000000000)
def verdF (p : Pl) (tt er : Int) : Int :=
  if (planOk p && cntOk tt && cntOk er) = true then (if tt < p.ms then 1 else if p.nu * tt < er * p.de then 3 else 2) else 0
theorem verdict132 (p : Pl) (tt er ag : Int) (hl : p.ws.length ≤ 9223372036854775806) : Does (CG G) 132 [plD p, winD (tt, er, ag)] [.i .i64 (verdF p tt er)] := by
  have hv := validate167 (G := G) p hl
  have hk := planOk_iff p
  have e1 : cntOk tt = decide (0 ≤ tt ∧ tt ≤ 1000000000) := rfl
  have e2 : cntOk er = decide (0 ≤ er ∧ er ≤ 1000000000) := rfl
  unfold verdF
  rw [e1, e2]
  generalize planOk p = k at *
  unfold plD winD at *
  simp only at *
  refine Does.mk (n := 39) Tryd.func132 rfl rfl rfl (Nat.le_of_ble_eq_true rfl) ?_
  repeat refine seq_on ?_
  refine call_by hv ?_
  cases k
  · refine cmp_yes (by decide) ?_
    ((try refine And.intro (draw_ok (by kernel_rfl)) ?_); repeat refine seq_on ?_)
    rfl
  · obtain ⟨k1, k2, k3, k4, k5, k6, k7⟩ := hk.1 rfl
    refine cmp_no (by decide) ?_
    refine call_bool (within170 _ _ _) (fun h1 => ?_) (fun h1 => ?_)
    · refine call_bool (within170 _ _ _) (fun h2 => ?_) (fun h2 => ?_)
      · have g1 := of_decide_eq_true h1
        have g2 := of_decide_eq_true h2
        have m1 := mulb g2 (b := p.de) (B := 1000000) (by omega)
        have m2 := mulb (a := p.nu) (A := 1000000) (by omega) g1
        rw [h1, h2]
        ((try refine And.intro (draw_ok (by kernel_rfl)) ?_); repeat refine seq_on ?_)
        refine cmp_dec (fun h3 => ?_) (fun h3 => ?_)
        · ((try refine And.intro (draw_ok (by kernel_rfl)) ?_); repeat refine seq_on ?_)
          refine fin_eq ?_
          rw [if_pos (show (true && true && true) = true from rfl), if_pos h3]
        · ((try refine And.intro (draw_ok (by kernel_rfl)) ?_); repeat refine seq_on ?_)
          refine ar ⟨by omega, by omega⟩ ?_
          refine ar ⟨by omega, by omega⟩ ?_
          refine cmp_dec (fun h4 => ?_) (fun h4 => ?_)
          · ((try refine And.intro (draw_ok (by kernel_rfl)) ?_); repeat refine seq_on ?_)
            refine fin_eq ?_
            rw [if_pos (show (true && true && true) = true from rfl), if_neg h3, if_pos h4]
          · ((try refine And.intro (draw_ok (by kernel_rfl)) ?_); repeat refine seq_on ?_)
            refine fin_eq ?_
            rw [if_pos (show (true && true && true) = true from rfl), if_neg h3, if_neg h4]
      · rw [h1, h2]
        ((try refine And.intro (draw_ok (by kernel_rfl)) ?_); repeat refine seq_on ?_)
        rfl
    · rw [h1]
      ((try refine And.intro (draw_ok (by kernel_rfl)) ?_); repeat refine seq_on ?_)
      rfl
theorem verdict164 (p : Pl) (tt er ag : Int) (hl : p.ws.length ≤ 9223372036854775806) : Does (CG G) 164 [plD p, winD (tt, er, ag)] [.i .i64 (verdF p tt er)] := by
  have hv := plan209 (G := G) p hl
  have hk := planOk_iff p
  have e1 : cntOk tt = decide (0 ≤ tt ∧ tt ≤ 1000000000) := rfl
  have e2 : cntOk er = decide (0 ≤ er ∧ er ≤ 1000000000) := rfl
  unfold verdF
  rw [e1, e2]
  generalize planOk p = k at *
  unfold plD winD at *
  simp only at *
  refine Does.mk (n := 44) Tryd.func164 rfl rfl rfl (Nat.le_of_ble_eq_true rfl) ?_
  repeat refine seq_on ?_
  refine call_by hv ?_
  cases k
  · refine cmp_yes (by decide) ?_
    ((try refine And.intro (draw_ok (by kernel_rfl)) ?_); repeat refine seq_on ?_)
    rfl
  · obtain ⟨k1, k2, k3, k4, k5, k6, k7⟩ := hk.1 rfl
    refine cmp_no (by decide) ?_
    refine cmp_dec (fun h1 => ?_) (fun h1 => ?_)
    · rw [show decide (0 ≤ tt ∧ tt ≤ 1000000000) = false from decide_eq_false (by omega)]
      ((try refine And.intro (draw_ok (by kernel_rfl)) ?_); repeat refine seq_on ?_)
      rfl
    refine cmp_dec (fun h2 => ?_) (fun h2 => ?_)
    · rw [show decide (0 ≤ tt ∧ tt ≤ 1000000000) = false from decide_eq_false (by omega)]
      ((try refine And.intro (draw_ok (by kernel_rfl)) ?_); repeat refine seq_on ?_)
      rfl
    refine cmp_dec (fun h3 => ?_) (fun h3 => ?_)
    · rw [show decide (0 ≤ er ∧ er ≤ 1000000000) = false from decide_eq_false (by omega), Bool.and_false]
      ((try refine And.intro (draw_ok (by kernel_rfl)) ?_); repeat refine seq_on ?_)
      rfl
    refine cmp_dec (fun h4 => ?_) (fun h4 => ?_)
    · rw [show decide (0 ≤ er ∧ er ≤ 1000000000) = false from decide_eq_false (by omega), Bool.and_false]
      ((try refine And.intro (draw_ok (by kernel_rfl)) ?_); repeat refine seq_on ?_)
      rfl
    rw [show decide (0 ≤ tt ∧ tt ≤ 1000000000) = true from decide_eq_true (by omega), show decide (0 ≤ er ∧ er ≤ 1000000000) = true from decide_eq_true (by omega)]
    have m1 := mulb (a := er) (A := 1000000000) (by omega) (b := p.de) (B := 1000000) (by omega)
    have m2 := mulb (a := p.nu) (A := 1000000) (by omega) (b := tt) (B := 1000000000) (by omega)
    ((try refine And.intro (draw_ok (by kernel_rfl)) ?_); repeat refine seq_on ?_)
    refine cmp_dec (fun h5 => ?_) (fun h5 => ?_)
    · ((try refine And.intro (draw_ok (by kernel_rfl)) ?_); repeat refine seq_on ?_)
      refine fin_eq ?_
      rw [if_pos (show (true && true && true) = true from rfl), if_pos h5]
    · ((try refine And.intro (draw_ok (by kernel_rfl)) ?_); repeat refine seq_on ?_)
      refine ar ⟨by omega, by omega⟩ ?_
      refine ar ⟨by omega, by omega⟩ ?_
      refine cmp_dec (fun h6 => ?_) (fun h6 => ?_)
      · ((try refine And.intro (draw_ok (by kernel_rfl)) ?_); repeat refine seq_on ?_)
        refine fin_eq ?_
        rw [if_pos (show (true && true && true) = true from rfl), if_neg h5, if_pos h6]
      · ((try refine And.intro (draw_ok (by kernel_rfl)) ?_); repeat refine seq_on ?_)
        refine fin_eq ?_
        rw [if_pos (show (true && true && true) = true from rfl), if_neg h5, if_neg h6]
end Go.Proofs.YtiokdhklhnhfhaaDoor

namespace Go.Proofs.YtiokdhklhnhfhaaDoor
variable {G : List Go.Eng.Gl}
open Go.Eng
attribute [local irreducible] Hold
set_option maxRecDepth 100000

/-! Rollouts -/
structure RoIn (n : Int) (len : Nat) (r : Ro) : Prop where
  st : 0 ≤ r.st ∧ r.st ≤ 4
  sg : 0 ≤ r.sg ∧ r.sg < len
  he : 0 ≤ r.he ∧ r.he ≤ n
  tt : 0 ≤ r.tt ∧ r.tt ≤ 1000000000
  er : 0 ≤ r.er ∧ r.er ≤ 1000000000
  ag : 0 ≤ r.ag ∧ r.ag ≤ n
def obsF (r : Ro) (b : Bool) : Ro := if r.st = 1 then ⟨r.st, r.sg, r.he, incF r.tt 1, incF r.er (b01 b), r.ag⟩ else r
theorem observe86 (r : Ro) (b : Bool) : Does (CG G) 86 [roD r, .b b] [roD (obsF r b)] := by
  have h := wcount134 (G := G) r.tt r.er r.ag b
  unfold winD at h
  unfold roD
  refine Does.mk (n := 14) Tryd.func86 rfl rfl rfl (Nat.le_of_ble_eq_true rfl) ?_
  repeat refine seq_on ?_
  refine cmp_dec (fun h1 => ?_) (fun h1 => ?_)
  · repeat refine seq_on ?_
    refine call_by h ?_
    ((try refine And.intro (draw_ok (by kernel_rfl)) ?_); repeat refine seq_on ?_)
    refine fin_eq ?_
    rw [show obsF r b = ⟨r.st, r.sg, r.he, incF r.tt 1, incF r.er (b01 b), r.ag⟩ from if_pos h1]
  · ((try refine And.intro (draw_ok (by kernel_rfl)) ?_); repeat refine seq_on ?_)
    refine fin_eq ?_
    rw [show obsF r b = r from if_neg h1]
theorem observe122 (r : Ro) (b : Bool) : Does (CG G) 122 [roD r, .b b] [roD (obsF r b)] := by
  have h := sample165 (G := G) r.tt r.er r.ag b
  unfold winD at h
  unfold roD
  refine Does.mk (n := 14) Tryd.func122 rfl rfl rfl (Nat.le_of_ble_eq_true rfl) ?_
  repeat refine seq_on ?_
  refine cmp_dec (fun h1 => ?_) (fun h1 => ?_)
  · repeat refine seq_on ?_
    refine call_by h ?_
    ((try refine And.intro (draw_ok (by kernel_rfl)) ?_); repeat refine seq_on ?_)
    refine fin_eq ?_
    rw [show obsF r b = ⟨r.st, r.sg, r.he, incF r.tt 1, incF r.er (b01 b), r.ag⟩ from if_pos h1]
  · ((try refine And.intro (draw_ok (by kernel_rfl)) ?_); repeat refine seq_on ?_)
    refine fin_eq ?_
    rw [show obsF r b = r from if_neg h1]

def healF (r : Ro) (p : Pl) : Ro :=
  if r.he + 1 ≠ p.ho then ⟨r.st, r.sg, r.he + 1, r.tt, r.er, r.ag⟩ else if r.sg + 1 < (p.ws.length : Int) then ⟨r.st, r.sg + 1, 0, r.tt, r.er, r.ag⟩ else ro0 2
theorem healthy133 (r : Ro) (p : Pl) (h1 : r.he ≤ 1000000000 ∧ 0 ≤ r.he) (h2 : 0 ≤ r.sg ∧ r.sg ≤ 1000000000) : Does (CG G) 133 [roD r, plD p] [roD (healF r p)] := by
  have hlen : (p.ws.map (D.i .i64)).length = p.ws.length := by simp
  unfold roD plD
  refine Does.mk (n := 30) Tryd.func133 rfl rfl rfl (Nat.le_of_ble_eq_true rfl) ?_
  repeat refine seq_on ?_
  refine ar ⟨by omega, by omega⟩ ?_
  ((try refine And.intro (draw_ok (by kernel_rfl)) ?_); repeat refine seq_on ?_)
  refine cmp_dec (fun g1 => ?_) (fun g1 => ?_)
  · ((try refine And.intro (draw_ok (by kernel_rfl)) ?_); repeat refine seq_on ?_)
    refine fin_eq ?_
    rw [show healF r p = ⟨r.st, r.sg, r.he + 1, r.tt, r.er, r.ag⟩ from if_pos g1]
  · ((try refine And.intro (draw_ok (by kernel_rfl)) ?_); repeat refine seq_on ?_)
    refine ar ⟨by omega, by omega⟩ ?_
    refine cmp_dec (fun g2 => ?_) (fun g2 => ?_)
    · rw [hlen] at g2
      ((try refine And.intro (draw_ok (by kernel_rfl)) ?_); repeat refine seq_on ?_)
      refine ar ⟨by omega, by omega⟩ ?_
      ((try refine And.intro (draw_ok (by kernel_rfl)) ?_); repeat refine seq_on ?_)
      refine fin_eq ?_
      rw [show healF r p = ⟨r.st, r.sg + 1, 0, r.tt, r.er, r.ag⟩ by unfold healF; rw [if_neg g1, if_pos g2]]
    · rw [hlen] at g2
      ((try refine And.intro (draw_ok (by kernel_rfl)) ?_); repeat refine seq_on ?_)
      refine fin_eq ?_
      rw [show healF r p = ro0 2 by unfold healF; rw [if_neg g1, if_neg g2]]
      rfl

def tickF (r : Ro) (p : Pl) : Ro :=
  if r.st ≠ 1 then r else
  if (wTick r.tt r.er r.ag p.wi).2 = false then ⟨r.st, r.sg, r.he, (wTick r.tt r.er r.ag p.wi).1.1, (wTick r.tt r.er r.ag p.wi).1.2.1, (wTick r.tt r.er r.ag p.wi).1.2.2⟩ else
  if verdF p r.tt r.er = 3 then ro0 3 else
  if verdF p r.tt r.er = 1 then ⟨r.st, r.sg, 0, 0, 0, 0⟩ else
  if verdF p r.tt r.er = 2 then healF ⟨r.st, r.sg, r.he, 0, 0, 0⟩ p else ⟨r.st, r.sg, r.he, 0, 0, 0⟩
theorem wTick_true {tt er ag len : Int} (h : (wTick tt er ag len).2 = true) : (wTick tt er ag len).1 = (0, 0, 0) := by
  unfold wTick at *
  split
  · rfl
  · rename_i h1
    rw [if_neg h1] at h; cases h
theorem tick85 (r : Ro) (p : Pl) (h1 : r.he ≤ 1000000000 ∧ 0 ≤ r.he) (h2 : 0 ≤ r.sg ∧ r.sg ≤ 1000000000) (h3 : r.ag ≤ 1000000000) (hl : p.ws.length ≤ 9223372036854775806) : Does (CG G) 85 [roD r, plD p] [roD (tickF r p)] := by
  have hw := wtick131 (G := G) r.tt r.er r.ag p.wi (by omega)
  have hv := verdict132 (G := G) p r.tt r.er r.ag hl
  have hh := healthy133 (G := G) ⟨r.st, r.sg, r.he, 0, 0, 0⟩ p h1 h2
  have ht := wTick_true (tt := r.tt) (er := r.er) (ag := r.ag) (len := p.wi)
  unfold tickF
  generalize wTick r.tt r.er r.ag p.wi = w at *
  obtain ⟨⟨a, b, c⟩, d⟩ := w
  generalize verdF p r.tt r.er = v at *
  generalize hhf : healF ⟨r.st, r.sg, r.he, 0, 0, 0⟩ p = hf at *
  unfold roD plD winD at *
  simp only at *
  refine Does.mk (n := 42) Tryd.func85 rfl rfl rfl (Nat.le_of_ble_eq_true rfl) ?_
  repeat refine seq_on ?_
  refine cmp_dec (fun g1 => ?_) (fun g1 => ?_)
  · ((try refine And.intro (draw_ok (by kernel_rfl)) ?_); repeat refine seq_on ?_)
    refine fin_eq ?_
    rw [if_pos g1]
  · repeat refine seq_on ?_
    refine call_by hw ?_
    ((try refine And.intro (draw_ok (by kernel_rfl)) ?_); repeat refine seq_on ?_)
    cases d
    · ((try refine And.intro (draw_ok (by kernel_rfl)) ?_); repeat refine seq_on ?_)
      refine fin_eq ?_
      rw [if_neg g1, if_pos rfl]
    · obtain ⟨rfl, rfl, rfl⟩ : a = 0 ∧ b = 0 ∧ c = 0 := by have := ht rfl; simp at this; exact this
      ((try refine And.intro (draw_ok (by kernel_rfl)) ?_); repeat refine seq_on ?_)
      refine call_by hv ?_
      ((try refine And.intro (draw_ok (by kernel_rfl)) ?_); repeat refine seq_on ?_)
      refine cmp_dec (fun g2 => ?_) (fun g2 => ?_)
      · ((try refine And.intro (draw_ok (by kernel_rfl)) ?_); repeat refine seq_on ?_)
        refine fin_eq ?_
        rw [if_neg g1, if_neg (by decide), if_pos g2]
        rfl
      · ((try refine And.intro (draw_ok (by kernel_rfl)) ?_); repeat refine seq_on ?_)
        refine cmp_dec (fun g3 => ?_) (fun g3 => ?_)
        · ((try refine And.intro (draw_ok (by kernel_rfl)) ?_); repeat refine seq_on ?_)
          refine fin_eq ?_
          rw [if_neg g1, if_neg (by decide), if_neg g2, if_pos g3]
        · ((try refine And.intro (draw_ok (by kernel_rfl)) ?_); repeat refine seq_on ?_)
          refine cmp_dec (fun g4 => ?_) (fun g4 => ?_)
          · ((try refine And.intro (draw_ok (by kernel_rfl)) ?_); repeat refine seq_on ?_)
            refine call_by hh ?_
            ((try refine And.intro (draw_ok (by kernel_rfl)) ?_); repeat refine seq_on ?_)
            refine fin_eq ?_
            rw [if_neg g1, if_neg (by decide), if_neg g2, if_neg g3, if_pos g4]
          · ((try refine And.intro (draw_ok (by kernel_rfl)) ?_); repeat refine seq_on ?_)
            refine fin_eq ?_
            rw [if_neg g1, if_neg (by decide), if_neg g2, if_neg g3, if_neg g4]
theorem tick121 (r : Ro) (p : Pl) (h1 : r.he ≤ 1000000000 ∧ 0 ≤ r.he) (h2 : 0 ≤ r.sg ∧ r.sg < p.ws.length) (h3 : r.ag ≤ 1000000000) (hl : p.ws.length ≤ 1000000000) : Does (CG G) 121 [roD r, plD p] [roD (tickF r p)] := by
  have hlen : (p.ws.map (D.i .i64)).length = p.ws.length := by simp
  have hw := wtick163 (G := G) r.tt r.er r.ag p.wi (by omega)
  have hv := verdict164 (G := G) p r.tt r.er r.ag (by omega)
  have ht := wTick_true (tt := r.tt) (er := r.er) (ag := r.ag) (len := p.wi)
  unfold tickF
  generalize wTick r.tt r.er r.ag p.wi = w at *
  obtain ⟨⟨a, b, c⟩, d⟩ := w
  generalize verdF p r.tt r.er = v at *
  have hf : healF ⟨r.st, r.sg, r.he, 0, 0, 0⟩ p = if r.he + 1 ≠ p.ho then ⟨r.st, r.sg, r.he + 1, 0, 0, 0⟩ else if r.sg + 1 < (p.ws.length : Int) then ⟨r.st, r.sg + 1, 0, 0, 0, 0⟩ else ro0 2 := rfl
  rw [hf]
  unfold roD plD winD at *
  simp only at *
  refine Does.mk (n := 60) Tryd.func121 rfl rfl rfl (Nat.le_of_ble_eq_true rfl) ?_
  repeat refine seq_on ?_
  refine cmp_dec (fun g1 => ?_) (fun g1 => ?_)
  · ((try refine And.intro (draw_ok (by kernel_rfl)) ?_); repeat refine seq_on ?_)
    refine fin_eq ?_
    rw [if_pos g1]
  · repeat refine seq_on ?_
    refine call_by hw ?_
    ((try refine And.intro (draw_ok (by kernel_rfl)) ?_); repeat refine seq_on ?_)
    cases d
    · ((try refine And.intro (draw_ok (by kernel_rfl)) ?_); repeat refine seq_on ?_)
      refine fin_eq ?_
      rw [if_neg g1, if_pos rfl]
    · obtain ⟨rfl, rfl, rfl⟩ : a = 0 ∧ b = 0 ∧ c = 0 := by have := ht rfl; simp at this; exact this
      ((try refine And.intro (draw_ok (by kernel_rfl)) ?_); repeat refine seq_on ?_)
      refine call_by hv ?_
      ((try refine And.intro (draw_ok (by kernel_rfl)) ?_); repeat refine seq_on ?_)
      refine cmp_dec (fun g2 => ?_) (fun g2 => ?_)
      · ((try refine And.intro (draw_ok (by kernel_rfl)) ?_); repeat refine seq_on ?_)
        refine fin_eq ?_
        rw [if_neg g1, if_neg (by decide), if_pos g2]
        rfl
      · ((try refine And.intro (draw_ok (by kernel_rfl)) ?_); repeat refine seq_on ?_)
        refine cmp_dec (fun g3 => ?_) (fun g3 => ?_)
        · ((try refine And.intro (draw_ok (by kernel_rfl)) ?_); repeat refine seq_on ?_)
          refine fin_eq ?_
          rw [if_neg g1, if_neg (by decide), if_neg g2, if_pos g3]
        · ((try refine And.intro (draw_ok (by kernel_rfl)) ?_); repeat refine seq_on ?_)
          refine cmp_dec (fun g4 => ?_) (fun g4 => ?_)
          · ((try refine And.intro (draw_ok (by kernel_rfl)) ?_); repeat refine seq_on ?_)
            refine ar ⟨by omega, by omega⟩ ?_
            ((try refine And.intro (draw_ok (by kernel_rfl)) ?_); repeat refine seq_on ?_)
            refine cmp_dec (fun g5 => ?_) (fun g5 => ?_)
            · ((try refine And.intro (draw_ok (by kernel_rfl)) ?_); repeat refine seq_on ?_)
              refine ar ⟨by omega, by omega⟩ ?_
              ((try refine And.intro (draw_ok (by kernel_rfl)) ?_); repeat refine seq_on ?_)
              refine cmp_dec (fun g6 => ?_) (fun g6 => ?_)
              · rw [hlen] at g6
                ((try refine And.intro (draw_ok (by kernel_rfl)) ?_); repeat refine seq_on ?_)
                refine fin_eq ?_
                rw [if_neg g1, if_neg (by decide), if_neg g2, if_neg g3, if_pos g4, if_neg (by omega), if_neg (by omega)]
                rfl
              · rw [hlen] at g6
                ((try refine And.intro (draw_ok (by kernel_rfl)) ?_); repeat refine seq_on ?_)
                refine fin_eq ?_
                rw [if_neg g1, if_neg (by decide), if_neg g2, if_neg g3, if_pos g4, if_neg (by omega), if_pos (by omega)]
            · ((try refine And.intro (draw_ok (by kernel_rfl)) ?_); repeat refine seq_on ?_)
              refine fin_eq ?_
              rw [if_neg g1, if_neg (by decide), if_neg g2, if_neg g3, if_pos g4, if_pos (by omega)]
          · ((try refine And.intro (draw_ok (by kernel_rfl)) ?_); repeat refine seq_on ?_)
            refine fin_eq ?_
            rw [if_neg g1, if_neg (by decide), if_neg g2, if_neg g3, if_neg g4]
end Go.Proofs.YtiokdhklhnhfhaaDoor

namespace Go.Proofs.YtiokdhklhnhfhaaDoor
variable {G : List Go.Eng.Gl}
open Go.Eng
attribute [local irreducible] Hold
set_option maxRecDepth 100000

def cmdF (r : Ro) (c : Int) : Ro × Int :=
  if c = 1 then (if r.st = 0 then (ro0 1, 0) else (ro0 0, 7)) else
  if c = 2 then (if r.st = 1 then (⟨4, r.sg, r.he, r.tt, r.er, r.ag⟩, 0) else (ro0 0, 7)) else
  if c = 3 then (if r.st = 4 then (⟨1, r.sg, r.he, r.tt, r.er, r.ag⟩, 0) else (ro0 0, 7)) else
  if c = 4 then (if r.st = 1 ∨ r.st = 4 then (ro0 2, 0) else (ro0 0, 7)) else
  if c = 5 then (if r.st = 1 ∨ r.st = 4 ∨ r.st = 2 then (ro0 3, 0) else (ro0 0, 7)) else
  if c = 6 then (ro0 0, 0) else (ro0 0, 1)

theorem cmd123 (r : Ro) (c : Int) : Does (CG G) 123 [roD r, .i .i64 c] [roD (cmdF r c).1, .i .i64 (cmdF r c).2] := by
  unfold cmdF
  unfold roD
  refine Does.mk (n := 56) Tryd.func123 rfl rfl rfl (Nat.le_of_ble_eq_true rfl) ?_
  repeat refine seq_on ?_
  refine cmp_dec (fun a1 => ?_) (fun a1 => ?_)
  · have a1 : r.st = 1 := a1
    rw [a1]
    repeat refine seq_on ?_
    refine cmp_dec (fun c1 => ?_) (fun c1 => ?_)
    · have c1 : c = 1 := c1
      subst c1
      repeat refine seq_on ?_
      refine cmp_no (by decide) ?_
      repeat refine seq_on ?_
      rfl
    repeat refine seq_on ?_
    refine cmp_dec (fun c2 => ?_) (fun c2 => ?_)
    · have c2 : c = 2 := c2
      subst c2
      repeat refine seq_on ?_
      refine cmp_yes (by decide) ?_
      repeat refine seq_on ?_
      rfl
    repeat refine seq_on ?_
    refine cmp_dec (fun c3 => ?_) (fun c3 => ?_)
    · have c3 : c = 3 := c3
      subst c3
      repeat refine seq_on ?_
      refine cmp_no (by decide) ?_
      repeat refine seq_on ?_
      rfl
    repeat refine seq_on ?_
    refine cmp_dec (fun c4 => ?_) (fun c4 => ?_)
    · have c4 : c = 4 := c4
      subst c4
      repeat refine seq_on ?_
      rfl
    repeat refine seq_on ?_
    refine cmp_dec (fun c5 => ?_) (fun c5 => ?_)
    · have c5 : c = 5 := c5
      subst c5
      repeat refine seq_on ?_
      rfl
    repeat refine seq_on ?_
    refine cmp_dec (fun c6 => ?_) (fun c6 => ?_)
    · have c6 : c = 6 := c6
      subst c6
      repeat refine seq_on ?_
      rfl
    repeat refine seq_on ?_
    refine fin_eq ?_
    rw [if_neg c1, if_neg c2, if_neg c3, if_neg c4, if_neg c5, if_neg c6]
    rfl
  · have a1 : r.st ≠ 1 := a1
    repeat refine seq_on ?_
    refine cmp_dec (fun a4 => ?_) (fun a4 => ?_)
    · have a4 : r.st = 4 := a4
      rw [a4]
      repeat refine seq_on ?_
      refine cmp_dec (fun c1 => ?_) (fun c1 => ?_)
      · have c1 : c = 1 := c1
        subst c1
        repeat refine seq_on ?_
        refine cmp_no (by decide) ?_
        repeat refine seq_on ?_
        rfl
      repeat refine seq_on ?_
      refine cmp_dec (fun c2 => ?_) (fun c2 => ?_)
      · have c2 : c = 2 := c2
        subst c2
        repeat refine seq_on ?_
        refine cmp_no (by decide) ?_
        repeat refine seq_on ?_
        rfl
      repeat refine seq_on ?_
      refine cmp_dec (fun c3 => ?_) (fun c3 => ?_)
      · have c3 : c = 3 := c3
        subst c3
        repeat refine seq_on ?_
        refine cmp_yes (by decide) ?_
        repeat refine seq_on ?_
        rfl
      repeat refine seq_on ?_
      refine cmp_dec (fun c4 => ?_) (fun c4 => ?_)
      · have c4 : c = 4 := c4
        subst c4
        repeat refine seq_on ?_
        rfl
      repeat refine seq_on ?_
      refine cmp_dec (fun c5 => ?_) (fun c5 => ?_)
      · have c5 : c = 5 := c5
        subst c5
        repeat refine seq_on ?_
        rfl
      repeat refine seq_on ?_
      refine cmp_dec (fun c6 => ?_) (fun c6 => ?_)
      · have c6 : c = 6 := c6
        subst c6
        repeat refine seq_on ?_
        rfl
      repeat refine seq_on ?_
      refine fin_eq ?_
      rw [if_neg c1, if_neg c2, if_neg c3, if_neg c4, if_neg c5, if_neg c6]
      rfl
    · have a4 : r.st ≠ 4 := a4
      have n14 : ¬ (r.st = 1 ∨ r.st = 4) := fun h => h.elim a1 a4
      have n142 : (r.st = 1 ∨ r.st = 4 ∨ r.st = 2) ↔ r.st = 2 := ⟨fun h => h.elim (fun h => absurd h a1) fun h => h.elim (fun h => absurd h a4) id, fun h => .inr (.inr h)⟩
      repeat refine seq_on ?_
      refine cmp_dec (fun c1 => ?_) (fun c1 => ?_)
      · have c1 : c = 1 := c1
        subst c1
        repeat refine seq_on ?_
        refine cmp_dec (fun b => ?_) (fun b => ?_)
        · repeat refine seq_on ?_
          refine fin_eq ?_
          rw [if_pos rfl, if_pos b]; rfl
        · repeat refine seq_on ?_
          refine fin_eq ?_
          rw [if_pos rfl, if_neg b]; rfl
      repeat refine seq_on ?_
      refine cmp_dec (fun c2 => ?_) (fun c2 => ?_)
      · have c2 : c = 2 := c2
        subst c2
        repeat refine seq_on ?_
        refine cmp_no a1 ?_
        repeat refine seq_on ?_
        refine fin_eq ?_
        rw [if_neg c1, if_pos rfl, if_neg a1]; rfl
      repeat refine seq_on ?_
      refine cmp_dec (fun c3 => ?_) (fun c3 => ?_)
      · have c3 : c = 3 := c3
        subst c3
        repeat refine seq_on ?_
        refine cmp_no a4 ?_
        repeat refine seq_on ?_
        refine fin_eq ?_
        rw [if_neg c1, if_neg c2, if_pos rfl, if_neg a4]; rfl
      repeat refine seq_on ?_
      refine cmp_dec (fun c4 => ?_) (fun c4 => ?_)
      · have c4 : c = 4 := c4
        subst c4
        repeat refine seq_on ?_
        refine fin_eq ?_
        rw [if_neg c1, if_neg c2, if_neg c3, if_pos rfl, if_neg n14]; rfl
      repeat refine seq_on ?_
      refine cmp_dec (fun c5 => ?_) (fun c5 => ?_)
      · have c5 : c = 5 := c5
        subst c5
        repeat refine seq_on ?_
        refine cmp_dec (fun b => ?_) (fun b => ?_)
        · repeat refine seq_on ?_
          refine fin_eq ?_
          rw [if_neg c1, if_neg c2, if_neg c3, if_neg c4, if_pos rfl, if_pos (n142.2 b)]; rfl
        · repeat refine seq_on ?_
          refine fin_eq ?_
          rw [if_neg c1, if_neg c2, if_neg c3, if_neg c4, if_pos rfl, if_neg (fun h => b (n142.1 h))]; rfl
      repeat refine seq_on ?_
      refine cmp_dec (fun c6 => ?_) (fun c6 => ?_)
      · have c6 : c = 6 := c6
        subst c6
        repeat refine seq_on ?_
        rfl
      repeat refine seq_on ?_
      refine fin_eq ?_
      rw [if_neg c1, if_neg c2, if_neg c3, if_neg c4, if_neg c5, if_neg c6]
      rfl

/-! The commands as functions kept in a record. -/
theorem into168 (s : Int) (r : Ro) : DoesH (CG G) 168 [.d (roD r), .op 0 0 0] [(0, some (.box [.d (.i .i64 s)]))] [.d (roD (ro0 s))] [] := by
  unfold roD ro0
  refine DoesH.mk (n := 6) Tryd.func168 rfl rfl rfl (Nat.le_of_ble_eq_true rfl) rfl ?_
  repeat refine seq_on ?_
  refine end_ok [] ?_
  ((repeat' constructor) <;> (first | refine hold ?_ | rfl) <;> first | with_reducible rfl | (congr 1 <;> omega) | (congr 1 <;> simp; done) | (simp; done) | exact encB_snoc _ _ | skip)
theorem change169 (s : Int) (r : Ro) : DoesH (CG G) 169 [.d (roD r), .op 0 0 0] [(0, some (.box [.d (.i .i64 s)]))] [.d (roD ⟨s, r.sg, r.he, r.tt, r.er, r.ag⟩)] [] := by
  unfold roD
  refine DoesH.mk (n := 7) Tryd.func169 rfl rfl rfl (Nat.le_of_ble_eq_true rfl) rfl ?_
  repeat refine seq_on ?_
  refine end_ok [] ?_
  ((repeat' constructor) <;> (first | refine hold ?_ | rfl) <;> first | with_reducible rfl | (congr 1 <;> omega) | (congr 1 <;> simp; done) | (simp; done) | exact encB_snoc _ _ | skip)
theorem into128 (s : Int) : DoesH (CG G) 128 [.d (.i .i64 s)] [] [.fn (.func 168) [] [.op 16 0 0]] [(16, some (.box [.d (.i .i64 s)]))] := by
  refine DoesH.mk (n := 4) Tryd.func128 rfl rfl rfl (Nat.le_of_ble_eq_true rfl) rfl ?_
  repeat refine seq_on ?_
  apply end_ok [(16, _)]
  ((repeat' constructor) <;> (first | refine hold ?_ | rfl) <;> first | with_reducible rfl | (congr 1 <;> omega) | (congr 1 <;> simp; done) | (simp; done) | exact encB_snoc _ _ | skip)
theorem change129 (s : Int) : DoesH (CG G) 129 [.d (.i .i64 s)] [] [.fn (.func 169) [] [.op 16 0 0]] [(16, some (.box [.d (.i .i64 s)]))] := by
  refine DoesH.mk (n := 4) Tryd.func129 rfl rfl rfl (Nat.le_of_ble_eq_true rfl) rfl ?_
  repeat refine seq_on ?_
  apply end_ok [(16, _)]
  ((repeat' constructor) <;> (first | refine hold ?_ | rfl) <;> first | with_reducible rfl | (congr 1 <;> omega) | (congr 1 <;> simp; done) | (simp; done) | exact encB_snoc _ _ | skip)
def fromD (l : List Int) : AV := .d (.sl 1 (l.map (.i .i64)))
theorem cmdof1 : DoesH (CG G) 83 [.d (.i .i64 1)] [] [.agg [fromD [0], .fn (.func 168) [] [.op 16 0 0]], .d (.b true)] [(16, some (.box [.d (.i .i64 1)]))] := by
  have h := into128 (G := G) 1
  refine DoesH.mk (n := 35) Tryd.func83 rfl rfl rfl (Nat.le_of_ble_eq_true rfl) rfl ?_
  repeat refine seq_on ?_
  refine cmp_yes (by decide) ?_
  repeat refine seq_on ?_
  refine call_alt (callh [] h ?_ ?_)
  · ((repeat' constructor) <;> (first | refine hold ?_ | rfl) <;> first | with_reducible rfl | (congr 1 <;> omega) | (congr 1 <;> simp; done) | (simp; done) | exact encB_snoc _ _ | skip)
  apply end_ok [(16, _)]
  ((repeat' constructor) <;> (first | refine hold ?_ | rfl) <;> first | with_reducible rfl | (congr 1 <;> omega) | (congr 1 <;> simp; done) | (simp; done) | exact encB_snoc _ _ | skip)
theorem cmdof2 : DoesH (CG G) 83 [.d (.i .i64 2)] [] [.agg [fromD [1], .fn (.func 169) [] [.op 16 0 0]], .d (.b true)] [(16, some (.box [.d (.i .i64 4)]))] := by
  have h := change129 (G := G) 4
  refine DoesH.mk (n := 35) Tryd.func83 rfl rfl rfl (Nat.le_of_ble_eq_true rfl) rfl ?_
  repeat refine seq_on ?_
  refine cmp_no (by decide) ?_
  repeat refine seq_on ?_
  refine cmp_yes (by decide) ?_
  repeat refine seq_on ?_
  refine call_alt (callh [] h ?_ ?_)
  · ((repeat' constructor) <;> (first | refine hold ?_ | rfl) <;> first | with_reducible rfl | (congr 1 <;> omega) | (congr 1 <;> simp; done) | (simp; done) | exact encB_snoc _ _ | skip)
  apply end_ok [(16, _)]
  ((repeat' constructor) <;> (first | refine hold ?_ | rfl) <;> first | with_reducible rfl | (congr 1 <;> omega) | (congr 1 <;> simp; done) | (simp; done) | exact encB_snoc _ _ | skip)
theorem cmdof3 : DoesH (CG G) 83 [.d (.i .i64 3)] [] [.agg [fromD [4], .fn (.func 169) [] [.op 16 0 0]], .d (.b true)] [(16, some (.box [.d (.i .i64 1)]))] := by
  have h := change129 (G := G) 1
  refine DoesH.mk (n := 35) Tryd.func83 rfl rfl rfl (Nat.le_of_ble_eq_true rfl) rfl ?_
  repeat refine seq_on ?_
  refine cmp_no (by decide) ?_
  repeat refine seq_on ?_
  refine cmp_no (by decide) ?_
  repeat refine seq_on ?_
  refine cmp_yes (by decide) ?_
  repeat refine seq_on ?_
  refine call_alt (callh [] h ?_ ?_)
  · ((repeat' constructor) <;> (first | refine hold ?_ | rfl) <;> first | with_reducible rfl | (congr 1 <;> omega) | (congr 1 <;> simp; done) | (simp; done) | exact encB_snoc _ _ | skip)
  apply end_ok [(16, _)]
  ((repeat' constructor) <;> (first | refine hold ?_ | rfl) <;> first | with_reducible rfl | (congr 1 <;> omega) | (congr 1 <;> simp; done) | (simp; done) | exact encB_snoc _ _ | skip)
theorem cmdof4 : DoesH (CG G) 83 [.d (.i .i64 4)] [] [.agg [fromD [1, 4], .fn (.func 168) [] [.op 16 0 0]], .d (.b true)] [(16, some (.box [.d (.i .i64 2)]))] := by
  have h := into128 (G := G) 2
  refine DoesH.mk (n := 35) Tryd.func83 rfl rfl rfl (Nat.le_of_ble_eq_true rfl) rfl ?_
  repeat refine seq_on ?_
  refine cmp_no (by decide) ?_
  repeat refine seq_on ?_
  refine cmp_no (by decide) ?_
  repeat refine seq_on ?_
  refine cmp_no (by decide) ?_
  repeat refine seq_on ?_
  refine cmp_yes (by decide) ?_
  repeat refine seq_on ?_
  refine call_alt (callh [] h ?_ ?_)
  · ((repeat' constructor) <;> (first | refine hold ?_ | rfl) <;> first | with_reducible rfl | (congr 1 <;> omega) | (congr 1 <;> simp; done) | (simp; done) | exact encB_snoc _ _ | skip)
  apply end_ok [(16, _)]
  ((repeat' constructor) <;> (first | refine hold ?_ | rfl) <;> first | with_reducible rfl | (congr 1 <;> omega) | (congr 1 <;> simp; done) | (simp; done) | exact encB_snoc _ _ | skip)
theorem cmdof5 : DoesH (CG G) 83 [.d (.i .i64 5)] [] [.agg [fromD [1, 4, 2], .fn (.func 168) [] [.op 16 0 0]], .d (.b true)] [(16, some (.box [.d (.i .i64 3)]))] := by
  have h := into128 (G := G) 3
  refine DoesH.mk (n := 35) Tryd.func83 rfl rfl rfl (Nat.le_of_ble_eq_true rfl) rfl ?_
  repeat refine seq_on ?_
  refine cmp_no (by decide) ?_
  repeat refine seq_on ?_
  refine cmp_no (by decide) ?_
  repeat refine seq_on ?_
  refine cmp_no (by decide) ?_
  repeat refine seq_on ?_
  refine cmp_no (by decide) ?_
  repeat refine seq_on ?_
  refine cmp_yes (by decide) ?_
  repeat refine seq_on ?_
  refine call_alt (callh [] h ?_ ?_)
  · ((repeat' constructor) <;> (first | refine hold ?_ | rfl) <;> first | with_reducible rfl | (congr 1 <;> omega) | (congr 1 <;> simp; done) | (simp; done) | exact encB_snoc _ _ | skip)
  apply end_ok [(16, _)]
  ((repeat' constructor) <;> (first | refine hold ?_ | rfl) <;> first | with_reducible rfl | (congr 1 <;> omega) | (congr 1 <;> simp; done) | (simp; done) | exact encB_snoc _ _ | skip)
theorem cmdof6 : DoesH (CG G) 83 [.d (.i .i64 6)] [] [.agg [.nl 1, .fn (.func 168) [] [.op 16 0 0]], .d (.b true)] [(16, some (.box [.d (.i .i64 0)]))] := by
  have h := into128 (G := G) 0
  refine DoesH.mk (n := 35) Tryd.func83 rfl rfl rfl (Nat.le_of_ble_eq_true rfl) rfl ?_
  repeat refine seq_on ?_
  iterate 5
    refine cmp_no (by decide) ?_
    repeat refine seq_on ?_
  refine cmp_yes (by decide) ?_
  repeat refine seq_on ?_
  refine call_alt (callh [] h ?_ ?_)
  · ((repeat' constructor) <;> (first | refine hold ?_ | rfl) <;> first | with_reducible rfl | (congr 1 <;> omega) | (congr 1 <;> simp; done) | (simp; done) | exact encB_snoc _ _ | skip)
  apply end_ok [(16, _)]
  ((repeat' constructor) <;> (first | refine hold ?_ | rfl) <;> first | with_reducible rfl | (congr 1 <;> omega) | (congr 1 <;> simp; done) | (simp; done) | exact encB_snoc _ _ | skip)
theorem cmdof0 (c : Int) (h : ¬ (1 ≤ c ∧ c ≤ 6)) : DoesH (CG G) 83 [.d (.i .i64 c)] [] [.agg [.nl 1, .d (.x Value.nilFunc)], .d (.b false)] [] := by
  refine DoesH.mk (n := 35) Tryd.func83 rfl rfl rfl (Nat.le_of_ble_eq_true rfl) rfl ?_
  repeat refine seq_on ?_
  iterate 6
    refine cmp_no (by omega) ?_
    repeat refine seq_on ?_
  apply end_ok []
  ((repeat' constructor) <;> (first | refine hold ?_ | rfl) <;> first | with_reducible rfl | (congr 1 <;> omega) | (congr 1 <;> simp; done) | (simp; done) | exact encB_snoc _ _ | skip)

theorem index130 (l : List Int) (v : Int) (hl : l.length ≤ 9223372036854775806) : ∃ i : Int, (0 ≤ i ↔ v ∈ l) ∧ Does (CG G) 130 [ints l, .i .i64 v] [.i .i64 i] := by
  have key : ∃ i : Int, (0 ≤ i ↔ v ∈ l) ∧ ∀ k : Nat, (k = l.length ∧ v ∉ l → i = -1) ∧ (l[k]? = some v → v ∉ l.take k → i = k) := by
    by_cases hm : v ∈ l
    · refine ⟨(l.idxOf v : Nat), ⟨fun _ => hm, fun _ => by omega⟩, fun k => ⟨fun h => absurd hm h.2, fun h1 h2 => ?_⟩⟩
      have hk : k < l.length := (List.getElem?_eq_some_iff.1 h1).1
      have h3 : l = l.take k ++ l.drop k := (List.take_append_drop k l).symm
      have h4 : l.drop k = v :: l.drop (k + 1) := by rw [List.drop_eq_getElem_cons hk]; rw [List.getElem?_eq_getElem hk] at h1; cases h1; rfl
      have : l.idxOf v = k := by
        rw [h3, List.idxOf_append, if_neg h2, h4, List.idxOf_cons_self]; simp; omega
      rw [this]
    · exact ⟨-1, ⟨fun h => by omega, fun h => absurd h hm⟩, fun k => ⟨fun _ => rfl, fun h1 _ => absurd (List.mem_of_getElem? h1) hm⟩⟩
  obtain ⟨r, hr, hk⟩ := key
  refine ⟨r, hr, ?_⟩
  have hlen : (l.map (D.i .i64)).length = l.length := by simp
  refine Does.mk (n := 19) Tryd.func130 rfl rfl rfl (Nat.le_of_ble_eq_true rfl) ?_
  repeat refine seq_on ?_
  apply loop_inv (fun i : Nat => i ≤ l.length ∧ v ∉ l.take i) (fun i => ⟨[(0, .d (ints l)), (1, .d (.i .i64 v)), (6, .d (ints l)), (7, .d (.i .i64 (l.length : Int))), (8, .d (.i .i64 (i : Int)))], [], 2⟩) (fun i => l.length - i) 0 ⟨by omega, by simp⟩ []
  · ((repeat' constructor) <;> (first | refine hold ?_ | rfl) <;> first | with_reducible rfl | (congr 1 <;> omega) | (congr 1 <;> simp; done) | (simp; done) | exact encB_snoc _ _ | skip)
  · rintro i ⟨hi, hn⟩
    repeat refine seq_on ?_
    refine cmp_dec (fun h1 => ?_) (fun h1 => ?_)
    · have hi' : i < l.length := by omega
      repeat refine seq_on ?_
      refine Eng.get_at i rfl (getInts hi') ?_
      have hg : l.getD i 0 = l[i] := by simp [hi']
      refine cmp_dec (fun h2 => ?_) (fun h2 => ?_)
      · repeat refine seq_on ?_
        have : r = i := (hk i).2 (by rw [List.getElem?_eq_getElem hi', ← hg, ← (show v = l.getD i 0 from h2)]) hn
        rw [this]
        rfl
      · repeat refine seq_on ?_
        refine ar ⟨by omega, by omega⟩ ?_
        apply again (i + 1) [] ⟨by omega, by
          rw [List.take_succ_eq_append_getElem hi']
          intro hm
          rcases List.mem_append.1 hm with hm | hm
          · exact hn hm
          · simp at hm; exact h2 (by rw [hg]; exact hm)⟩ (by omega)
        ((repeat' constructor) <;> (first | refine hold ?_ | rfl) <;> first | with_reducible rfl | (congr 1 <;> omega) | (congr 1 <;> simp; done) | (simp; done) | exact encB_snoc _ _ | skip)
    · repeat refine seq_on ?_
      rw [(hk l.length).1 ⟨rfl, by rw [← List.take_of_length_le (show l.length ≤ i by omega)]; exact hn⟩]
      rfl
theorem contains84 (l : List Int) (v : Int) (hl : l.length ≤ 9223372036854775806) : Does (CG G) 84 [ints l, .i .i64 v] [.b (decide (v ∈ l))] := by
  obtain ⟨i, hi, h⟩ := index130 (G := G) l v hl
  refine Does.mk (n := 9) Tryd.func84 rfl rfl rfl (Nat.le_of_ble_eq_true rfl) ?_
  repeat refine seq_on ?_
  refine call_by h ?_
  refine cmp_dec (fun h2 => ?_) (fun h2 => ?_)
  · rw [decide_eq_true (hi.1 (by omega))]; rfl
  · rw [decide_eq_false (fun hm => h2 (hi.2 hm))]; rfl

theorem cmd42 (r : Ro) (c : Int) : Does (CG G) 42 [roD r, .i .i64 c] [roD (cmdF r c).1, .i .i64 (cmdF r c).2] := by
  by_cases hc : 1 ≤ c ∧ c ≤ 6
  · obtain rfl | rfl | rfl | rfl | rfl | rfl : c = 1 ∨ c = 2 ∨ c = 3 ∨ c = 4 ∨ c = 5 ∨ c = 6 := by omega
    · have h0 := cmdof1 (G := G)
      have hk := contains84 (G := G) [0] r.st (by simp)
      have hi := into168 (G := G) 1 r
      have e : cmdF r 1 = if r.st = 0 then (ro0 1, 0) else (ro0 0, 7) := rfl
      rw [e]
      have e2 : (r.st ∈ [(0 : Int)]) ↔ r.st = 0 := by simp
      unfold roD at *
      unfold ro0 at *
      unfold fromD at h0
      unfold ints at hk
      simp only [List.map_cons, List.map_nil] at h0 hk
      refine Does.mk (n := 34) Tryd.func42 rfl rfl rfl (Nat.le_of_ble_eq_true rfl) ?_
      repeat refine seq_on ?_
      refine call_alt (callh [] h0 ?_ ?_)
      · ((repeat' constructor) <;> (first | refine hold ?_ | rfl) <;> first | with_reducible rfl | (congr 1 <;> omega) | (congr 1 <;> simp; done) | (simp; done) | exact encB_snoc _ _ | skip)
      repeat refine seq_on ?_
      refine nil_both (fun h => by cases h) (fun _ => ?_)
      by_cases hm : r.st ∈ [(0 : Int)]
      · rw [decide_eq_true hm] at hk
        refine call_by hk ?_
        repeat refine seq_on ?_
        refine callh [(0, 80)] hi ?_ ?_
        · ((repeat' constructor) <;> (first | refine hold ?_ | rfl) <;> first | with_reducible rfl | (congr 1 <;> omega) | (congr 1 <;> simp; done) | (simp; done) | exact encB_snoc _ _ | skip)
        refine fin_eq ?_
        rw [if_pos (e2.1 hm)]
      · rw [decide_eq_false hm] at hk
        refine call_by hk ?_
        repeat refine seq_on ?_
        refine fin_eq ?_
        rw [if_neg (fun h => hm (e2.2 h))]
    · have h0 := cmdof2 (G := G)
      have hk := contains84 (G := G) [1] r.st (by simp)
      have hi := change169 (G := G) 4 r
      have e : cmdF r 2 = if r.st = 1 then (⟨4, r.sg, r.he, r.tt, r.er, r.ag⟩, 0) else (ro0 0, 7) := rfl
      rw [e]
      have e2 : (r.st ∈ [(1 : Int)]) ↔ r.st = 1 := by simp
      unfold roD at *
      unfold ro0 at *
      unfold fromD at h0
      unfold ints at hk
      simp only [List.map_cons, List.map_nil] at h0 hk
      refine Does.mk (n := 34) Tryd.func42 rfl rfl rfl (Nat.le_of_ble_eq_true rfl) ?_
      repeat refine seq_on ?_
      refine call_alt (callh [] h0 ?_ ?_)
      · ((repeat' constructor) <;> (first | refine hold ?_ | rfl) <;> first | with_reducible rfl | (congr 1 <;> omega) | (congr 1 <;> simp; done) | (simp; done) | exact encB_snoc _ _ | skip)
      repeat refine seq_on ?_
      refine nil_both (fun h => by cases h) (fun _ => ?_)
      by_cases hm : r.st ∈ [(1 : Int)]
      · rw [decide_eq_true hm] at hk
        refine call_by hk ?_
        repeat refine seq_on ?_
        refine callh [(0, 80)] hi ?_ ?_
        · ((repeat' constructor) <;> (first | refine hold ?_ | rfl) <;> first | with_reducible rfl | (congr 1 <;> omega) | (congr 1 <;> simp; done) | (simp; done) | exact encB_snoc _ _ | skip)
        refine fin_eq ?_
        rw [if_pos (e2.1 hm)]
      · rw [decide_eq_false hm] at hk
        refine call_by hk ?_
        repeat refine seq_on ?_
        refine fin_eq ?_
        rw [if_neg (fun h => hm (e2.2 h))]
    · have h0 := cmdof3 (G := G)
      have hk := contains84 (G := G) [4] r.st (by simp)
      have hi := change169 (G := G) 1 r
      have e : cmdF r 3 = if r.st = 4 then (⟨1, r.sg, r.he, r.tt, r.er, r.ag⟩, 0) else (ro0 0, 7) := rfl
      rw [e]
      have e2 : (r.st ∈ [(4 : Int)]) ↔ r.st = 4 := by simp
      unfold roD at *
      unfold ro0 at *
      unfold fromD at h0
      unfold ints at hk
      simp only [List.map_cons, List.map_nil] at h0 hk
      refine Does.mk (n := 34) Tryd.func42 rfl rfl rfl (Nat.le_of_ble_eq_true rfl) ?_
      repeat refine seq_on ?_
      refine call_alt (callh [] h0 ?_ ?_)
      · ((repeat' constructor) <;> (first | refine hold ?_ | rfl) <;> first | with_reducible rfl | (congr 1 <;> omega) | (congr 1 <;> simp; done) | (simp; done) | exact encB_snoc _ _ | skip)
      repeat refine seq_on ?_
      refine nil_both (fun h => by cases h) (fun _ => ?_)
      by_cases hm : r.st ∈ [(4 : Int)]
      · rw [decide_eq_true hm] at hk
        refine call_by hk ?_
        repeat refine seq_on ?_
        refine callh [(0, 80)] hi ?_ ?_
        · ((repeat' constructor) <;> (first | refine hold ?_ | rfl) <;> first | with_reducible rfl | (congr 1 <;> omega) | (congr 1 <;> simp; done) | (simp; done) | exact encB_snoc _ _ | skip)
        refine fin_eq ?_
        rw [if_pos (e2.1 hm)]
      · rw [decide_eq_false hm] at hk
        refine call_by hk ?_
        repeat refine seq_on ?_
        refine fin_eq ?_
        rw [if_neg (fun h => hm (e2.2 h))]
    · have h0 := cmdof4 (G := G)
      have hk := contains84 (G := G) [1, 4] r.st (by simp)
      have hi := into168 (G := G) 2 r
      have e : cmdF r 4 = if r.st = 1 ∨ r.st = 4 then (ro0 2, 0) else (ro0 0, 7) := rfl
      rw [e]
      have e2 : (r.st ∈ [(1 : Int), 4]) ↔ (r.st = 1 ∨ r.st = 4) := by simp
      unfold roD at *
      unfold ro0 at *
      unfold fromD at h0
      unfold ints at hk
      simp only [List.map_cons, List.map_nil] at h0 hk
      refine Does.mk (n := 34) Tryd.func42 rfl rfl rfl (Nat.le_of_ble_eq_true rfl) ?_
      repeat refine seq_on ?_
      refine call_alt (callh [] h0 ?_ ?_)
      · ((repeat' constructor) <;> (first | refine hold ?_ | rfl) <;> first | with_reducible rfl | (congr 1 <;> omega) | (congr 1 <;> simp; done) | (simp; done) | exact encB_snoc _ _ | skip)
      repeat refine seq_on ?_
      refine nil_both (fun h => by cases h) (fun _ => ?_)
      by_cases hm : r.st ∈ [(1 : Int), 4]
      · rw [decide_eq_true hm] at hk
        refine call_by hk ?_
        repeat refine seq_on ?_
        refine callh [(0, 80)] hi ?_ ?_
        · ((repeat' constructor) <;> (first | refine hold ?_ | rfl) <;> first | with_reducible rfl | (congr 1 <;> omega) | (congr 1 <;> simp; done) | (simp; done) | exact encB_snoc _ _ | skip)
        refine fin_eq ?_
        rw [if_pos (e2.1 hm)]
      · rw [decide_eq_false hm] at hk
        refine call_by hk ?_
        repeat refine seq_on ?_
        refine fin_eq ?_
        rw [if_neg (fun h => hm (e2.2 h))]
    · have h0 := cmdof5 (G := G)
      have hk := contains84 (G := G) [1, 4, 2] r.st (by simp)
      have hi := into168 (G := G) 3 r
      have e : cmdF r 5 = if r.st = 1 ∨ r.st = 4 ∨ r.st = 2 then (ro0 3, 0) else (ro0 0, 7) := rfl
      rw [e]
      have e2 : (r.st ∈ [(1 : Int), 4, 2]) ↔ (r.st = 1 ∨ r.st = 4 ∨ r.st = 2) := by simp
      unfold roD at *
      unfold ro0 at *
      unfold fromD at h0
      unfold ints at hk
      simp only [List.map_cons, List.map_nil] at h0 hk
      refine Does.mk (n := 34) Tryd.func42 rfl rfl rfl (Nat.le_of_ble_eq_true rfl) ?_
      repeat refine seq_on ?_
      refine call_alt (callh [] h0 ?_ ?_)
      · ((repeat' constructor) <;> (first | refine hold ?_ | rfl) <;> first | with_reducible rfl | (congr 1 <;> omega) | (congr 1 <;> simp; done) | (simp; done) | exact encB_snoc _ _ | skip)
      repeat refine seq_on ?_
      refine nil_both (fun h => by cases h) (fun _ => ?_)
      by_cases hm : r.st ∈ [(1 : Int), 4, 2]
      · rw [decide_eq_true hm] at hk
        refine call_by hk ?_
        repeat refine seq_on ?_
        refine callh [(0, 80)] hi ?_ ?_
        · ((repeat' constructor) <;> (first | refine hold ?_ | rfl) <;> first | with_reducible rfl | (congr 1 <;> omega) | (congr 1 <;> simp; done) | (simp; done) | exact encB_snoc _ _ | skip)
        refine fin_eq ?_
        rw [if_pos (e2.1 hm)]
      · rw [decide_eq_false hm] at hk
        refine call_by hk ?_
        repeat refine seq_on ?_
        refine fin_eq ?_
        rw [if_neg (fun h => hm (e2.2 h))]
    · have h0 := cmdof6 (G := G)
      have hi := into168 (G := G) 0 r
      have e : cmdF r 6 = (ro0 0, 0) := rfl
      rw [e]
      unfold roD ro0 at *
      refine Does.mk (n := 34) Tryd.func42 rfl rfl rfl (Nat.le_of_ble_eq_true rfl) ?_
      repeat refine seq_on ?_
      refine call_alt (callh [] h0 ?_ ?_)
      · ((repeat' constructor) <;> (first | refine hold ?_ | rfl) <;> first | with_reducible rfl | (congr 1 <;> omega) | (congr 1 <;> simp; done) | (simp; done) | exact encB_snoc _ _ | skip)
      repeat refine seq_on ?_
      refine callh [(0, 80)] hi ?_ ?_
      · ((repeat' constructor) <;> (first | refine hold ?_ | rfl) <;> first | with_reducible rfl | (congr 1 <;> omega) | (congr 1 <;> simp; done) | (simp; done) | exact encB_snoc _ _ | skip)
      rfl
  · have h0 := cmdof0 (G := G) c hc
    have e : cmdF r c = (ro0 0, 1) := by
      unfold cmdF
      rw [if_neg (by omega), if_neg (by omega), if_neg (by omega), if_neg (by omega), if_neg (by omega), if_neg (by omega)]
    rw [e]
    unfold roD ro0 at *
    refine Does.mk (n := 34) Tryd.func42 rfl rfl rfl (Nat.le_of_ble_eq_true rfl) ?_
    repeat refine seq_on ?_
    refine call_alt (callh [] h0 ?_ ?_)
    · ((repeat' constructor) <;> (first | refine hold ?_ | rfl) <;> first | with_reducible rfl | (congr 1 <;> omega) | (congr 1 <;> simp; done) | (simp; done) | exact encB_snoc _ _ | skip)
    repeat refine seq_on ?_
    rfl
end Go.Proofs.YtiokdhklhnhfhaaDoor

namespace Go.Proofs.YtiokdhklhnhfhaaDoor
open Go.Eng
attribute [local irreducible] Hold
set_option maxRecDepth 100000

theorem rd_ro {w : World} {X : Nat → Prop} {r : Ro} {v : Value} (h : Rd w X (roD r) v) : v = .agg #[.int .i64 r.st, .int .i64 r.sg, .int .i64 r.he, .int .i64 r.tt, .int .i64 r.er, .int .i64 r.ag] := by
  unfold roD at h
  cases h with
  | agg _ vs hl hr =>
    obtain ⟨l⟩ := vs
    match l, hl, hr with
    | [a, b, c, d, e, f], _, hr =>
      rw [(hr 0 _ a rfl rfl).iinv, (hr 1 _ b rfl rfl).iinv, (hr 2 _ c rfl rfl).iinv, (hr 3 _ d rfl rfl).iinv, (hr 4 _ e rfl rfl).iinv, (hr 5 _ f rfl rfl).iinv]
def roEq (a b : Ro) : Bool := a.st == b.st && (a.sg == b.sg && (a.he == b.he && (a.tt == b.tt && (a.er == b.er && a.ag == b.ag))))
theorem roEq_iff {a b : Ro} : roEq a b = true ↔ a = b := by
  obtain ⟨a1, a2, a3, a4, a5, a6⟩ := a
  obtain ⟨b1, b2, b3, b4, b5, b6⟩ := b
  simp [roEq]
theorem eqFields_cons {P : Program} {w : World} {d : Nat} {xs ys : Array Value} {f : Field} {fs : List Field} {a b : Value} {r s : Bool} (hn : f.name ≠ "_") (ha : (part f.type xs f.offset).run P w = .ok a w) (hb : (part f.type ys f.offset).run P w = .ok b w)
    (he : (Op.equalIn d f.type a b).run P w = .ok r w) (hs : (Op.eqFields d xs ys fs).run P w = .ok s w) : (Op.eqFields d xs ys (f :: fs)).run P w = .ok (r && s) w := by
  unfold Op.eqFields
  rw [if_pos hn]
  simp only [Sem.run_bind, ha, hb, he, Result.andThen_ok]
  cases r
  · simp
  · simp [hs]
theorem eqFields_nil {P : Program} {w : World} {d : Nat} {xs ys : Array Value} : (Op.eqFields d xs ys []).run P w = .ok true w := by
  unfold Op.eqFields; rfl
theorem eqWin (xs ys : List Int) (hx : xs.length = 3) (hy : ys.length = 3) (w : World) : (Op.equalIn 9999 67 (.agg (xs.map (Value.int .i64)).toArray) (.agg (ys.map (Value.int .i64)).toArray)).run Tryd.prog w = .ok (xs.getD 0 0 == ys.getD 0 0 && (xs.getD 1 0 == ys.getD 1 0 && (xs.getD 2 0 == ys.getD 2 0 && true))) w := by
  obtain ⟨a, b, c, rfl⟩ : ∃ a b c, xs = [a, b, c] := by
    match xs, hx with
    | [a, b, c], _ => exact ⟨a, b, c, rfl⟩
  obtain ⟨a', b', c', rfl⟩ : ∃ a b c, ys = [a, b, c] := by
    match ys, hy with
    | [a, b, c], _ => exact ⟨a, b, c, rfl⟩
  have hS : Tryd.prog.underlying 67 = some (.struct (Tryd.prog.fieldsOf 67)) := by kernel_rfl
  have hp : Tryd.prog.stoodInHeld 67 = false := by kernel_rfl
  have t3 : TyOk Tryd.prog 3 _ := Ctx.ty (C := CG []) (t := 3) rfl
  have u3 := Tryd.underlying3
  rw [run_equalIn_agg w 9998 67 _ _ hS hp]
  simp only [Program.fieldsOf, Tryd.underlying67]
  refine eqFields_cons (by decide) (run_part_one t3 w _ _ rfl rfl) (run_part_one t3 w _ _ rfl rfl) (run_equalIn_int w 9997 _ _ _ _ _ u3) ?_
  refine eqFields_cons (by decide) (run_part_one t3 w _ _ rfl rfl) (run_part_one t3 w _ _ rfl rfl) (run_equalIn_int w 9997 _ _ _ _ _ u3) ?_
  refine eqFields_cons (by decide) (run_part_one t3 w _ _ rfl rfl) (run_part_one t3 w _ _ rfl rfl) (run_equalIn_int w 9997 _ _ _ _ _ u3) ?_
  exact eqFields_nil
theorem eqRo (a b : Ro) : EqTy Tryd.prog 69 (roD a) (roD b) (roEq a b) := by
  refine ⟨by kernel_rfl, fun w X va vb ha hb => ?_⟩
  rw [rd_ro ha, rd_ro hb]
  have hS : Tryd.prog.underlying 69 = some (.struct (Tryd.prog.fieldsOf 69)) := by kernel_rfl
  have hp : Tryd.prog.stoodInHeld 69 = false := by kernel_rfl
  have t3 : TyOk Tryd.prog 3 _ := Ctx.ty (C := CG []) (t := 3) rfl
  have tw : TyOk Tryd.prog 67 _ := Ctx.ty (C := CG []) (t := 67) rfl
  have u3 := Tryd.underlying3
  have hw := eqWin [a.tt, a.er, a.ag] [b.tt, b.er, b.ag] rfl rfl w
  have e : roEq a b = (a.st == b.st && (a.sg == b.sg && (a.he == b.he && ((a.tt == b.tt && (a.er == b.er && (a.ag == b.ag && true))) && true)))) := by simp [roEq]
  rw [e]
  show (Op.equalIn (9999 + 1) 69 _ _).run Tryd.prog w = _
  rw [run_equalIn_agg w 9999 69 _ _ hS hp]
  simp only [Program.fieldsOf, Tryd.underlying69]
  refine eqFields_cons (by decide) (run_part_one t3 w _ _ rfl rfl) (run_part_one t3 w _ _ rfl rfl) (run_equalIn_int w 9998 _ _ _ _ _ u3) ?_
  refine eqFields_cons (by decide) (run_part_one t3 w _ _ rfl rfl) (run_part_one t3 w _ _ rfl rfl) (run_equalIn_int w 9998 _ _ _ _ _ u3) ?_
  refine eqFields_cons (by decide) (run_part_one t3 w _ _ rfl rfl) (run_part_one t3 w _ _ rfl rfl) (run_equalIn_int w 9998 _ _ _ _ _ u3) ?_
  refine eqFields_cons (by decide) (run_part_agg tw w _ _ rfl) (run_part_agg tw w _ _ rfl) ?_ eqFields_nil
  exact hw
end Go.Proofs.YtiokdhklhnhfhaaDoor

namespace Go.Proofs.YtiokdhklhnhfhaaDoor
variable {G : List Go.Eng.Gl}
open Go.Eng
attribute [local irreducible] Hold
set_option maxRecDepth 100000

def stepF (r : Ro) (p : Pl) (x : Int × Int) : Ro :=
  if x.1 = 1 then tickF r p else if x.1 = 2 ∨ x.1 = 3 then obsF r (decide (x.1 = 3)) else if x.1 = 4 then (if (cmdF r x.2).2 = 0 then (cmdF r x.2).1 else r) else r
def inpD (x : Int × Int) : D := .agg [.i .i64 x.1, .i .i64 x.2]

theorem step43 (r : Ro) (p : Pl) (x : Int × Int) (h1 : r.he ≤ 1000000000 ∧ 0 ≤ r.he) (h2 : 0 ≤ r.sg ∧ r.sg ≤ 1000000000) (h3 : r.ag ≤ 1000000000) (hl : p.ws.length ≤ 9223372036854775806) : Does (CG G) 43 [roD r, plD p, inpD x] [roD (stepF r p x)] := by
  have ht := tick85 (G := G) r p h1 h2 h3 hl
  have ho := fun b => observe86 (G := G) r b
  have hc := cmd42 (G := G) r x.2
  unfold stepF
  generalize tickF r p = q1 at *
  generalize cmdF r x.2 = q3 at *
  have hob : ∀ b, ∃ q, q = obsF r b ∧ Does (CG G) 86 [roD r, .b b] [roD q] := fun b => ⟨_, rfl, ho b⟩
  obtain ⟨y1, z1, hy1⟩ := hob true
  obtain ⟨y0, z0, hy0⟩ := hob false
  unfold roD plD inpD at *
  refine Does.mk (n := 37) Tryd.func43 rfl rfl rfl (Nat.le_of_ble_eq_true rfl) ?_
  repeat refine seq_on ?_
  refine cmp_dec (fun c1 => ?_) (fun c1 => ?_)
  · repeat refine seq_on ?_
    refine call_by ht ?_
    ((try refine And.intro (draw_ok (by kernel_rfl)) ?_); repeat refine seq_on ?_)
    refine fin_eq ?_
    rw [if_pos c1]
  repeat refine seq_on ?_
  refine cmp_dec (fun c2 => ?_) (fun c2 => ?_)
  · repeat refine seq_on ?_
    refine cmp_no (show ¬ x.1 = 3 by have : x.1 = 2 := c2; omega) ?_
    refine call_by hy0 ?_
    ((try refine And.intro (draw_ok (by kernel_rfl)) ?_); repeat refine seq_on ?_)
    refine fin_eq ?_
    rw [if_neg c1, if_pos (.inl c2), decide_eq_false (show ¬ x.1 = 3 by have : x.1 = 2 := c2; omega), ← z0]
  repeat refine seq_on ?_
  refine cmp_dec (fun c3 => ?_) (fun c3 => ?_)
  · repeat refine seq_on ?_
    refine cmp_yes c3 ?_
    refine call_by hy1 ?_
    ((try refine And.intro (draw_ok (by kernel_rfl)) ?_); repeat refine seq_on ?_)
    refine fin_eq ?_
    rw [if_neg c1, if_pos (.inr c3), decide_eq_true (show x.1 = 3 from c3), ← z1]
  repeat refine seq_on ?_
  have c23 : ¬ (x.1 = 2 ∨ x.1 = 3) := fun h => h.elim c2 c3
  refine cmp_dec (fun c4 => ?_) (fun c4 => ?_)
  · repeat refine seq_on ?_
    refine call_by hc ?_
    repeat refine seq_on ?_
    refine cmp_dec (fun c5 => ?_) (fun c5 => ?_)
    · ((try refine And.intro (draw_ok (by kernel_rfl)) ?_); repeat refine seq_on ?_)
      refine fin_eq ?_
      rw [if_neg c1, if_neg c23, if_pos c4, if_pos c5]
    · ((try refine And.intro (draw_ok (by kernel_rfl)) ?_); repeat refine seq_on ?_)
      refine fin_eq ?_
      rw [if_neg c1, if_neg c23, if_pos c4, if_neg c5]
  · ((try refine And.intro (draw_ok (by kernel_rfl)) ?_); repeat refine seq_on ?_)
    refine fin_eq ?_
    rw [if_neg c1, if_neg c23, if_neg c4]
theorem step74 (r : Ro) (p : Pl) (x : Int × Int) (h1 : r.he ≤ 1000000000 ∧ 0 ≤ r.he) (h2 : 0 ≤ r.sg ∧ r.sg < p.ws.length) (h3 : r.ag ≤ 1000000000) (hl : p.ws.length ≤ 1000000000) : Does (CG G) 74 [roD r, plD p, inpD x] [roD (stepF r p x)] := by
  have ht := tick121 (G := G) r p h1 h2 h3 hl
  have ho := fun b => observe122 (G := G) r b
  have hc := cmd123 (G := G) r x.2
  unfold stepF
  generalize tickF r p = q1 at *
  generalize cmdF r x.2 = q3 at *
  have hob : ∀ b, ∃ q, q = obsF r b ∧ Does (CG G) 122 [roD r, .b b] [roD q] := fun b => ⟨_, rfl, ho b⟩
  obtain ⟨y1, z1, hy1⟩ := hob true
  obtain ⟨y0, z0, hy0⟩ := hob false
  unfold roD plD inpD at *
  refine Does.mk (n := 37) Tryd.func74 rfl rfl rfl (Nat.le_of_ble_eq_true rfl) ?_
  repeat refine seq_on ?_
  refine cmp_dec (fun c1 => ?_) (fun c1 => ?_)
  · repeat refine seq_on ?_
    refine call_by ht ?_
    ((try refine And.intro (draw_ok (by kernel_rfl)) ?_); repeat refine seq_on ?_)
    refine fin_eq ?_
    rw [if_pos c1]
  repeat refine seq_on ?_
  refine cmp_dec (fun c2 => ?_) (fun c2 => ?_)
  · repeat refine seq_on ?_
    refine cmp_no (show ¬ x.1 = 3 by have : x.1 = 2 := c2; omega) ?_
    refine call_by hy0 ?_
    ((try refine And.intro (draw_ok (by kernel_rfl)) ?_); repeat refine seq_on ?_)
    refine fin_eq ?_
    rw [if_neg c1, if_pos (.inl c2), decide_eq_false (show ¬ x.1 = 3 by have : x.1 = 2 := c2; omega), ← z0]
  repeat refine seq_on ?_
  refine cmp_dec (fun c3 => ?_) (fun c3 => ?_)
  · repeat refine seq_on ?_
    refine cmp_yes c3 ?_
    refine call_by hy1 ?_
    ((try refine And.intro (draw_ok (by kernel_rfl)) ?_); repeat refine seq_on ?_)
    refine fin_eq ?_
    rw [if_neg c1, if_pos (.inr c3), decide_eq_true (show x.1 = 3 from c3), ← z1]
  repeat refine seq_on ?_
  have c23 : ¬ (x.1 = 2 ∨ x.1 = 3) := fun h => h.elim c2 c3
  refine cmp_dec (fun c4 => ?_) (fun c4 => ?_)
  · repeat refine seq_on ?_
    refine call_by hc ?_
    repeat refine seq_on ?_
    refine cmp_dec (fun c5 => ?_) (fun c5 => ?_)
    · ((try refine And.intro (draw_ok (by kernel_rfl)) ?_); repeat refine seq_on ?_)
      refine fin_eq ?_
      rw [if_neg c1, if_neg c23, if_pos c4, if_pos c5]
    · ((try refine And.intro (draw_ok (by kernel_rfl)) ?_); repeat refine seq_on ?_)
      refine fin_eq ?_
      rw [if_neg c1, if_neg c23, if_pos c4, if_neg c5]
  · ((try refine And.intro (draw_ok (by kernel_rfl)) ?_); repeat refine seq_on ?_)
    refine fin_eq ?_
    rw [if_neg c1, if_neg c23, if_neg c4]

theorem ro0_in {n : Int} {len : Nat} (hn : 0 ≤ n) (hl : 1 ≤ len) {s : Int} (hs : 0 ≤ s ∧ s ≤ 4) : RoIn n len (ro0 s) := by
  refine ⟨hs, ?_, ?_, ?_, ?_, ?_⟩ <;> simp only [ro0] <;> omega
theorem cmdF_in {n : Int} {len : Nat} {r : Ro} (hl : 1 ≤ len) (hn : 0 ≤ n) (h : RoIn n len r) (c : Int) : RoIn n len (cmdF r c).1 := by
  obtain ⟨g1, g2, g3, g4, g5, g6⟩ := h
  have z : ∀ s, 0 ≤ s ∧ s ≤ 4 → RoIn n len (ro0 s) := fun s hs => ro0_in hn hl hs
  unfold cmdF
  repeat' split
  all_goals first | exact z _ (by omega) | exact ⟨by simp only; omega, g2, g3, g4, g5, g6⟩
theorem step_in {n : Int} {p : Pl} {r : Ro} (hl : 1 ≤ p.ws.length) (hn : 0 ≤ n) (h : RoIn n p.ws.length r) (x : Int × Int) : RoIn (n + 1) p.ws.length (stepF r p x) := by
  have up : ∀ {q : Ro}, RoIn n p.ws.length q → RoIn (n + 1) p.ws.length q := fun h => ⟨h.st, h.sg, ⟨h.he.1, by have := h.he.2; omega⟩, h.tt, h.er, ⟨h.ag.1, by have := h.ag.2; omega⟩⟩
  have z : ∀ s, 0 ≤ s ∧ s ≤ 4 → RoIn (n + 1) p.ws.length (ro0 s) := fun s hs => ro0_in (by omega) hl hs
  unfold stepF
  split
  · unfold tickF
    split
    · exact up h
    · split
      · rename_i hw
        obtain ⟨g1, g2, g3, g4, g5, g6⟩ := h
        refine ⟨g1, g2, ⟨g3.1, by simp only; omega⟩, ?_, ?_, ?_⟩ <;> unfold wTick <;> split <;> simp only <;> omega
      · split
        · exact z 3 (by decide)
        · obtain ⟨g1, g2, g3, g4, g5, g6⟩ := h
          split
          · exact ⟨g1, g2, ⟨by simp only; omega, by simp only; omega⟩, by simp only; omega, by simp only; omega, by simp only; omega⟩
          · split
            · unfold healF
              split
              · exact ⟨g1, g2, ⟨by simp only; omega, by simp only; omega⟩, by simp only; omega, by simp only; omega, by simp only; omega⟩
              · split
                · rename_i hs
                  simp only at hs
                  exact ⟨g1, ⟨by simp only; omega, by simp only; omega⟩, ⟨by simp only; omega, by simp only; omega⟩, by simp only; omega, by simp only; omega, by simp only; omega⟩
                · exact z 2 (by decide)
            · exact ⟨g1, g2, ⟨by simp only; omega, by simp only; omega⟩, by simp only; omega, by simp only; omega, by simp only; omega⟩
  · split
    · unfold obsF
      split
      · obtain ⟨g1, g2, g3, g4, g5, g6⟩ := h
        exact ⟨g1, g2, ⟨g3.1, by simp only; omega⟩, incF_le _ _, incF_le _ _, ⟨g6.1, by simp only; omega⟩⟩
      · exact up h
    · split
      · split
        · exact up (cmdF_in hl hn h _)
        · exact up h
      · exact up h

def runF (p : Pl) (l : List (Int × Int)) : Ro := l.foldl (fun r x => stepF r p x) (ro0 0)
theorem run_snoc (p : Pl) (l : List (Int × Int)) (x : Int × Int) : runF p (l ++ [x]) = stepF (runF p l) p x := by simp [runF]
theorem run_in (p : Pl) (hl : 1 ≤ p.ws.length) (l : List (Int × Int)) : RoIn l.length p.ws.length (runF p l) := by
  suffices h : ∀ (k : Nat), k ≤ l.length → RoIn k p.ws.length (runF p (l.take k)) by have := h l.length (Nat.le_refl _); rwa [List.take_of_length_le (Nat.le_refl _)] at this
  intro k
  induction k with
  | zero => intro _; exact ro0_in (by simp) hl (by decide)
  | succ k ih =>
    intro hk
    rw [List.take_succ_eq_append_getElem (by omega), run_snoc]
    have := step_in hl (by omega) (ih (by omega)) l[k]
    exact this
def inps (l : List (Int × Int)) : D := .sl 2 (l.map inpD)
theorem run34 (p : Pl) (l : List (Int × Int)) (h1 : 1 ≤ p.ws.length) (h2 : p.ws.length ≤ 1000000000) (hl : l.length ≤ 1000000) : Does (CG G) 34 [plD p, inps l] [roD (runF p l)] := by
  have hlen : (l.map inpD).length = l.length := by simp
  have hst : ∀ (i : Nat) (hi : i < l.length), Does (CG G) 74 [roD (runF p (l.take i)), plD p, inpD l[i]] [roD (runF p (l.take (i + 1)))] := by
    intro i hi
    rw [List.take_succ_eq_append_getElem hi, run_snoc]
    have hr := run_in p h1 (l.take i)
    have ht : (l.take i).length = i := by simp; omega
    rw [ht] at hr
    obtain ⟨g1, g2, g3, g4, g5, g6⟩ := hr
    exact step74 _ p l[i] ⟨by omega, g3.1⟩ g2 (by omega) h2
  have h0 : runF p (l.take 0) = ro0 0 := rfl
  have hend : runF p (l.take l.length) = runF p l := by rw [List.take_of_length_le (Nat.le_refl _)]
  rw [← hend]
  generalize hf : (fun i => runF p (l.take i)) = f
  have hf' : ∀ i, runF p (l.take i) = f i := fun i => by rw [← hf]
  simp only [hf'] at hst h0 ⊢
  unfold plD inps at *
  refine Does.mk (n := 21) Tryd.func34 rfl rfl rfl (Nat.le_of_ble_eq_true rfl) ?_
  repeat refine seq_on ?_
  apply loop_inv (fun i : Nat => i ≤ l.length) (fun i => ⟨[(1, .d (.sl 2 (l.map inpD))), (2, .op 16 0 0), (4, .op 17 0 0), (5, .op 18 0 0), (6, .d (.i .i64 (i : Int)))], [(16, some (.box [.d (.sl 1 (p.ws.map (.i .i64))), .d (.i .i64 p.ms), .d (.i .i64 p.nu), .d (.i .i64 p.de), .d (.i .i64 p.ho), .d (.i .i64 p.wi)])), (17, some (.box [.d (.i .i64 0), .d (.i .i64 0), .d (.i .i64 0), .d (.i .i64 0), .d (.i .i64 0), .d (.i .i64 0)])), (18, some (.box [.d (.i .i64 (f i).st), .d (.i .i64 (f i).sg), .d (.i .i64 (f i).he), .d (.i .i64 (f i).tt), .d (.i .i64 (f i).er), .d (.i .i64 (f i).ag)]))], 2⟩) (fun i => l.length - i) 0 (Nat.zero_le _) [(16, _), (17, _), (18, _)]
  · rw [h0]
    ((repeat' constructor) <;> (first | refine hold ?_ | rfl) <;> first | with_reducible rfl | (congr 1 <;> omega) | (congr 1 <;> simp; done) | (simp; done) | exact encB_snoc _ _ | skip)
  · intro i hi
    repeat refine seq_on ?_
    refine cmp_dec (fun h => ?_) (fun h => ?_)
    · have hi' : i < l.length := by omega
      repeat refine seq_on ?_
      refine Eng.get_at i rfl (x := inpD l[i]) (by simp [hi']) ?_
      have hs := hst i hi'
      unfold roD at hs
      refine call_by hs ?_
      ((try refine And.intro (draw_ok (by kernel_rfl)) ?_); repeat refine seq_on ?_)
      refine ar ⟨by omega, by omega⟩ ?_
      apply again (i + 1) [(16, _), (17, _), (18, _)] (by omega) (by omega)
      ((repeat' constructor) <;> (first | refine hold ?_ | rfl) <;> first | with_reducible rfl | (congr 1 <;> omega) | (congr 1 <;> simp; done) | (simp; done) | exact encB_snoc _ _ | skip)
    · obtain rfl : i = l.length := by omega
      repeat refine seq_on ?_
      rfl
end Go.Proofs.YtiokdhklhnhfhaaDoor

namespace Go.Proofs.YtiokdhklhnhfhaaDoor
variable {G : List Go.Eng.Gl}
open Go.Eng
attribute [local irreducible] Hold
set_option maxRecDepth 100000

/-! Plans -/
def planW (l : List Int) : Nat → Nat → Int → List Int → List Int × Nat
  | 0, i, _, acc => (acc, i)
  | k + 1, i, w, acc => planW l k (nxt l i) (w + 1 + (nxV l i 3300 : Int)) (acc ++ [w + 1 + (nxV l i 3300 : Int)])
theorem planW_len (l : List Int) : ∀ (k i : Nat) (w : Int) (acc : List Int), (planW l k i w acc).1.length = acc.length + k
  | 0, _, _, _ => rfl
  | k + 1, i, w, acc => by rw [planW, planW_len l k]; simp; omega
theorem planW_pos (l : List Int) : ∀ (k i : Nat) (w : Int) (acc : List Int), i ≤ l.length → i ≤ (planW l k i w acc).2 ∧ (planW l k i w acc).2 ≤ l.length
  | 0, i, _, _, h => ⟨Nat.le_refl i, h⟩
  | k + 1, i, w, acc, h => by
    have h1 := nxt_le' h
    have := planW_pos l k (nxt l i) (w + 1 + (nxV l i 3300 : Int)) (acc ++ [w + 1 + (nxV l i 3300 : Int)]) h1.2
    rw [planW]; omega
def pos5 (l : List Int) (i : Nat) : Nat := nxt l (nxt l (nxt l (nxt l (nxt l i))))
def planAt (l : List Int) (i : Nat) : Pl × Nat :=
  (⟨(planW l (1 + nxV l (pos5 l i) 3) (nxt l (pos5 l i)) 0 []).1, 1 + (nxV l i 3 : Int), (nxV l (nxt l i) 3 : Int), 1 + (nxV l (nxt l (nxt l i)) 4 : Int), 1 + (nxV l (nxt l (nxt l (nxt l i))) 3 : Int), 1 + (nxV l (nxt l (nxt l (nxt l (nxt l i)))) 4 : Int)⟩,
   (planW l (1 + nxV l (pos5 l i) 3) (nxt l (pos5 l i)) 0 []).2)
theorem planAt_len (l : List Int) (i : Nat) : 1 ≤ (planAt l i).1.ws.length ∧ (planAt l i).1.ws.length ≤ 3 := by
  have := nxV_lt l (pos5 l i) 3 (by decide)
  simp only [planAt, planW_len, List.length_nil]
  omega
theorem plan33 (l : List Int) (i : Nat) (hi : i ≤ l.length) (hl : l.length ≤ 9223372036854775807) : DoesH (CG G) 33 [.op 0 0 0] (srcB l i) [.d (plD (planAt l i).1)] (srcB l (planAt l i).2) := by
  have n1 := nxt_le' hi
  have n2 := nxt_le' n1.2
  have n3 := nxt_le' n2.2
  have n4 := nxt_le' n3.2
  have n5 := nxt_le' n4.2
  have n6 := nxt_le' n5.2
  have c1 := nextV (G := G) l i 3 hi hl (by decide)
  have c2 := nextV (G := G) l (nxt l i) 3 n1.2 hl (by decide)
  have c3 := nextV (G := G) l (nxt l (nxt l i)) 4 n2.2 hl (by decide)
  have c4 := nextV (G := G) l (nxt l (nxt l (nxt l i))) 3 n3.2 hl (by decide)
  have c5 := nextV (G := G) l (nxt l (nxt l (nxt l (nxt l i)))) 4 n4.2 hl (by decide)
  have c6 := nextV (G := G) l (nxt l (nxt l (nxt l (nxt l (nxt l i))))) 3 n5.2 hl (by decide)
  have v1 := nxV_lt l i 3 (by decide)
  have v2 := nxV_lt l (nxt l i) 3 (by decide)
  have v3 := nxV_lt l (nxt l (nxt l i)) 4 (by decide)
  have v4 := nxV_lt l (nxt l (nxt l (nxt l i))) 3 (by decide)
  have v5 := nxV_lt l (nxt l (nxt l (nxt l (nxt l i)))) 4 (by decide)
  have v6 := nxV_lt l (nxt l (nxt l (nxt l (nxt l (nxt l i))))) 3 (by decide)
  unfold planAt pos5
  generalize hfin : planW l (1 + nxV l (nxt l (nxt l (nxt l (nxt l (nxt l i))))) 3) (nxt l (nxt l (nxt l (nxt l (nxt l (nxt l i)))))) 0 [] = fin
  generalize nxt l (nxt l (nxt l (nxt l (nxt l (nxt l i))))) = p6 at *
  generalize nxV l (nxt l (nxt l (nxt l (nxt l (nxt l i))))) 3 = k at *
  generalize nxV l i 3 = e1 at *
  generalize nxV l (nxt l i) 3 = e2 at *
  generalize nxV l (nxt l (nxt l i)) 4 = e3 at *
  generalize nxV l (nxt l (nxt l (nxt l i))) 3 = e4 at *
  generalize nxV l (nxt l (nxt l (nxt l (nxt l i)))) 4 = e5 at *
  unfold srcB plD at *
  refine DoesH.mk (n := 40) Tryd.func33 rfl rfl rfl (Nat.le_of_ble_eq_true rfl) rfl ?_
  repeat refine seq_on ?_
  refine callh [(0, 0)] c1 ?_ ?_
  · ((repeat' constructor) <;> (first | refine hold ?_ | rfl) <;> first | with_reducible rfl | (congr 1 <;> omega) | (congr 1 <;> simp; done) | (simp; done) | exact encB_snoc _ _ | skip)
  refine ar ⟨by omega, by omega⟩ ?_
  refine callh [(0, 0)] c2 ?_ ?_
  · ((repeat' constructor) <;> (first | refine hold ?_ | rfl) <;> first | with_reducible rfl | (congr 1 <;> omega) | (congr 1 <;> simp; done) | (simp; done) | exact encB_snoc _ _ | skip)
  refine callh [(0, 0)] c3 ?_ ?_
  · ((repeat' constructor) <;> (first | refine hold ?_ | rfl) <;> first | with_reducible rfl | (congr 1 <;> omega) | (congr 1 <;> simp; done) | (simp; done) | exact encB_snoc _ _ | skip)
  refine ar ⟨by omega, by omega⟩ ?_
  refine callh [(0, 0)] c4 ?_ ?_
  · ((repeat' constructor) <;> (first | refine hold ?_ | rfl) <;> first | with_reducible rfl | (congr 1 <;> omega) | (congr 1 <;> simp; done) | (simp; done) | exact encB_snoc _ _ | skip)
  refine ar ⟨by omega, by omega⟩ ?_
  refine callh [(0, 0)] c5 ?_ ?_
  · ((repeat' constructor) <;> (first | refine hold ?_ | rfl) <;> first | with_reducible rfl | (congr 1 <;> omega) | (congr 1 <;> simp; done) | (simp; done) | exact encB_snoc _ _ | skip)
  refine ar ⟨by omega, by omega⟩ ?_
  ((try refine And.intro (draw_ok (by kernel_rfl)) ?_); repeat refine seq_on ?_)
  refine callh [(0, 0)] c6 ?_ ?_
  · ((repeat' constructor) <;> (first | refine hold ?_ | rfl) <;> first | with_reducible rfl | (congr 1 <;> omega) | (congr 1 <;> simp; done) | (simp; done) | exact encB_snoc _ _ | skip)
  refine ar ⟨by omega, by omega⟩ ?_
  ((try refine And.intro (draw_ok (by kernel_rfl)) ?_); repeat refine seq_on ?_)
  apply loop_inv (fun x : Nat × Nat × Int × List Int => x.2.1 ≤ l.length ∧ (0 ≤ x.2.2.1 ∧ x.2.2.1 + 10000 * (x.1 : Int) ≤ 1000000) ∧ x.2.2.2.length + x.1 ≤ 100 ∧ planW l x.1 x.2.1 x.2.2.1 x.2.2.2 = fin) (fun x => ⟨[(0, .op 0 0 0), (2, .op 16 0 0), (3, .op 17 0 0), (4, .d (.i .i64 x.2.2.1)), (5, .d (.i .i64 (x.1 : Int)))], [(0, some (.box [.d (ints l), .d (.i .i64 (x.2.1 : Int))])), (16, some (.box [.nl 1, .d (.i .i64 0), .d (.i .i64 0), .d (.i .i64 0), .d (.i .i64 0), .d (.i .i64 0)])), (17, some (.box [.os 18, .d (.i .i64 (1 + (e1 : Int))), .d (.i .i64 (e2 : Int)), .d (.i .i64 (1 + (e3 : Int))), .d (.i .i64 (1 + (e4 : Int))), .d (.i .i64 (1 + (e5 : Int)))])), (18, some (.buf 1 (x.2.2.2.map (.i .i64))))], 2⟩) (fun x => x.1) (1 + k, p6, 0, []) ⟨n6.2, by simp only; omega, by simp only [List.length_nil]; omega, hfin⟩ [(16, _), (17, _), (18, 14)]
  · ((repeat' constructor) <;> (first | refine hold ?_ | rfl) <;> first | with_reducible rfl | (congr 1 <;> omega) | (congr 1 <;> simp; done) | (simp; done) | exact encB_snoc _ _ | skip)
  · rintro ⟨j, q, w, acc⟩ ⟨h1, h2, h3, h4⟩
    simp only at h1 h2 h3 h4
    repeat refine seq_on ?_
    refine cmp_dec (fun h => ?_) (fun h => ?_)
    · obtain ⟨j, rfl⟩ : ∃ m, j = m + 1 := ⟨j - 1, by omega⟩
      have cn := nextV (G := G) l q 3300 h1 hl (by decide)
      have vn := nxV_lt l q 3300 (by decide)
      rw [planW] at h4
      unfold srcB at cn
      generalize nxV l q 3300 = g at *
      repeat refine seq_on ?_
      refine ar (e := w + 1) ⟨by omega, by omega⟩ ?_
      refine callh [(0, 0)] cn ?_ ?_
      · ((repeat' constructor) <;> (first | refine hold ?_ | rfl) <;> first | with_reducible rfl | (congr 1 <;> omega) | (congr 1 <;> simp; done) | (simp; done) | exact encB_snoc _ _ | skip)
      refine ar (e := w + 1 + (g : Int)) ⟨by omega, by omega⟩ ?_
      ((try refine And.intro (draw_ok (by kernel_rfl)) ?_); repeat refine seq_on ?_)
      refine app_ok (by simp; omega) ?_
      ((try refine And.intro (draw_ok (by kernel_rfl)) ?_); repeat refine seq_on ?_)
      refine ar ⟨by omega, by omega⟩ ?_
      apply again (j, nxt l q, w + 1 + (g : Int), acc ++ [w + 1 + (g : Int)]) [(16, _), (17, _), (18, _)] ⟨(nxt_le' h1).2, by simp only; omega, by simp; omega, h4⟩ (by simp only; omega)
      ((repeat' constructor) <;> (first | refine hold ?_ | rfl) <;> first | with_reducible rfl | (congr 1 <;> omega) | (congr 1 <;> simp; done) | (simp; done) | exact encB_snoc _ _ | skip)
    · obtain rfl : j = 0 := by omega
      rw [planW] at h4
      subst h4
      repeat refine seq_on ?_
      apply end_ok []
      ((repeat' constructor) <;> (first | refine hold ?_ | rfl) <;> first | with_reducible rfl | (congr 1 <;> omega) | (congr 1 <;> simp; done) | (simp; done) | exact encB_snoc _ _ | skip)

/-! Inputs -/
def kindsL : List Int := [1, 1, 2, 2, 3, 4]
def cmdsL : List Int := [1, 1, 1, 2, 3, 4, 5, 6]
def kindAt (l : List Int) (i : Nat) : Int := kindsL.getD (nxV l i 6) 0
def cmdAt (l : List Int) (i : Nat) : Int := cmdsL.getD (nxV l i 8) 0
def inpAt (l : List Int) (i : Nat) : (Int × Int) × Nat := if kindAt l i = 4 then ((kindAt l i, cmdAt l (nxt l i)), nxt l (nxt l i)) else ((kindAt l i, 0), nxt l i)
theorem inpAt_pos (l : List Int) (i : Nat) (h : i ≤ l.length) : i ≤ (inpAt l i).2 ∧ (inpAt l i).2 ≤ l.length ∧ (i < l.length → i < (inpAt l i).2) := by
  have h1 := nxt_le' h
  have h2 := nxt_le' h1.2
  have h3 : i < l.length → i < nxt l i := by intro h; unfold nxt; rw [if_pos h]; omega
  unfold inpAt
  split
  · exact ⟨by simp only; omega, by simp only; omega, fun h => by have := h3 h; simp only; omega⟩
  · exact ⟨by simp only; omega, by simp only; omega, fun h => by have := h3 h; simp only; omega⟩
theorem inpAt_cmd (l : List Int) (i : Nat) : 0 ≤ (inpAt l i).1.2 ∧ (inpAt l i).1.2 ≤ 6 := by
  have key : ∀ j : Nat, 0 ≤ cmdsL.getD j 0 ∧ cmdsL.getD j 0 ≤ 6 := by
    intro j
    by_cases hj : j < 8
    · have : ∀ j : Fin 8, 0 ≤ cmdsL.getD j.val 0 ∧ cmdsL.getD j.val 0 ≤ 6 := by decide
      exact this ⟨j, hj⟩
    · have hc : cmdsL.length = 8 := rfl
      rw [List.getD_eq_getElem?_getD, List.getElem?_eq_none (show cmdsL.length ≤ j by omega)]
      decide
  unfold inpAt
  split
  · exact key _
  · exact ⟨Int.le_refl 0, by simp only; omega⟩
theorem input75 (l : List Int) (i : Nat) (hi : i ≤ l.length) (hl : l.length ≤ 9223372036854775807) : DoesH (CG G) 75 [.op 0 0 0] (srcB l i) [.d (inpD (inpAt l i).1)] (srcB l (inpAt l i).2) := by
  have n1 := nxt_le' hi
  have c1 := nextV (G := G) l i 6 hi hl (by decide)
  have c2 := nextV (G := G) l (nxt l i) 8 n1.2 hl (by decide)
  have v1 := nxV_lt l i 6 (by decide)
  have v2 := nxV_lt l (nxt l i) 8 (by decide)
  have k1 : kindsL.length = 6 := rfl
  have k2 : cmdsL.length = 8 := rfl
  have g1 : (kindsL.map (D.i .i64))[nxV l i 6]? = some (.i .i64 (kindAt l i)) := by simp [kindAt, show nxV l i 6 < kindsL.length by omega]
  have g2 : (cmdsL.map (D.i .i64))[nxV l (nxt l i) 8]? = some (.i .i64 (cmdAt l (nxt l i))) := by simp [cmdAt, show nxV l (nxt l i) 8 < cmdsL.length by omega]
  have e : inpAt l i = if kindAt l i = 4 then ((kindAt l i, cmdAt l (nxt l i)), nxt l (nxt l i)) else ((kindAt l i, 0), nxt l i) := rfl
  rw [e]
  generalize kindAt l i = kk at *
  generalize cmdAt l (nxt l i) = cc at *
  unfold srcB inpD at *
  by_cases hk : kk = 4
  · rw [if_pos hk]
    refine DoesH.mk (n := 20) Tryd.func75 rfl rfl rfl (Nat.le_of_ble_eq_true rfl) rfl ?_
    repeat refine seq_on ?_
    refine callh [(0, 0)] c1 ?_ ?_
    · ((repeat' constructor) <;> (first | refine hold ?_ | rfl) <;> first | with_reducible rfl | (congr 1 <;> omega) | (congr 1 <;> simp; done) | (simp; done) | exact encB_snoc _ _ | skip)
    refine idx _ rfl (by show nxV l i 6 < 6; omega) ?_
    refine at_is g1 ?_
    ((try refine And.intro (draw_ok (by kernel_rfl)) ?_); repeat refine seq_on ?_)
    refine cmp_yes hk ?_
    repeat refine seq_on ?_
    refine callh [(0, 0)] c2 ?_ ?_
    · ((repeat' constructor) <;> (first | refine hold ?_ | rfl) <;> first | with_reducible rfl | (congr 1 <;> omega) | (congr 1 <;> simp; done) | (simp; done) | exact encB_snoc _ _ | skip)
    refine idx _ rfl (by show nxV l (nxt l i) 8 < 8; omega) ?_
    refine at_is g2 ?_
    ((try refine And.intro (draw_ok (by kernel_rfl)) ?_); repeat refine seq_on ?_)
    apply end_ok []
    ((repeat' constructor) <;> (first | refine hold ?_ | rfl) <;> first | with_reducible rfl | (congr 1 <;> omega) | (congr 1 <;> simp; done) | (simp; done) | exact encB_snoc _ _ | skip)
  · rw [if_neg hk]
    refine DoesH.mk (n := 20) Tryd.func75 rfl rfl rfl (Nat.le_of_ble_eq_true rfl) rfl ?_
    repeat refine seq_on ?_
    refine callh [(0, 0)] c1 ?_ ?_
    · ((repeat' constructor) <;> (first | refine hold ?_ | rfl) <;> first | with_reducible rfl | (congr 1 <;> omega) | (congr 1 <;> simp; done) | (simp; done) | exact encB_snoc _ _ | skip)
    refine idx _ rfl (by show nxV l i 6 < 6; omega) ?_
    refine at_is g1 ?_
    ((try refine And.intro (draw_ok (by kernel_rfl)) ?_); repeat refine seq_on ?_)
    refine cmp_no hk ?_
    ((try refine And.intro (draw_ok (by kernel_rfl)) ?_); repeat refine seq_on ?_)
    apply end_ok []
    ((repeat' constructor) <;> (first | refine hold ?_ | rfl) <;> first | with_reducible rfl | (congr 1 <;> omega) | (congr 1 <;> simp; done) | (simp; done) | exact encB_snoc _ _ | skip)

def inW (l : List Int) : Nat → Nat → List (Int × Int) → List (Int × Int)
  | 0, _, acc => acc
  | k + 1, i, acc => if i < l.length then inW l k (inpAt l i).2 (acc ++ [(inpAt l i).1]) else acc
def inputsF (m : List Int) : List (Int × Int) := inW (m.take 160) 161 0 []
theorem inW_len (l : List Int) : ∀ (k i : Nat) (acc : List (Int × Int)), (inW l k i acc).length ≤ acc.length + k
  | 0, _, _ => Nat.le_refl _
  | k + 1, i, acc => by
    rw [inW]
    split
    · have := inW_len l k (inpAt l i).2 (acc ++ [(inpAt l i).1])
      simp at this; omega
    · omega
theorem inputsF_len (m : List Int) : (inputsF m).length ≤ 161 := by
  have := inW_len (m.take 160) 161 0 []
  simpa [inputsF] using this
theorem inW_cmd (l : List Int) : ∀ (k i : Nat) (acc : List (Int × Int)), (∀ x, x ∈ acc → 0 ≤ x.2 ∧ x.2 ≤ 6) → ∀ x, x ∈ inW l k i acc → 0 ≤ x.2 ∧ x.2 ≤ 6
  | 0, _, _, h => h
  | k + 1, i, acc, h => by
    rw [inW]
    split
    · refine inW_cmd l k _ _ fun x hx => ?_
      rcases List.mem_append.1 hx with hx | hx
      · exact h x hx
      · simp at hx; subst hx; exact inpAt_cmd l i
    · exact h
theorem inputsF_cmd (m : List Int) : ∀ x, x ∈ inputsF m → 0 ≤ x.2 ∧ x.2 ≤ 6 := inW_cmd _ _ _ _ (by simp)

theorem inputs35 (m : List Int) : Does (CG G) 35 [ints m] [inps (inputsF m)] := by
  have h0 := cut51 (G := G) m 160
  unfold inputsF
  have hl : (m.take 160).length ≤ 160 := by simp; omega
  generalize m.take 160 = l at *
  generalize hfin : inW l 161 0 [] = fin
  unfold inps
  refine Does.mk (n := 17) Tryd.func35 rfl rfl rfl (Nat.le_of_ble_eq_true rfl) ?_
  repeat refine seq_on ?_
  refine call_by h0 ?_
  ((try refine And.intro (draw_ok (by kernel_rfl)) ?_); repeat refine seq_on ?_)
  apply loop_inv (fun x : Nat × List (Int × Int) => x.1 ≤ l.length ∧ x.2.length ≤ x.1 ∧ ∃ k, l.length < k + x.1 ∧ inW l k x.1 x.2 = fin) (fun x => ⟨[(3, .op 16 0 0), (4, .os 17)], [(16, some (.box [.d (ints l), .d (.i .i64 (x.1 : Int))])), (17, some (.buf 2 (x.2.map inpD)))], 2⟩) (fun x => l.length - x.1) (0, []) ⟨Nat.zero_le _, by simp, 161, by simp only; omega, hfin⟩ [(16, _), (17, _)]
  · ((repeat' constructor) <;> (first | refine hold ?_ | rfl) <;> first | with_reducible rfl | (congr 1 <;> omega) | (congr 1 <;> simp; done) | (simp; done) | exact encB_snoc _ _ | skip)
  · rintro ⟨i, acc⟩ ⟨h1, h2, k, h3, h4⟩
    simp only at h1 h2 h3 h4
    have hlf := left66 (G := G) l i
    unfold srcB at hlf
    by_cases hi : i < l.length
    · rw [decide_eq_true (by omega)] at hlf
      repeat refine seq_on ?_
      refine callh [(0, 16)] hlf ?_ ?_
      · ((repeat' constructor) <;> (first | refine hold ?_ | rfl) <;> first | with_reducible rfl | (congr 1 <;> omega) | (congr 1 <;> simp; done) | (simp; done) | exact encB_snoc _ _ | skip)
      have ci := input75 (G := G) l i h1 (by omega)
      have hp := inpAt_pos l i h1
      have hp3 := hp.2.2 hi
      obtain ⟨k, rfl⟩ : ∃ q, k = q + 1 := ⟨k - 1, by omega⟩
      rw [inW, if_pos hi] at h4
      unfold srcB at ci
      repeat refine seq_on ?_
      refine callh [(0, 16)] ci ?_ ?_
      · ((repeat' constructor) <;> (first | refine hold ?_ | rfl) <;> first | with_reducible rfl | (congr 1 <;> omega) | (congr 1 <;> simp; done) | (simp; done) | exact encB_snoc _ _ | skip)
      refine app_ok (by simp; omega) ?_
      ((try refine And.intro (draw_ok (by kernel_rfl)) ?_); repeat refine seq_on ?_)
      apply again ((inpAt l i).2, acc ++ [(inpAt l i).1]) [(16, _), (17, _)] ⟨hp.2.1, by simp; omega, k, by simp only; omega, h4⟩ (by simp only; omega)
      ((repeat' constructor) <;> (first | refine hold ?_ | rfl) <;> first | with_reducible rfl | (congr 1 <;> omega) | (congr 1 <;> simp; done) | (simp; done) | exact encB_snoc _ _ | skip)
      all_goals simp [inpD]
    · rw [decide_eq_false (by omega)] at hlf
      have hf : acc = fin := by
        rw [← h4]
        cases k with
        | zero => rfl
        | succ k => rw [inW, if_neg hi]
      subst hf
      repeat refine seq_on ?_
      refine callh [(0, 16)] hlf ?_ ?_
      · ((repeat' constructor) <;> (first | refine hold ?_ | rfl) <;> first | with_reducible rfl | (congr 1 <;> omega) | (congr 1 <;> simp; done) | (simp; done) | exact encB_snoc _ _ | skip)
      repeat refine seq_on ?_
      rfl
end Go.Proofs.YtiokdhklhnhfhaaDoor

