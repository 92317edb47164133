import Derived.Test.YtiokdhklhnhfhaaMpb
namespace Go.Proofs.Ytiokdhklhnhfhaa
variable {G : List Go.Eng.Gl}
open Go.Eng
attribute [local irreducible] Hold
set_option maxRecDepth 100000

def Ids (ba se : Int) (l : List Int) (n : Nat) : Prop := ∀ i, i < n → ba < l.getD i 0 ∧ l.getD i 0 ≤ ba + se ∧ (0 < i → l.getD (i - 1) 0 < l.getD i 0)
theorem ids28 (p : Po) (l : List Int) (hl : l.length ≤ 1000000000) (h1 : 0 ≤ p.ba ∧ p.ba ≤ 1000000000) (h3 : 0 ≤ p.se ∧ p.se ≤ 900000) (b : Bool) (hb : b = true ↔ Ids p.ba p.se l l.length) : Does (CG G) 28 [poD p, ints l] [.b b] := by
  obtain ⟨ba, qu, se, id, bu⟩ := p
  simp only at *
  have hlen : (l.map (D.i .i64)).length = l.length := by simp
  have fail : ∀ i, i < l.length → ¬ (ba < l.getD i 0 ∧ l.getD i 0 ≤ ba + se ∧ (0 < i → l.getD (i - 1) 0 < l.getD i 0)) → b = false := fun i hi hn => by
    cases b with
    | false => rfl
    | true => exact absurd (hb.1 rfl i hi) hn
  unfold poD ints
  simp only
  refine Does.mk (n := 41) Try.func28 rfl rfl rfl (Nat.le_of_ble_eq_true rfl) ?_
  repeat refine seq_on ?_
  apply loop_inv (fun i : Nat => i ≤ l.length ∧ Ids ba se l i) (fun i => ⟨[(1, .d (.sl 1 (l.map (.i .i64)))), (2, .op 16 0 0), (7, .d (.sl 1 (l.map (.i .i64)))), (8, .d (.i .i64 (l.length : Int))), (9, .d (.i .i64 (i : Int)))], [(16, some (.box [.d (.i .i64 ba), .d (.i .i64 qu), .d (.i .i64 se), .d (.sl 1 (id.map (.i .i64))), .d (.sl 1 (bu.map (.i .i64)))] (some 28)))], 2⟩) (fun i => l.length - i) 0 ⟨Nat.zero_le _, fun i hi => by omega⟩ [(16, _)]
  · ((repeat' constructor) <;> (first | refine hold ?_ | rfl) <;> first | with_reducible rfl | (congr 1 <;> omega) | (congr 1 <;> simp; done) | (simp; done) | exact encB_snoc _ _ | skip)
  · rintro i ⟨hi, hn⟩
    repeat refine seq_on ?_
    refine cmp_dec (fun g1 => ?_) (fun g1 => ?_)
    · have hi' : i < l.length := by omega
      repeat refine seq_on ?_
      refine Eng.get_at i rfl (getInts hi') ?_
      repeat refine seq_on ?_
      refine cmp_dec (fun g2 => ?_) (fun g2 => ?_)
      · ((try refine And.intro (draw_ok (by kernel_rfl)) ?_); repeat refine seq_on ?_)
        refine fin_eq ?_
        rw [fail i hi' (by omega)]
      · refine ar ⟨by omega, by omega⟩ ?_
        refine cmp_dec (fun g3 => ?_) (fun g3 => ?_)
        · ((try refine And.intro (draw_ok (by kernel_rfl)) ?_); repeat refine seq_on ?_)
          refine fin_eq ?_
          rw [fail i hi' (by omega)]
        · refine cmp_dec (fun g4 => ?_) (fun g4 => ?_)
          · refine ar ⟨by omega, by omega⟩ ?_
            refine Eng.get_at (i - 1) (by omega) (getInts (by omega)) ?_
            refine cmp_dec (fun g5 => ?_) (fun g5 => ?_)
            · ((try refine And.intro (draw_ok (by kernel_rfl)) ?_); repeat refine seq_on ?_)
              refine fin_eq ?_
              rw [fail i hi' (by omega)]
            · ((try refine And.intro (draw_ok (by kernel_rfl)) ?_); repeat refine seq_on ?_)
              refine ar ⟨by omega, by omega⟩ ?_
              apply again (i + 1) [(16, _)] ⟨by omega, fun j hj => by
                by_cases hji : j < i
                · exact hn j hji
                · obtain rfl : j = i := by omega
                  exact ⟨by omega, by omega, fun _ => by omega⟩⟩ (by omega)
              ((repeat' constructor) <;> (first | refine hold ?_ | rfl) <;> first | with_reducible rfl | (congr 1 <;> omega) | (congr 1 <;> simp; done) | (simp; done) | exact encB_snoc _ _ | skip)
          · ((try refine And.intro (draw_ok (by kernel_rfl)) ?_); repeat refine seq_on ?_)
            refine ar ⟨by omega, by omega⟩ ?_
            apply again (i + 1) [(16, _)] ⟨by omega, fun j hj => by
              by_cases hji : j < i
              · exact hn j hji
              · obtain rfl : j = i := by omega
                exact ⟨by omega, by omega, fun _ => by omega⟩⟩ (by omega)
            ((repeat' constructor) <;> (first | refine hold ?_ | rfl) <;> first | with_reducible rfl | (congr 1 <;> omega) | (congr 1 <;> simp; done) | (simp; done) | exact encB_snoc _ _ | skip)
    · obtain rfl : i = l.length := by omega
      ((try refine And.intro (draw_ok (by kernel_rfl)) ?_); repeat refine seq_on ?_)
      refine fin_eq ?_
      rw [hb.2 hn]
theorem within29 (p : Po) (l : List Int) (hl : l.length ≤ 1000000000) (h1 : 0 ≤ p.ba ∧ p.ba ≤ 1000000000) (h3 : 0 ≤ p.se ∧ p.se ≤ 900000) (b : Bool) (hb : b = true ↔ Ids p.ba p.se l l.length) : Does (CG G) 29 [poD p, ints l] [.b b] := by
  obtain ⟨ba, qu, se, id, bu⟩ := p
  simp only at *
  have hlen : (l.map (D.i .i64)).length = l.length := by simp
  have fail : ∀ i, i < l.length → ¬ (ba < l.getD i 0 ∧ l.getD i 0 ≤ ba + se ∧ (0 < i → l.getD (i - 1) 0 < l.getD i 0)) → b = false := fun i hi hn => by
    cases b with
    | false => rfl
    | true => exact absurd (hb.1 rfl i hi) hn
  unfold poD ints
  simp only
  refine Does.mk (n := 47) Try.func29 rfl rfl rfl (Nat.le_of_ble_eq_true rfl) ?_
  repeat refine seq_on ?_
  apply loop_inv (fun i : Nat => i ≤ l.length ∧ Ids ba se l i) (fun i => ⟨[(1, .d (.sl 1 (l.map (.i .i64)))), (2, .op 16 0 0), (5, .d (.i .i64 (i : Int)))], [(16, some (.box [.d (.i .i64 ba), .d (.i .i64 qu), .d (.i .i64 se), .d (.sl 1 (id.map (.i .i64))), .d (.sl 1 (bu.map (.i .i64)))] (some 28)))], 2⟩) (fun i => l.length - i) 0 ⟨Nat.zero_le _, fun i hi => by omega⟩ [(16, _)]
  · ((repeat' constructor) <;> (first | refine hold ?_ | rfl) <;> first | with_reducible rfl | (congr 1 <;> omega) | (congr 1 <;> simp; done) | (simp; done) | exact encB_snoc _ _ | skip)
  · rintro i ⟨hi, hn⟩
    repeat refine seq_on ?_
    refine cmp_dec (fun g1 => ?_) (fun g1 => ?_)
    · have hi' : i < l.length := by omega
      ((try refine And.intro (draw_ok (by kernel_rfl)) ?_); repeat refine seq_on ?_)
      refine Eng.get_at i rfl (getInts hi') ?_
      refine cmp_dec (fun g2 => ?_) (fun g2 => ?_)
      · ((try refine And.intro (draw_ok (by kernel_rfl)) ?_); repeat refine seq_on ?_)
        refine fin_eq ?_
        rw [fail i hi' (by omega)]
      · refine Eng.get_at i rfl (getInts hi') ?_
        refine ar ⟨by omega, by omega⟩ ?_
        refine cmp_dec (fun g3 => ?_) (fun g3 => ?_)
        · ((try refine And.intro (draw_ok (by kernel_rfl)) ?_); repeat refine seq_on ?_)
          refine fin_eq ?_
          rw [fail i hi' (by omega)]
        · refine cmp_dec (fun g4 => ?_) (fun g4 => ?_)
          · refine Eng.get_at i rfl (getInts hi') ?_
            refine ar ⟨by omega, by omega⟩ ?_
            refine Eng.get_at (i - 1) (by omega) (getInts (by omega)) ?_
            refine cmp_dec (fun g5 => ?_) (fun g5 => ?_)
            · ((try refine And.intro (draw_ok (by kernel_rfl)) ?_); repeat refine seq_on ?_)
              refine fin_eq ?_
              rw [fail i hi' (by omega)]
            · ((try refine And.intro (draw_ok (by kernel_rfl)) ?_); repeat refine seq_on ?_)
              refine ar ⟨by omega, by omega⟩ ?_
              apply again (i + 1) [(16, _)] ⟨by omega, fun j hj => by
                by_cases hji : j < i
                · exact hn j hji
                · obtain rfl : j = i := by omega
                  exact ⟨by omega, by omega, fun _ => by omega⟩⟩ (by omega)
              ((repeat' constructor) <;> (first | refine hold ?_ | rfl) <;> first | with_reducible rfl | (congr 1 <;> omega) | (congr 1 <;> simp; done) | (simp; done) | exact encB_snoc _ _ | skip)
          · ((try refine And.intro (draw_ok (by kernel_rfl)) ?_); repeat refine seq_on ?_)
            refine ar ⟨by omega, by omega⟩ ?_
            apply again (i + 1) [(16, _)] ⟨by omega, fun j hj => by
              by_cases hji : j < i
              · exact hn j hji
              · obtain rfl : j = i := by omega
                exact ⟨by omega, by omega, fun _ => by omega⟩⟩ (by omega)
            ((repeat' constructor) <;> (first | refine hold ?_ | rfl) <;> first | with_reducible rfl | (congr 1 <;> omega) | (congr 1 <;> simp; done) | (simp; done) | exact encB_snoc _ _ | skip)
    · obtain rfl : i = l.length := by omega
      ((try refine And.intro (draw_ok (by kernel_rfl)) ?_); repeat refine seq_on ?_)
      refine fin_eq ?_
      rw [hb.2 hn]
end Go.Proofs.Ytiokdhklhnhfhaa

namespace Go.Proofs.Ytiokdhklhnhfhaa
variable {G : List Go.Eng.Gl}
open Go.Eng
attribute [local irreducible] Hold
set_option maxRecDepth 100000

theorem insL_len (l acc : List Int) : (l.foldl insI acc).length ≤ acc.length + l.length ∧ ((l.foldl insI acc).length = acc.length + l.length → acc.Nodup → (acc ++ l).Nodup) := by
  induction l generalizing acc with
  | nil => simp
  | cons x r ih =>
    rw [List.foldl_cons]
    by_cases hx : x ∈ acc
    · rw [show insI acc x = acc from if_pos hx]
      have := (ih acc).1
      refine ⟨by simp; omega, fun h => ?_⟩
      simp at h; omega
    · rw [show insI acc x = acc ++ [x] from if_neg hx]
      have h1 := (ih (acc ++ [x])).1
      have h2 := (ih (acc ++ [x])).2
      refine ⟨by simp at h1 ⊢; omega, fun h hn => ?_⟩
      have := h2 (by simp at h ⊢; omega) (by
        rw [List.nodup_append]
        refine ⟨hn, by simp, fun a ha b hb he => ?_⟩
        simp at hb; subst hb; subst he; exact hx ha)
      simpa using this
theorem insL_iff (l : List Int) : (insL l).length = l.length ↔ l.Nodup := by
  constructor
  · intro h
    have := (insL_len l []).2 (by simpa [insL] using h) List.nodup_nil
    simpa using this
  · intro h; rw [insL_nodup h]
theorem ids_lt {ba se : Int} {l : List Int} (h : Ids ba se l l.length) : ∀ j, j < l.length → ∀ i, i < j → l.getD i 0 < l.getD j 0 := by
  intro j
  induction j with
  | zero => intro _ i hi; omega
  | succ j ih =>
    intro hj i hi
    have h1 := (h (j + 1) hj).2.2 (by omega)
    rw [show j + 1 - 1 = j by omega] at h1
    by_cases hij : i = j
    · rw [hij]; exact h1
    · have := ih (by omega) i (by omega)
      omega
theorem ids_pw {ba se : Int} {l : List Int} (h : Ids ba se l l.length) : l.Pairwise (· < ·) := by
  rw [List.pairwise_iff_getElem]
  intro i j hi hj hij
  have := ids_lt h j hj i hij
  simpa [hi, hj] using this
theorem ids_mem {ba se : Int} {l : List Int} (h : Ids ba se l l.length) : ∀ x, x ∈ l → ba < x ∧ x ≤ ba + se := by
  intro x hx
  obtain ⟨i, hi, rfl⟩ := List.getElem_of_mem hx
  have := h i hi
  simp [hi] at this
  exact ⟨this.1, this.2.1⟩
theorem ids_of {ba se : Int} {l : List Int} (h : l.Pairwise (· < ·)) (hm : ∀ x, x ∈ l → ba < x ∧ x ≤ ba + se) : Ids ba se l l.length := by
  intro i hi
  have h1 := hm l[i] (by simp)
  refine ⟨by simp [hi]; exact h1.1, by simp [hi]; exact h1.2, fun h0 => ?_⟩
  have := List.pairwise_iff_getElem.1 h (i - 1) i (by omega) hi (by omega)
  have hi1 : i - 1 < l.length := by omega
  simpa [hi, hi1] using this

structure ValO (p : Po) : Prop where
  ba : 0 ≤ p.ba ∧ p.ba ≤ 1000000000
  qu : 0 ≤ p.qu ∧ p.qu ≤ 1000
  se : 0 ≤ p.se ∧ p.se ≤ 900000
  le : (p.id.length : Int) + (p.bu.length : Int) ≤ p.qu
  ii : Ids p.ba p.se p.id p.id.length
  ib : Ids p.ba p.se p.bu p.bu.length
  ap : ∀ x, x ∈ p.id → x ∉ p.bu
theorem PoOk.val {p : Po} (h : PoOk p) : ValO p :=
  ⟨h.ba, h.qu, h.se, by have := h.le; omega, ids_of h.si h.ri, ids_of h.sb h.rb, h.ap⟩
theorem apart_iff {p : Po} (h1 : Ids p.ba p.se p.id p.id.length) (h2 : Ids p.ba p.se p.bu p.bu.length) : (insL (p.id ++ p.bu)).length = p.id.length + p.bu.length ↔ ∀ x, x ∈ p.id → x ∉ p.bu := by
  have := insL_iff (p.id ++ p.bu)
  rw [List.length_append] at this
  rw [this, List.nodup_append]
  constructor
  · rintro ⟨_, _, h⟩ x hx hx2
    exact h x hx x hx2 rfl
  · intro h
    exact ⟨lt_nodup (ids_pw h1), lt_nodup (ids_pw h2), fun a ha b hb he => h a ha (he ▸ hb)⟩

theorem valid16 (p : Po) (hl : p.id.length + p.bu.length ≤ 10000000) (b : Bool) (hb : b = true ↔ ValO p) : Does (CG G) 16 [poD p] [.b b] := by
  have fail : ¬ ValO p → b = false := fun hn => by
    cases b with
    | false => rfl
    | true => exact absurd (hb.1 rfl) hn
  have c1 := cloneI (G := G) p.id (by omega)
  have c2 := set20 (G := G) (p.id ++ p.bu) (by simp; omega)
  have c3 := open17 (G := G) p (by omega)
  have l1 : (p.id.map (D.i .i64)).length = p.id.length := by simp
  have l2 : (p.bu.map (D.i .i64)).length = p.bu.length := by simp
  have hap := @apart_iff p
  have i1 := ids28 (G := G) p p.id (by omega)
  have i2 := ids28 (G := G) p p.bu (by omega)
  unfold poD at *
  unfold ints at *
  refine Does.mk (n := 63) Try.func16 rfl rfl rfl (Nat.le_of_ble_eq_true rfl) ?_
  repeat refine seq_on ?_
  refine cmp_dec (fun g1 => ?_) (fun g1 => ?_)
  · ((try refine And.intro (draw_ok (by kernel_rfl)) ?_); repeat refine seq_on ?_)
    refine fin_eq ?_
    rw [fail (fun h => by have := h.ba; omega)]
  refine cmp_dec (fun g2 => ?_) (fun g2 => ?_)
  · ((try refine And.intro (draw_ok (by kernel_rfl)) ?_); repeat refine seq_on ?_)
    refine fin_eq ?_
    rw [fail (fun h => by have := h.ba; omega)]
  refine cmp_dec (fun g3 => ?_) (fun g3 => ?_)
  · ((try refine And.intro (draw_ok (by kernel_rfl)) ?_); repeat refine seq_on ?_)
    refine fin_eq ?_
    rw [fail (fun h => by have := h.qu; omega)]
  refine cmp_dec (fun g4 => ?_) (fun g4 => ?_)
  · ((try refine And.intro (draw_ok (by kernel_rfl)) ?_); repeat refine seq_on ?_)
    refine fin_eq ?_
    rw [fail (fun h => by have := h.qu; omega)]
  refine cmp_dec (fun g5 => ?_) (fun g5 => ?_)
  · ((try refine And.intro (draw_ok (by kernel_rfl)) ?_); repeat refine seq_on ?_)
    refine fin_eq ?_
    rw [fail (fun h => by have := h.se; omega)]
  refine cmp_dec (fun g6 => ?_) (fun g6 => ?_)
  · ((try refine And.intro (draw_ok (by kernel_rfl)) ?_); repeat refine seq_on ?_)
    refine fin_eq ?_
    rw [fail (fun h => by have := h.se; omega)]
  ((try refine And.intro (draw_ok (by kernel_rfl)) ?_); repeat refine seq_on ?_)
  refine call_alt (callh [] c1 ?_ ?_)
  · ((repeat' constructor) <;> (first | refine hold ?_ | rfl) <;> first | with_reducible rfl | (congr 1 <;> omega) | (congr 1 <;> simp; done) | (simp; done) | exact encB_snoc _ _ | skip)
  refine app_ok (by simp; omega) ?_
  rw [← List.map_append]
  refine call_alt (callh [] c2 ?_ ?_)
  · ((repeat' constructor) <;> (first | refine hold ?_ | rfl) <;> first | with_reducible rfl | (congr 1 <;> omega) | (congr 1 <;> simp; done) | (simp; done) | exact encB_snoc _ _ | skip)
  ((try refine And.intro (draw_ok (by kernel_rfl)) ?_); repeat refine seq_on ?_)
  by_cases hI : Ids p.ba p.se p.id p.id.length
  · refine call_by (i1 ⟨by omega, by omega⟩ ⟨by omega, by omega⟩ true (by simp [hI])) ?_
    by_cases hB : Ids p.ba p.se p.bu p.bu.length
    · refine call_by (i2 ⟨by omega, by omega⟩ ⟨by omega, by omega⟩ true (by simp [hB])) ?_
      have hap := hap hI hB
      refine call_by c3 ?_
      refine cmp_dec (fun g7 => ?_) (fun g7 => ?_)
      · refine call_by c3 ?_
        refine cmp_dec (fun g8 => ?_) (fun g8 => ?_)
        · ((try refine And.intro (draw_ok (by kernel_rfl)) ?_); repeat refine seq_on ?_)
          refine fin_eq ?_
          rw [hb.2 ⟨⟨by omega, by omega⟩, ⟨by omega, by omega⟩, ⟨by omega, by omega⟩, g8, hI, hB, hap.1 (by omega)⟩]
        · ((try refine And.intro (draw_ok (by kernel_rfl)) ?_); repeat refine seq_on ?_)
          refine fin_eq ?_
          rw [fail (fun h => g8 h.le)]
      · ((try refine And.intro (draw_ok (by kernel_rfl)) ?_); repeat refine seq_on ?_)
        refine fin_eq ?_
        rw [fail (fun h => g7 (by have := hap.2 h.ap; omega))]
    · refine call_by (i2 ⟨by omega, by omega⟩ ⟨by omega, by omega⟩ false (by simp [hB])) ?_
      ((try refine And.intro (draw_ok (by kernel_rfl)) ?_); repeat refine seq_on ?_)
      refine fin_eq ?_
      rw [fail (fun h => hB h.ib)]
  · refine call_by (i1 ⟨by omega, by omega⟩ ⟨by omega, by omega⟩ false (by simp [hI])) ?_
    ((try refine And.intro (draw_ok (by kernel_rfl)) ?_); repeat refine seq_on ?_)
    refine fin_eq ?_
    rw [fail (fun h => hI h.ii)]
end Go.Proofs.Ytiokdhklhnhfhaa

namespace Go.Proofs.Ytiokdhklhnhfhaa
variable {G : List Go.Eng.Gl}
open Go.Eng
attribute [local irreducible] Hold
set_option maxRecDepth 100000

theorem valid18 (p : Po) (hl : p.id.length + p.bu.length ≤ 10000000) (b : Bool) (hb : b = true ↔ ValO p) : Does (CG G) 18 [poD p] [.b b] := by
  have fail : ¬ ValO p → b = false := fun hn => by
    cases b with
    | false => rfl
    | true => exact absurd (hb.1 rfl) hn
  have l1 : (p.id.map (D.i .i64)).length = p.id.length := by simp
  have l2 : (p.bu.map (D.i .i64)).length = p.bu.length := by simp
  have i1 := within29 (G := G) p p.id (by omega)
  have i2 := within29 (G := G) p p.bu (by omega)
  have i3 := fun n (h : p.bu.length ≤ 1000000) => place30 (G := G) p.bu n h
  unfold poD at *
  unfold ints at *
  refine Does.mk (n := 74) Try.func18 rfl rfl rfl (Nat.le_of_ble_eq_true rfl) ?_
  repeat refine seq_on ?_
  refine cmp_dec (fun g1 => ?_) (fun g1 => ?_)
  · ((try refine And.intro (draw_ok (by kernel_rfl)) ?_); repeat refine seq_on ?_)
    refine fin_eq ?_
    rw [fail (fun h => by have := h.ba; omega)]
  refine cmp_dec (fun g2 => ?_) (fun g2 => ?_)
  · ((try refine And.intro (draw_ok (by kernel_rfl)) ?_); repeat refine seq_on ?_)
    refine fin_eq ?_
    rw [fail (fun h => by have := h.ba; omega)]
  refine cmp_dec (fun g3 => ?_) (fun g3 => ?_)
  · ((try refine And.intro (draw_ok (by kernel_rfl)) ?_); repeat refine seq_on ?_)
    refine fin_eq ?_
    rw [fail (fun h => by have := h.qu; omega)]
  refine cmp_dec (fun g4 => ?_) (fun g4 => ?_)
  · ((try refine And.intro (draw_ok (by kernel_rfl)) ?_); repeat refine seq_on ?_)
    refine fin_eq ?_
    rw [fail (fun h => by have := h.qu; omega)]
  refine cmp_dec (fun g5 => ?_) (fun g5 => ?_)
  · ((try refine And.intro (draw_ok (by kernel_rfl)) ?_); repeat refine seq_on ?_)
    refine fin_eq ?_
    rw [fail (fun h => by have := h.se; omega)]
  refine cmp_dec (fun g6 => ?_) (fun g6 => ?_)
  · ((try refine And.intro (draw_ok (by kernel_rfl)) ?_); repeat refine seq_on ?_)
    refine fin_eq ?_
    rw [fail (fun h => by have := h.se; omega)]
  refine ar ⟨by omega, by omega⟩ ?_
  refine cmp_dec (fun g7 => ?_) (fun g7 => ?_)
  · ((try refine And.intro (draw_ok (by kernel_rfl)) ?_); repeat refine seq_on ?_)
    refine fin_eq ?_
    rw [fail (fun h => by have := h.le; omega)]
  have hle : p.bu.length ≤ 1000000 := by omega
  by_cases hI : Ids p.ba p.se p.id p.id.length
  · refine call_by (i1 ⟨by omega, by omega⟩ ⟨by omega, by omega⟩ true (by simp [hI])) ?_
    by_cases hB : Ids p.ba p.se p.bu p.bu.length
    · refine call_by (i2 ⟨by omega, by omega⟩ ⟨by omega, by omega⟩ true (by simp [hB])) ?_
      repeat refine seq_on ?_
      apply loop_inv (fun i : Nat => i ≤ p.id.length ∧ ∀ j, j < i → p.id.getD j 0 ∉ p.bu) (fun i => ⟨[(1, .op 16 0 0), (3, .d (.i .i64 (i : Int)))], [(16, some (.box [.d (.i .i64 p.ba), .d (.i .i64 p.qu), .d (.i .i64 p.se), .d (.sl 1 (p.id.map (.i .i64))), .d (.sl 1 (p.bu.map (.i .i64)))] (some 28)))], 2⟩) (fun i => p.id.length - i) 0 ⟨Nat.zero_le _, fun i hi => by omega⟩ [(16, _)]
      · ((repeat' constructor) <;> (first | refine hold ?_ | rfl) <;> first | with_reducible rfl | (congr 1 <;> omega) | (congr 1 <;> simp; done) | (simp; done) | exact encB_snoc _ _ | skip)
      · rintro i ⟨hi, hn⟩
        repeat refine seq_on ?_
        refine cmp_dec (fun k1 => ?_) (fun k1 => ?_)
        · have hi' : i < p.id.length := by omega
          ((try refine And.intro (draw_ok (by kernel_rfl)) ?_); repeat refine seq_on ?_)
          refine Eng.get_at i rfl (getInts hi') ?_
          rcases i3 (p.id.getD i 0) hle with ⟨hm, c⟩ | ⟨k, hk, hm, _, c⟩
          · refine call_by c ?_
            refine cmp_no (by omega) ?_
            ((try refine And.intro (draw_ok (by kernel_rfl)) ?_); repeat refine seq_on ?_)
            refine ar ⟨by omega, by omega⟩ ?_
            apply again (i + 1) [(16, _)] ⟨by omega, fun j hj => by
              by_cases hji : j < i
              · exact hn j hji
              · obtain rfl : j = i := by omega
                exact hm⟩ (by omega)
            ((repeat' constructor) <;> (first | refine hold ?_ | rfl) <;> first | with_reducible rfl | (congr 1 <;> omega) | (congr 1 <;> simp; done) | (simp; done) | exact encB_snoc _ _ | skip)
          · refine call_by c ?_
            refine cmp_yes (by omega) ?_
            ((try refine And.intro (draw_ok (by kernel_rfl)) ?_); repeat refine seq_on ?_)
            refine fin_eq ?_
            rw [fail (fun h => h.ap _ (by simp [hi']) hm)]
        · obtain rfl : i = p.id.length := by omega
          ((try refine And.intro (draw_ok (by kernel_rfl)) ?_); repeat refine seq_on ?_)
          refine fin_eq ?_
          rw [hb.2 ⟨⟨by omega, by omega⟩, ⟨by omega, by omega⟩, ⟨by omega, by omega⟩, by omega, hI, hB, fun x hx => by
            obtain ⟨j, hj, rfl⟩ := List.getElem_of_mem hx
            have := hn j hj
            simpa [hj] using this⟩]
    · refine call_by (i2 ⟨by omega, by omega⟩ ⟨by omega, by omega⟩ false (by simp [hB])) ?_
      ((try refine And.intro (draw_ok (by kernel_rfl)) ?_); repeat refine seq_on ?_)
      refine fin_eq ?_
      rw [fail (fun h => hB h.ib)]
  · refine call_by (i1 ⟨by omega, by omega⟩ ⟨by omega, by omega⟩ false (by simp [hI])) ?_
    ((try refine And.intro (draw_ok (by kernel_rfl)) ?_); repeat refine seq_on ?_)
    refine fin_eq ?_
    rw [fail (fun h => hI h.ii)]

/-! The law PoolUse -/
theorem poolUse4 (m : List Int) (b q : Int) (raw : Bool) : Does (CG G) 4 [ints m, .i .i64 b, .i .i64 q, .b raw] [.b true] := by
  have c1 := withinP (G := G) b 100 (by decide)
  have c2 := withinP (G := G) q 5 (by decide)
  have w1 := wiP_lt b 100 (by decide)
  have w2 := wiP_lt q 5 (by decide)
  have c3 := fun b q => play15 (G := G) m (m.take 90) rfl b q
  have ca := awake14 (G := G)
  have key : ∀ p : Po, PoOk p → Does (CG G) 16 [poD p] [.b true] ∧ Does (CG G) 17 [poD p] [.i .i64 ((p.id.length : Int) + (p.bu.length : Int))] ∧ (p.id.length : Int) + (p.bu.length : Int) ≤ p.qu ∧ p.qu ≤ 1000 := fun p h => by
    have := h.le
    have := h.qu
    exact ⟨valid16 p (by omega) true (by simp [h.val]), open17 p (by omega), by omega, by omega⟩
  cases raw with
  | true =>
    have hp := key _ (walkP_ok (m.take 90) (m.take 90).length 0 (newPo b q) (newPo_ok b q))
    have c3 := c3 b q
    generalize walkP (m.take 90) (m.take 90).length 0 (newPo b q) = p at hp c3
    obtain ⟨k1, k2, k3, k4⟩ := hp
    have l1 : (p.id.map (D.i .i64)).length = p.id.length := by simp
    have l2 : (p.bu.map (D.i .i64)).length = p.bu.length := by simp
    unfold poD at *
    refine Does.mk (n := 52) Try.func4 rfl rfl rfl (Nat.le_of_ble_eq_true rfl) ?_
    repeat refine seq_on ?_
    refine call_by c3 ?_
    ((try refine And.intro (draw_ok (by kernel_rfl)) ?_); repeat refine seq_on ?_)
    refine call_by k1 ?_
    refine call_by k2 ?_
    refine ar ⟨by omega, by omega⟩ ?_
    refine cmp_yes (by omega) ?_
    refine call_by k2 ?_
    refine cmp_yes (by omega) ?_
    refine call_by ca ?_
    ((try refine And.intro (draw_ok (by kernel_rfl)) ?_); repeat refine seq_on ?_)
    rfl
  | false =>
    have c3 := c3 (wiP b 100 * 1000) (wiP q 5)
    have hp := key _ (walkP_ok (m.take 90) (m.take 90).length 0 (newPo (wiP b 100 * 1000) (wiP q 5)) (newPo_ok _ _))
    generalize walkP (m.take 90) (m.take 90).length 0 (newPo (wiP b 100 * 1000) (wiP q 5)) = p at hp c3
    obtain ⟨k1, k2, k3, k4⟩ := hp
    have l1 : (p.id.map (D.i .i64)).length = p.id.length := by simp
    have l2 : (p.bu.map (D.i .i64)).length = p.bu.length := by simp
    unfold poD at *
    refine Does.mk (n := 52) Try.func4 rfl rfl rfl (Nat.le_of_ble_eq_true rfl) ?_
    repeat refine seq_on ?_
    refine call_by c1 ?_
    refine ar ⟨by omega, by omega⟩ ?_
    refine call_by c2 ?_
    repeat refine seq_on ?_
    refine call_by c3 ?_
    ((try refine And.intro (draw_ok (by kernel_rfl)) ?_); repeat refine seq_on ?_)
    refine call_by k1 ?_
    refine call_by k2 ?_
    refine ar ⟨by omega, by omega⟩ ?_
    refine cmp_yes (by omega) ?_
    refine call_by k2 ?_
    refine cmp_yes (by omega) ?_
    refine call_by ca ?_
    ((try refine And.intro (draw_ok (by kernel_rfl)) ?_); repeat refine seq_on ?_)
    rfl
end Go.Proofs.Ytiokdhklhnhfhaa

namespace Go.Proofs.Ytiokdhklhnhfhaa
variable {G : List Go.Eng.Gl}
open Go.Eng
attribute [local irreducible] Hold
set_option maxRecDepth 100000

theorem acq_full {p : Po} (h : PoOk p) (hs : p.se < 900000) (ha : acqO p = none) : p.qu ≤ (p.bu.length : Int) := by
  unfold acqO at ha
  split at ha
  · cases ha
  · split at ha
    · cases ha
    · omega
theorem acq_facts {p q : Po} {n : Int} {f : Bool} (h : PoOk p) (ha : acqO p = some (q, n, f)) : PoOk q ∧ q.ba = p.ba ∧ q.qu = p.qu ∧ (p.ba = 0 → q.se = max p.se n) ∧ q.bu = insS p.bu n ∧ n ∉ p.bu ∧ (f = true → n = p.ba + (p.se + 1)) ∧ (f = false → n ≤ p.ba + p.se) ∧ q.se ≤ p.se + 1 := by
  have h1 := acqO_ok h ha
  have hri := h.ri
  refine ⟨h1.1, ?_⟩
  have h2 := h1.2.2
  unfold acqO at ha
  split at ha
  · rename_i m r he
    cases ha
    have := hri n (by rw [he]; simp)
    exact ⟨rfl, rfl, fun _ => by simp only; omega, rfl, h2, (fun h => by simp at h), fun _ => this.2, by show p.se ≤ p.se + 1; omega⟩
  · split at ha
    · cases ha
      exact ⟨rfl, rfl, fun _ => by simp only; omega, rfl, h2, fun _ => rfl, (fun h => by simp at h), by show p.se + 1 ≤ p.se + 1; omega⟩
    · cases ha
theorem relO_busy {p : Po} {n : Int} (h : n ∈ p.bu) : (relO p n).2 = true ∧ (relO p n).1.ba = p.ba ∧ (relO p n).1.qu = p.qu ∧ (relO p n).1.se = p.se ∧ (relO p n).1.bu = p.bu.erase n := by
  unfold relO; rw [if_pos h]; exact ⟨rfl, rfl, rfl, rfl, rfl⟩
theorem drpO_busy {p : Po} {n : Int} (h : n ∈ p.bu) : (drpO p n).2 = true ∧ (drpO p n).1.ba = p.ba ∧ (drpO p n).1.qu = p.qu ∧ (drpO p n).1.se = p.se ∧ (drpO p n).1.bu = p.bu.erase n := by
  unfold drpO; rw [if_pos h]; exact ⟨rfl, rfl, rfl, rfl, rfl⟩
theorem perm_cut {us bu : List Int} {k : Nat} (hk : k < us.length) (h : us.Perm bu) : (us.take k ++ us.drop (k + 1)).Perm (bu.erase us[k]) := by
  have h1 : us.Perm (us[k] :: (us.take k ++ us.drop (k + 1))) := by
    have : us = us.take k ++ us[k] :: us.drop (k + 1) := by rw [← List.drop_eq_getElem_cons hk, List.take_append_drop]
    conv => lhs; rw [this]
    exact List.perm_middle
  have h2 : bu.Perm (us[k] :: bu.erase us[k]) := List.perm_cons_erase (h.mem_iff.1 (by simp))
  exact List.Perm.cons_inv (h1.symm.trans (h.trans h2))

structure OnceI (l : List Int) (y : Nat × Po × Int × List Int) : Prop where
  le : y.1 ≤ l.length
  ok : PoOk y.2.1
  ba : y.2.1.ba = 0
  se : y.2.1.se ≤ (y.1 : Int)
  ne : y.2.2.1 = y.2.1.se
  pe : y.2.2.2.Perm y.2.1.bu
  qu : y.2.1.qu ≤ 3

theorem poolOnce3 (m : List Int) (q0 : Int) : Does (CG G) 3 [ints m, .i .i64 q0] [.b true] := by
  obtain ⟨l, hm⟩ : ∃ l, l = m.take 90 := ⟨_, rfl⟩
  have h0 := cutP (G := G) m 90
  have hl : l.length ≤ 90 := by rw [hm]; simp; omega
  rw [← hm] at h0
  have cw := withinP (G := G) q0 4 (by decide)
  have w1 := wiP_lt q0 4 (by decide)
  generalize hg : wiP q0 4 = qq at cw w1
  have n1 := new7 (G := G) 0 (qq : Int)
  have hnew := newPo_ok 0 (qq : Int)
  have ca := awake14 (G := G)
  unfold poD at n1
  refine Does.mk (n := 123) Try.func3 rfl rfl rfl (Nat.le_of_ble_eq_true rfl) ?_
  repeat refine seq_on ?_
  refine call_by h0 ?_
  repeat refine seq_on ?_
  refine call_by cw ?_
  refine call_by n1 ?_
  repeat refine seq_on ?_
  apply loop_inv (OnceI l) (fun y => ⟨[(5, .op 16 0 0), (6, .op 17 0 0), (7, .d (.i .i64 y.2.2.1)), (8, .os 19)], [(16, some (.box [.d (ints l), .d (.i .i64 (y.1 : Int))])), (17, some (.box [.d (.i .i64 y.2.1.ba), .d (.i .i64 y.2.1.qu), .d (.i .i64 y.2.1.se), .d (.sl 1 (y.2.1.id.map (.i .i64))), .d (.sl 1 (y.2.1.bu.map (.i .i64)))] (some 28))), (19, some (.buf 1 (y.2.2.2.map (.i .i64))))], 2⟩) (fun y => l.length - y.1) (0, newPo 0 (qq : Int), 0, []) ⟨Nat.zero_le _, hnew, by simp only [newPo]; omega, by simp [newPo], by simp [newPo], by simp [newPo], by simp [newPo]; omega⟩ [(16, _), (17, _), (19, _)]
  · ((repeat' constructor) <;> (first | refine hold ?_ | rfl) <;> first | with_reducible rfl | (congr 1 <;> omega) | (congr 1 <;> simp; done) | (simp; done) | exact encB_snoc _ _ | skip)
  · rintro ⟨i, p, w, us⟩ hy
    obtain ⟨h1, hP, hB, hS, hN, hE, hQ⟩ := hy
    simp only at h1 hP hB hS hN hE hQ
    have hEl := hE.length_eq
    have hPl := hP.le
    have lu : (us.map (D.i .i64)).length = us.length := by simp
    have hul : us.length ≤ 3 := by omega
    have hlf := leftP (G := G) l i
    repeat refine seq_on ?_
    by_cases hi : i < l.length
    · rw [decide_eq_true (by omega)] at hlf
      refine callh [(0, 16)] hlf ?_ ?_
      · ((repeat' constructor) <;> (first | refine hold ?_ | rfl) <;> first | with_reducible rfl | (congr 1 <;> omega) | (congr 1 <;> simp; done) | (simp; done) | exact encB_snoc _ _ | skip)
      have hx := nextP (G := G) l i 2 h1 (by omega) (by decide)
      have hj1 : nxtP l i = i + 1 := if_pos hi
      have hj2 := (nxtP_le l i h1).2
      generalize hj : nxtP l i = j at hx hj1 hj2
      generalize hg : nxP l i 2 = v at hx
      repeat refine seq_on ?_
      refine callh [(0, 16)] hx ?_ ?_
      · simp only [srcP]
        ((repeat' constructor) <;> (first | refine hold ?_ | rfl) <;> first | with_reducible rfl | (congr 1 <;> omega) | (congr 1 <;> simp; done) | (simp; done) | exact encB_snoc _ _ | skip)
      repeat refine seq_on ?_
      refine cmp_dec (fun g0 => ?_) (fun g0 => ?_)
      · -- acquire
        ((try refine And.intro (draw_ok (by kernel_rfl)) ?_); repeat refine seq_on ?_)
        have c1 := acquire11 (G := G) p hP
        cases ha : acqO p with
        | none =>
          rw [ha, acqO_none] at c1
          unfold poD at c1
          have hfull := acq_full hP (by omega) ha
          refine call_by c1 ?_
          repeat refine seq_on ?_
          refine cmp_is true rfl ?_
          repeat refine seq_on ?_
          refine cmp_is false rfl ?_
          refine cmp_no (by simp only; omega) ?_
          repeat refine seq_on ?_
          apply again (j, p, w, us) [(16, _), (17, _), (19, _)] ⟨hj2, hP, hB, by simp only; omega, hN, hE, hQ⟩ (by simp only; omega)
          ((repeat' constructor) <;> (first | refine hold ?_ | rfl) <;> first | with_reducible rfl | (congr 1 <;> omega) | (congr 1 <;> simp; done) | (simp; done) | exact encB_snoc _ _ | skip)
        | some r =>
          obtain ⟨q, n, f⟩ := r
          rw [ha, acqO_some] at c1
          unfold poD at c1
          obtain ⟨hok, a1, a2, a3, a4, a5, a6, a7, a8⟩ := acq_facts hP ha
          have a3 := a3 hB
          have hse := hok.se
          have hba := hok.ba
          have hse2 := hP.se
          refine call_by c1 ?_
          repeat refine seq_on ?_
          refine cmp_is false rfl ?_
          repeat refine seq_on ?_
          apply loop_inv (fun i : Nat => i ≤ us.length) (fun i => ⟨[(5, .op 16 0 0), (6, .op 17 0 0), (7, .d (.i .i64 w)), (8, .os 19), (9, .op 18 0 0), (10, .d (.i .i64 n)), (11, .d (.b f)), (13, .d (.i .i64 (i : Int)))], [(16, some (.box [.d (ints l), .d (.i .i64 (j : Int))])), (17, some (.box [.d (.i .i64 p.ba), .d (.i .i64 p.qu), .d (.i .i64 p.se), .d (.sl 1 (p.id.map (.i .i64))), .d (.sl 1 (p.bu.map (.i .i64)))] (some 28))), (18, some (.box [.d (.i .i64 q.ba), .d (.i .i64 q.qu), .d (.i .i64 q.se), .d (.sl 1 (q.id.map (.i .i64))), .d (.sl 1 (q.bu.map (.i .i64)))] (some 28))), (19, some (.buf 1 (us.map (.i .i64))))],3⟩) (fun i => us.length - i) 0 (Nat.zero_le _) [(16, _), (17, _), (18, _), (19, _)]
          · ((repeat' constructor) <;> (first | refine hold ?_ | rfl) <;> first | with_reducible rfl | (congr 1 <;> omega) | (congr 1 <;> simp; done) | (simp; done) | exact encB_snoc _ _ | skip)
          · intro i0 hi0
            repeat refine seq_on ?_
            refine cmp_dec (fun k1 => ?_) (fun k1 => ?_)
            · have hi0' : i0 < us.length := by omega
              repeat refine seq_on ?_
              refine idx i0 rfl (by (try simp only); omega) ?_
              refine at_is (x := .i .i64 us[i0]) (by simp [hi0']) ?_
              refine cmp_no (fun he => a5 (hE.mem_iff.1 (by rw [← he]; simp))) ?_
              ((try refine And.intro (draw_ok (by kernel_rfl)) ?_); repeat refine seq_on ?_)
              refine ar ⟨by omega, by omega⟩ ?_
              apply again (i0 + 1) [(16, _), (17, _), (18, _), (19, _)] (by omega) (by omega)
              ((repeat' constructor) <;> (first | refine hold ?_ | rfl) <;> first | with_reducible rfl | (congr 1 <;> omega) | (congr 1 <;> simp; done) | (simp; done) | exact encB_snoc _ _ | skip)
            · have hag : OnceI l (j, q, max w n, us ++ [n]) := ⟨hj2, hok, by simp only; omega, by simp only; omega, by simp only; rw [hN]; exact a3.symm, by simp only; rw [a4]; exact (hE.append_right [n]).trans (insS_perm _ _).symm, by simp only; omega⟩
              cases f
              · repeat refine seq_on ?_
                refine cmp_no (by have := a7 rfl; omega) ?_
                refine cmp_is false rfl ?_
                repeat refine seq_on ?_
                ((try refine And.intro (draw_ok (by kernel_rfl)) ?_); repeat refine seq_on ?_)
                refine app_ok (by (try simp); omega) ?_
                ((try refine And.intro (draw_ok (by kernel_rfl)) ?_); repeat refine seq_on ?_)
                apply again (j, q, max w n, us ++ [n]) [(16, _), (17, _), (19, _)] hag (by simp only; omega)
                ((repeat' constructor) <;> (first | refine hold ?_ | rfl) <;> first | with_reducible rfl | (congr 1 <;> omega) | (congr 1 <;> simp; done) | (simp; done) | exact encB_snoc _ _ | skip)
              · repeat refine seq_on ?_
                refine cmp_yes (by have := a6 rfl; omega) ?_
                refine cmp_is false rfl ?_
                refine ar ⟨by omega, by omega⟩ ?_
                refine cmp_no (by have := a6 rfl; omega) ?_
                repeat refine seq_on ?_
                ((try refine And.intro (draw_ok (by kernel_rfl)) ?_); repeat refine seq_on ?_)
                refine app_ok (by (try simp); omega) ?_
                ((try refine And.intro (draw_ok (by kernel_rfl)) ?_); repeat refine seq_on ?_)
                apply again (j, q, max w n, us ++ [n]) [(16, _), (17, _), (19, _)] hag (by simp only; omega)
                ((repeat' constructor) <;> (first | refine hold ?_ | rfl) <;> first | with_reducible rfl | (congr 1 <;> omega) | (congr 1 <;> simp; done) | (simp; done) | exact encB_snoc _ _ | skip)
      · refine cmp_dec (fun g1 => ?_) (fun g1 => ?_)
        · -- acquire
          ((try refine And.intro (draw_ok (by kernel_rfl)) ?_); repeat refine seq_on ?_)
          have c1 := acquire11 (G := G) p hP
          cases ha : acqO p with
          | none =>
            rw [ha, acqO_none] at c1
            unfold poD at c1
            have hfull := acq_full hP (by omega) ha
            refine call_by c1 ?_
            repeat refine seq_on ?_
            refine cmp_is true rfl ?_
            repeat refine seq_on ?_
            refine cmp_is false rfl ?_
            refine cmp_no (by simp only; omega) ?_
            repeat refine seq_on ?_
            apply again (j, p, w, us) [(16, _), (17, _), (19, _)] ⟨hj2, hP, hB, by simp only; omega, hN, hE, hQ⟩ (by simp only; omega)
            ((repeat' constructor) <;> (first | refine hold ?_ | rfl) <;> first | with_reducible rfl | (congr 1 <;> omega) | (congr 1 <;> simp; done) | (simp; done) | exact encB_snoc _ _ | skip)
          | some r =>
            obtain ⟨q, n, f⟩ := r
            rw [ha, acqO_some] at c1
            unfold poD at c1
            obtain ⟨hok, a1, a2, a3, a4, a5, a6, a7, a8⟩ := acq_facts hP ha
            have a3 := a3 hB
            have hse := hok.se
            have hba := hok.ba
            have hse2 := hP.se
            refine call_by c1 ?_
            repeat refine seq_on ?_
            refine cmp_is false rfl ?_
            repeat refine seq_on ?_
            apply loop_inv (fun i : Nat => i ≤ us.length) (fun i => ⟨[(5, .op 16 0 0), (6, .op 17 0 0), (7, .d (.i .i64 w)), (8, .os 19), (9, .op 18 0 0), (10, .d (.i .i64 n)), (11, .d (.b f)), (13, .d (.i .i64 (i : Int)))], [(16, some (.box [.d (ints l), .d (.i .i64 (j : Int))])), (17, some (.box [.d (.i .i64 p.ba), .d (.i .i64 p.qu), .d (.i .i64 p.se), .d (.sl 1 (p.id.map (.i .i64))), .d (.sl 1 (p.bu.map (.i .i64)))] (some 28))), (18, some (.box [.d (.i .i64 q.ba), .d (.i .i64 q.qu), .d (.i .i64 q.se), .d (.sl 1 (q.id.map (.i .i64))), .d (.sl 1 (q.bu.map (.i .i64)))] (some 28))), (19, some (.buf 1 (us.map (.i .i64))))],3⟩) (fun i => us.length - i) 0 (Nat.zero_le _) [(16, _), (17, _), (18, _), (19, _)]
            · ((repeat' constructor) <;> (first | refine hold ?_ | rfl) <;> first | with_reducible rfl | (congr 1 <;> omega) | (congr 1 <;> simp; done) | (simp; done) | exact encB_snoc _ _ | skip)
            · intro i0 hi0
              repeat refine seq_on ?_
              refine cmp_dec (fun k1 => ?_) (fun k1 => ?_)
              · have hi0' : i0 < us.length := by omega
                repeat refine seq_on ?_
                refine idx i0 rfl (by (try simp only); omega) ?_
                refine at_is (x := .i .i64 us[i0]) (by simp [hi0']) ?_
                refine cmp_no (fun he => a5 (hE.mem_iff.1 (by rw [← he]; simp))) ?_
                ((try refine And.intro (draw_ok (by kernel_rfl)) ?_); repeat refine seq_on ?_)
                refine ar ⟨by omega, by omega⟩ ?_
                apply again (i0 + 1) [(16, _), (17, _), (18, _), (19, _)] (by omega) (by omega)
                ((repeat' constructor) <;> (first | refine hold ?_ | rfl) <;> first | with_reducible rfl | (congr 1 <;> omega) | (congr 1 <;> simp; done) | (simp; done) | exact encB_snoc _ _ | skip)
              · have hag : OnceI l (j, q, max w n, us ++ [n]) := ⟨hj2, hok, by simp only; omega, by simp only; omega, by simp only; rw [hN]; exact a3.symm, by simp only; rw [a4]; exact (hE.append_right [n]).trans (insS_perm _ _).symm, by simp only; omega⟩
                cases f
                · repeat refine seq_on ?_
                  refine cmp_no (by have := a7 rfl; omega) ?_
                  refine cmp_is false rfl ?_
                  repeat refine seq_on ?_
                  ((try refine And.intro (draw_ok (by kernel_rfl)) ?_); repeat refine seq_on ?_)
                  refine app_ok (by (try simp); omega) ?_
                  ((try refine And.intro (draw_ok (by kernel_rfl)) ?_); repeat refine seq_on ?_)
                  apply again (j, q, max w n, us ++ [n]) [(16, _), (17, _), (19, _)] hag (by simp only; omega)
                  ((repeat' constructor) <;> (first | refine hold ?_ | rfl) <;> first | with_reducible rfl | (congr 1 <;> omega) | (congr 1 <;> simp; done) | (simp; done) | exact encB_snoc _ _ | skip)
                · repeat refine seq_on ?_
                  refine cmp_yes (by have := a6 rfl; omega) ?_
                  refine cmp_is false rfl ?_
                  refine ar ⟨by omega, by omega⟩ ?_
                  refine cmp_no (by have := a6 rfl; omega) ?_
                  repeat refine seq_on ?_
                  ((try refine And.intro (draw_ok (by kernel_rfl)) ?_); repeat refine seq_on ?_)
                  refine app_ok (by (try simp); omega) ?_
                  ((try refine And.intro (draw_ok (by kernel_rfl)) ?_); repeat refine seq_on ?_)
                  apply again (j, q, max w n, us ++ [n]) [(16, _), (17, _), (19, _)] hag (by simp only; omega)
                  ((repeat' constructor) <;> (first | refine hold ?_ | rfl) <;> first | with_reducible rfl | (congr 1 <;> omega) | (congr 1 <;> simp; done) | (simp; done) | exact encB_snoc _ _ | skip)
        · have hul1 : 1 ≤ us.length := by
            have g1 : ¬ ((us.map (D.i .i64)).length : Int) = 0 := g1
            omega
          have hx2 := nextP (G := G) l j (us.length : Int) hj2 (by omega) (by omega)
          have hv2 := nxP_lt l j (us.length : Int) (by omega)
          have hj3 := nxtP_le l j hj2
          generalize hj' : nxtP l j = j2 at hx2 hj3
          generalize hg2 : nxP l j (us.length : Int) = k at hx2 hv2
          have hk' : k < us.length := by omega
          have hx3 := nextP (G := G) l j2 2 hj3.2 (by omega) (by decide)
          have hj4 := nxtP_le l j2 hj3.2
          generalize hj'' : nxtP l j2 = j3 at hx3 hj4
          generalize hg3 : nxP l j2 2 = v2 at hx3
          rw [← lu] at hx2
          ((try refine And.intro (draw_ok (by kernel_rfl)) ?_); repeat refine seq_on ?_)
          refine callh [(0, 16)] hx2 ?_ ?_
          · simp only [srcP]
            ((repeat' constructor) <;> (first | refine hold ?_ | rfl) <;> first | with_reducible rfl | (congr 1 <;> omega) | (congr 1 <;> simp; done) | (simp; done) | exact encB_snoc _ _ | skip)
          apply seq_inv (fun p2 : Po => OnceI l (j3, p2, w, us.take k ++ us.drop (k + 1))) (fun p2 => ⟨[(5, .op 16 0 0), (6, .op 17 0 0), (7, .d (.i .i64 w)), (8, .d (.sl 1 (us.map (.i .i64)))), (14, .d (.i .i64 (k : Int))), (15, .d (.b true))], [(16, some (.box [.d (ints l), .d (.i .i64 (j3 : Int))])), (17, some (.box [.d (.i .i64 p2.ba), .d (.i .i64 p2.qu), .d (.i .i64 p2.se), .d (.sl 1 (p2.id.map (.i .i64))), .d (.sl 1 (p2.bu.map (.i .i64)))] (some 28)))], 2⟩)
          · refine callh [(0, 16)] hx3 ?_ ?_
            · simp only [srcP]
              ((repeat' constructor) <;> (first | refine hold ?_ | rfl) <;> first | with_reducible rfl | (congr 1 <;> omega) | (congr 1 <;> simp; done) | (simp; done) | exact encB_snoc _ _ | skip)
            repeat refine seq_on ?_
            refine cmp_dec (fun g2 => ?_) (fun g2 => ?_)
            · -- release
              ((try refine And.intro (draw_ok (by kernel_rfl)) ?_); repeat refine seq_on ?_)
              have c1 := release12 (G := G) p us[k] hP
              have hm : us[k] ∈ p.bu := hE.mem_iff.1 (by simp)
              have hok := relO_ok hP us[k]
              have hof := relO_busy hm
              have hag : OnceI l (j3, (relO p us[k]).1, w, us.take k ++ us.drop (k + 1)) := ⟨hj4.2, hok, by simp only; omega, by simp only; omega, by simp only; omega, by simp only; rw [hof.2.2.2.2]; exact perm_cut hk' hE, by simp only; omega⟩
              rw [hof.1] at c1
              unfold poD at c1
              refine idx k rfl (by (try simp only); omega) ?_
              refine at_is (x := .i .i64 us[k]) (by simp [hk']) ?_
              refine call_by c1 ?_
              ((try refine And.intro (draw_ok (by kernel_rfl)) ?_); repeat refine seq_on ?_)
              apply cut_inv (relO p us[k]).1 [(16, _), (17, _)] hag
              ((repeat' constructor) <;> (first | refine hold ?_ | rfl) <;> first | with_reducible rfl | (congr 1 <;> omega) | (congr 1 <;> simp; done) | (simp; done) | exact encB_snoc _ _ | skip)
            · -- drop
              ((try refine And.intro (draw_ok (by kernel_rfl)) ?_); repeat refine seq_on ?_)
              have c1 := drop13 (G := G) p us[k] hP
              have hm : us[k] ∈ p.bu := hE.mem_iff.1 (by simp)
              have hok := drpO_ok hP us[k]
              have hof := drpO_busy hm
              have hag : OnceI l (j3, (drpO p us[k]).1, w, us.take k ++ us.drop (k + 1)) := ⟨hj4.2, hok, by simp only; omega, by simp only; omega, by simp only; omega, by simp only; rw [hof.2.2.2.2]; exact perm_cut hk' hE, by simp only; omega⟩
              rw [hof.1] at c1
              unfold poD at c1
              refine idx k rfl (by (try simp only); omega) ?_
              refine at_is (x := .i .i64 us[k]) (by simp [hk']) ?_
              refine call_by c1 ?_
              ((try refine And.intro (draw_ok (by kernel_rfl)) ?_); repeat refine seq_on ?_)
              apply cut_inv (drpO p us[k]).1 [(16, _), (17, _)] hag
              ((repeat' constructor) <;> (first | refine hold ?_ | rfl) <;> first | with_reducible rfl | (congr 1 <;> omega) | (congr 1 <;> simp; done) | (simp; done) | exact encB_snoc _ _ | skip)
          intro p2 hag
          repeat refine seq_on ?_
          ((try refine And.intro (draw_ok (by kernel_rfl)) ?_); repeat refine seq_on ?_)
          refine bnd k rfl (by (try simp only); omega) ?_
          refine app_ok (by (try simp); omega) ?_
          refine ar ⟨by omega, by omega⟩ ?_
          refine bnd (k + 1) (by omega) (by (try simp only); omega) ?_
          refine app_ok (by (try simp); omega) ?_
          ((try refine And.intro (draw_ok (by kernel_rfl)) ?_); repeat refine seq_on ?_)
          apply again (j3, p2, w, us.take k ++ us.drop (k + 1)) [(16, _), (17, _), (19, _)] hag (by simp only; omega)
          ((repeat' constructor) <;> (first | refine hold ?_ | rfl) <;> first | with_reducible rfl | (congr 1 <;> omega) | (congr 1 <;> simp; done) | (simp; done) | exact encB_snoc _ _ | skip)
    · rw [decide_eq_false (by omega)] at hlf
      refine callh [(0, 16)] hlf ?_ ?_
      · ((repeat' constructor) <;> (first | refine hold ?_ | rfl) <;> first | with_reducible rfl | (congr 1 <;> omega) | (congr 1 <;> simp; done) | (simp; done) | exact encB_snoc _ _ | skip)
      ((try refine And.intro (draw_ok (by kernel_rfl)) ?_); repeat refine seq_on ?_)
      refine call_by ca ?_
      ((try refine And.intro (draw_ok (by kernel_rfl)) ?_); repeat refine seq_on ?_)
      rfl
end Go.Proofs.Ytiokdhklhnhfhaa

namespace Go.Proofs.Ytiokdhklhnhfhaa
variable {G : List Go.Eng.Gl}
open Go.Eng
attribute [local irreducible] Hold
set_option maxRecDepth 100000

theorem poolValid5 (m : List Int) (r : Po) (at0 n : Int) (wild : Bool) (hl : r.id.length + r.bu.length ≤ 2000000) : Does (CG G) 5 [ints m, poD r, .i .i64 at0, .i .i64 n, .b wild] [.b true] := by
  have key : ∀ p : Po, p.id.length + p.bu.length ≤ 2000000 → ∃ b : Bool, Does (CG G) 16 [poD p] [.b b] ∧ Does (CG G) 18 [poD p] [.b b] ∧ Does (CG G) 17 [poD p] [.i .i64 ((p.id.length : Int) + (p.bu.length : Int))] := fun p h => by
    by_cases hv : ValO p
    · exact ⟨true, valid16 p (by omega) true (by simp [hv]), valid18 p (by omega) true (by simp [hv]), open17 p (by omega)⟩
    · exact ⟨false, valid16 p (by omega) false (by simp [hv]), valid18 p (by omega) false (by simp [hv]), open17 p (by omega)⟩
  have ca := awake14 (G := G)
  have c3 := play15 (G := G) m (m.take 90) rfl 1000 4
  have hok := walkP_ok (m.take 90) (m.take 90).length 0 (newPo 1000 4) (newPo_ok _ _)
  generalize walkP (m.take 90) (m.take 90).length 0 (newPo 1000 4) = p at c3 hok
  have w1 := withinP (G := G) at0 7 (by decide)
  have w2 := withinP (G := G) n 9 (by decide)
  have w3 := withinP (G := G) n 5 (by decide)
  have v2 := wiP_lt n 9 (by decide)
  have v3 := wiP_lt n 5 (by decide)
  generalize wiP at0 7 = v at w1
  generalize wiP n 9 = n9 at w2 v2
  generalize wiP n 5 = n5 at w3 v3
  have hle := hok.le
  have hqu := hok.qu
  have l1 : (p.id.map (D.i .i64)).length = p.id.length := by simp
  have l2 : (p.bu.map (D.i .i64)).length = p.bu.length := by simp
  have tail : ∀ p2 : Po, p2.id.length + p2.bu.length ≤ 2000000 → ((p2.id.map (D.i .i64)).length : Int) + ((p2.bu.map (D.i .i64)).length : Int) = (p2.id.length : Int) + (p2.bu.length : Int) := fun p2 _ => by simp
  unfold poD at c3 ⊢
  refine Does.mk (n := 79) Try.func5 rfl rfl rfl (Nat.le_of_ble_eq_true rfl) ?_
  apply seq_inv (fun p2 : Po => p2.id.length + p2.bu.length ≤ 2000000) (fun p2 => ⟨[(11, .op 16 0 0)], [(16, some (.box [.d (.i .i64 p2.ba), .d (.i .i64 p2.qu), .d (.i .i64 p2.se), .d (.sl 1 (p2.id.map (.i .i64))), .d (.sl 1 (p2.bu.map (.i .i64)))] (some 28)))], 2⟩)
  · cases wild with
    | true =>
      repeat refine seq_on ?_
      apply cut_inv r [(16, _)] hl
      ((repeat' constructor) <;> (first | refine hold ?_ | rfl) <;> first | with_reducible rfl | (congr 1 <;> omega) | (congr 1 <;> simp; done) | (simp; done) | exact encB_snoc _ _ | skip)
    | false =>
      repeat refine seq_on ?_
      refine call_by c3 ?_
      repeat refine seq_on ?_
      refine call_by w1 ?_
      repeat refine seq_on ?_
      refine cmp_dec (fun g0 => ?_) (fun g0 => ?_)
      · repeat refine seq_on ?_
        refine app_ok (by (try simp); omega) ?_
        refine call_by w2 ?_
        refine ar ⟨by omega, by omega⟩ ?_
        refine app_ok (by (try simp); omega) ?_
        repeat refine seq_on ?_
        apply cut_inv (⟨p.ba, p.qu, p.se, p.id ++ [1000 + (n9 : Int)], p.bu⟩ : Po) [(16, _)] (by simp; omega)
        ((repeat' constructor) <;> (first | refine hold ?_ | rfl) <;> first | with_reducible rfl | (congr 1 <;> omega) | (congr 1 <;> simp; done) | (simp; done) | exact encB_snoc _ _ | skip)
      · repeat refine seq_on ?_
        refine cmp_dec (fun g1 => ?_) (fun g1 => ?_)
        · ((try refine And.intro (draw_ok (by kernel_rfl)) ?_); repeat refine seq_on ?_)
          refine call_by w2 ?_
          refine ar ⟨by omega, by omega⟩ ?_
          refine app_ok (by (try simp); omega) ?_
          ((try refine And.intro (draw_ok (by kernel_rfl)) ?_); repeat refine seq_on ?_)
          apply cut_inv (⟨p.ba, p.qu, p.se, p.id, (1000 + (n9 : Int)) :: p.bu⟩ : Po) [(16, _)] (by simp; omega)
          ((repeat' constructor) <;> (first | refine hold ?_ | rfl) <;> first | with_reducible rfl | (congr 1 <;> omega) | (congr 1 <;> simp; done) | (simp; done) | exact encB_snoc _ _ | skip)
        · repeat refine seq_on ?_
          refine cmp_dec (fun g2 => ?_) (fun g2 => ?_)
          · repeat refine seq_on ?_
            refine call_by w2 ?_
            refine ar ⟨by omega, by omega⟩ ?_
            repeat refine seq_on ?_
            apply cut_inv (⟨p.ba, p.qu, (n9 : Int) - 1, p.id, p.bu⟩ : Po) [(16, _)] (by simp only; omega)
            ((repeat' constructor) <;> (first | refine hold ?_ | rfl) <;> first | with_reducible rfl | (congr 1 <;> omega) | (congr 1 <;> simp; done) | (simp; done) | exact encB_snoc _ _ | skip)
          · repeat refine seq_on ?_
            refine cmp_dec (fun g3 => ?_) (fun g3 => ?_)
            · repeat refine seq_on ?_
              refine call_by w3 ?_
              repeat refine seq_on ?_
              apply cut_inv (⟨p.ba, (n5 : Int), p.se, p.id, p.bu⟩ : Po) [(16, _)] (by simp only; omega)
              ((repeat' constructor) <;> (first | refine hold ?_ | rfl) <;> first | with_reducible rfl | (congr 1 <;> omega) | (congr 1 <;> simp; done) | (simp; done) | exact encB_snoc _ _ | skip)
            · repeat refine seq_on ?_
              refine cmp_dec (fun g4 => ?_) (fun g4 => ?_)
              · repeat refine seq_on ?_
                apply cut_inv (⟨n, p.qu, p.se, p.id, p.bu⟩ : Po) [(16, _)] (by simp only; omega)
                ((repeat' constructor) <;> (first | refine hold ?_ | rfl) <;> first | with_reducible rfl | (congr 1 <;> omega) | (congr 1 <;> simp; done) | (simp; done) | exact encB_snoc _ _ | skip)
              · repeat refine seq_on ?_
                apply cut_inv p [(16, _)] (by omega)
                ((repeat' constructor) <;> (first | refine hold ?_ | rfl) <;> first | with_reducible rfl | (congr 1 <;> omega) | (congr 1 <;> simp; done) | (simp; done) | exact encB_snoc _ _ | skip)
  · intro p2 h2
    obtain ⟨b, k1, k2, k3⟩ := key p2 h2
    have e := tail p2 h2
    unfold poD at k1 k2 k3
    repeat refine seq_on ?_
    ((try refine And.intro (draw_ok (by kernel_rfl)) ?_); repeat refine seq_on ?_)
    refine call_by k1 ?_
    refine call_by k2 ?_
    refine cmp_is true (by cases b <;> rfl) ?_
    refine call_by k3 ?_
    refine ar ⟨by omega, by omega⟩ ?_
    refine cmp_yes (by omega) ?_
    refine call_by ca ?_
    ((try refine And.intro (draw_ok (by kernel_rfl)) ?_); repeat refine seq_on ?_)
    rfl
end Go.Proofs.Ytiokdhklhnhfhaa

