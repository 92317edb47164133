import Derived.Test.YtiokdhklhnhfhaaDoorMt
namespace Go.Proofs.YtiokdhklhnhfhaaDoor
variable {G : List Go.Eng.Gl}
open Go.Eng
attribute [local irreducible] Hold
set_option maxRecDepth 100000

theorem feedU_long (out rest : List UInt8) : ∀ (l : List UInt8) (c : Chk) (i : Nat), c.ph = 0 → (∀ x, x ∈ c.ln → x ≠ 13 ∧ x ≠ 10) → (∀ x, x ∈ l → x ≠ 13 ∧ x ≠ 10) → c.ln.length ≤ 128 → 128 < c.ln.length + l.length → (feedU c out (l ++ rest) i).e = 3
  | [], c, i, _, _, _, h1, h2 => by simp at h2; omega
  | x :: l, c, i, h0, hp, hq, h1, h2 => by
    have hx := hq x (by simp)
    have hb : ¬ (c.ph = 3 ∧ 1024 < c.tr + 1) := by omega
    have hl := last_ne fun x hx => (hp x hx).1
    rw [List.cons_append, feedU_cons, if_neg (by omega), if_neg (by omega)]
    by_cases hf : c.ln.length + 1 ≤ 128
    · rw [step_char hb hl hx.2 (.inr hf)]
      simp only [ne_eq, not_true, if_false]
      exact feedU_long out rest l (bumpN c 1 (c.ln ++ [x])) (i + 1) h0 (fun y hy => by
        rcases List.mem_append.1 hy with hy | hy
        · exact hp y hy
        · simp at hy; rw [hy]; exact hx) (fun y hy => hq y (by simp [hy])) (by simp [bumpN]; omega) (by simp only [List.length_cons] at h2; simp [bumpN]; omega)
    · have : (stepC c x).2 = 3 := by
        unfold stepC
        rw [if_neg hb, if_neg hl, if_neg hx.2, if_pos ⟨by omega, hx.1⟩]
      rw [if_pos (by rw [this]; decide)]
      exact this

theorem feedU_tr (out rest : List UInt8) : ∀ (ts : List (List UInt8)) (tr : Int) (i : Nat), (∀ t, t ∈ ts → t ≠ [] ∧ t.length ≤ 128 ∧ (∀ x, x ∈ t → x ≠ 13 ∧ x ≠ 10) ∧ (fparseF t).2 = 0) → tr + ((trLines ts).length : Int) ≤ 1024 →
    feedU ⟨3, 0, tr, []⟩ out (trLines ts ++ rest) i = feedU ⟨3, 0, tr + ((trLines ts).length : Int), []⟩ out rest (i + (trLines ts).length)
  | [], tr, i, _, h => by simp [trLines]
  | t :: ts, tr, i, ht, h => by
    obtain ⟨h1, h2, h3, h4⟩ := ht t (by simp)
    have hz : (trLines (t :: ts)).length = t.length + 2 + (trLines ts).length := by rw [trLines_cons]; simp only [List.length_append, List.length_cons, List.length_nil]
    rw [hz] at h ⊢
    have he : trLines (t :: ts) ++ rest = t ++ 13 :: 10 :: (trLines ts ++ rest) := by simp [trLines]
    have := feedU_line out (trLines ts ++ rest) t ⟨3, 0, tr, []⟩ i (by show ¬ (3 : Int) = 1; decide) (by show ¬ (3 : Int) = 4; decide) (by intro x hx; cases hx) h3 (by simpa using h2) (fun _ => by simp only; omega)
    rw [he, this]
    have hl : lineC (bumpN ⟨3, 0, tr, []⟩ (t.length + 2) []) ((⟨3, 0, tr, []⟩ : Chk).ln ++ t) = (⟨3, 0, tr + (t.length + 2 : Nat), []⟩, 0) := by
      unfold lineC bumpN
      simp [h1, h4]
    rw [hl]
    simp only [ne_eq, not_true, if_false]
    rw [feedU_tr out rest ts _ _ (fun t ht' => ht t (by simp [ht'])) (by omega)]
    congr 1
    · simp only [Chk.mk.injEq, true_and, and_true]; omega
    · omega

def xs (n : Nat) : List UInt8 := List.replicate n 120
def w1 (n : Nat) : List UInt8 := [49, 59] ++ xs n ++ [13, 10, 97, 13, 10, 48, 13, 10, 13, 10]
def trl : List UInt8 := [65, 58, 32, 51, 52, 53, 54, 55, 56, 57]
def w2 (m : Nat) : List UInt8 := [48, 13, 10] ++ trLines (List.replicate m trl) ++ [13, 10]
theorem xs_plain (n : Nat) : ∀ x, x ∈ 59 :: xs n → x ≠ 13 ∧ x ≠ 10 := by
  intro x hx
  rcases List.mem_cons.1 hx with rfl | hx
  · decide
  · rw [List.eq_of_mem_replicate hx]; decide
theorem dec_w1 (n : Nat) : (decF (w1 n)).e = if n + 2 ≤ 128 then 0 else 3 := by
  have hd1 : digs 16 1 = [49] := digs_one (by decide)
  have hp1 : printF 16 1 = [49] := by unfold printF; rw [if_neg (by decide)]; exact hd1
  by_cases h : n + 2 ≤ 128
  · rw [if_pos h]
    have he : ExtK (59 :: xs n) := ⟨.inr ⟨_, rfl, by
      unfold visF xs
      rw [List.all_eq_true]
      intro x hx
      rw [List.eq_of_mem_replicate hx]; decide⟩, xs_plain n⟩
    have e1 : w1 n = lineW (59 :: xs n) [97] ++ (([48] ++ []) ++ 13 :: 10 :: (trLines [] ++ 13 :: 10 :: [])) := by
      unfold w1 lineW
      simp [hp1, trLines]
    have := feedU_last [48] [] ([] ++ [97]) [] [] (0 + (lineW (59 :: xs n) [97]).length) (.inl rfl) ⟨.inl rfl, by intro x hx; cases hx⟩ (by decide) (by intro t ht; cases ht) (by decide)
    rw [decF_U, e1, feedU_chunk _ [97] [] _ 0 (by decide) (by decide) he (by
      show (digs 16 1).length + _ ≤ 128
      rw [hd1]; simp [xs]; omega), this]
    simp
  · rw [if_neg h]
    have e1 : w1 n = ([49] ++ (59 :: xs n)) ++ [13, 10, 97, 13, 10, 48, 13, 10, 13, 10] := by unfold w1; simp
    have := feedU_long [] [13, 10, 97, 13, 10, 48, 13, 10, 13, 10] ([49] ++ (59 :: xs n)) .zero 0 rfl (by intro x hx; cases hx) (fun x hx => by
      rcases List.mem_append.1 hx with hx | hx
      · simp at hx; subst hx; decide
      · exact xs_plain n x hx) (by decide) (by simp [xs, Chk.zero]; omega)
    rw [decF_U, e1, if_pos (by rw [this]; decide)]
    exact this
theorem trl_len (m : Nat) : (trLines (List.replicate m trl)).length = 12 * m := by
  induction m with
  | zero => rfl
  | succ m ih => rw [List.replicate_succ, trLines_cons]; simp only [List.length_append, ih]; simp [trl]; omega
theorem trl_fine : trl ≠ [] ∧ trl.length ≤ 128 ∧ (∀ x, x ∈ trl → x ≠ 13 ∧ x ≠ 10) ∧ (fparseF trl).2 = 0 := by decide
theorem dec_w2 (m : Nat) : (decF (w2 m)).e = if 12 * m + 2 ≤ 1024 then 0 else 3 := by
  have hall : ∀ m t, t ∈ List.replicate m trl → t ≠ [] ∧ t.length ≤ 128 ∧ (∀ x, x ∈ t → x ≠ 13 ∧ x ≠ 10) ∧ (fparseF t).2 = 0 := fun m t ht => by rw [List.eq_of_mem_replicate ht]; exact trl_fine
  by_cases h : 12 * m + 2 ≤ 1024
  · rw [if_pos h]
    have e1 : w2 m = ([48] ++ []) ++ 13 :: 10 :: (trLines (List.replicate m trl) ++ 13 :: 10 :: []) := by unfold w2; simp
    have := feedU_last [48] [] [] [] (List.replicate m trl) 0 (.inl rfl) ⟨.inl rfl, by intro x hx; cases hx⟩ (by decide) (hall m) (by rw [trl_len]; omega)
    rw [decF_U, e1, this]
    simp
  · rw [if_neg h]
    obtain ⟨k, rfl⟩ : ∃ k, m = 85 + (k + 1) := ⟨m - 86, by omega⟩
    have e1 : w2 (85 + (k + 1)) = [48] ++ 13 :: 10 :: (trLines (List.replicate 85 trl) ++ (trl ++ ([13, 10] ++ (trLines (List.replicate k trl) ++ [13, 10])))) := by
      unfold w2
      rw [← List.replicate_append_replicate, List.replicate_succ]
      simp [trLines, List.replicate_succ]
    have e2 := feedU_line [] (trLines (List.replicate 85 trl) ++ (trl ++ ([13, 10] ++ (trLines (List.replicate k trl) ++ [13, 10])))) [48] .zero 0 (by decide) (by decide) (by intro x hx; cases hx) (by decide) (by decide) (fun h => absurd h (by decide))
    have e3 := size_zero (w := [48]) (e := []) (.inl rfl) ⟨.inl rfl, by intro x hx; cases hx⟩
    have e4 := feedU_tr [] (trl ++ ([13, 10] ++ (trLines (List.replicate k trl) ++ [13, 10]))) (List.replicate 85 trl) 0 (0 + 1 + 2) (hall 85) (by rw [trl_len]; decide)
    have e5 : (feedU .zero [] (w2 (85 + (k + 1))) 0).e = 3 := by
      rw [e1, e2, show bumpN .zero (([48] : List UInt8).length + 2) [] = .zero from rfl, show Chk.zero.ln ++ [48] = [48] ++ [] from rfl, e3]
      simp only [ne_eq, not_true, if_false]
      rw [show (0 + ([48] : List UInt8).length + 2) = 0 + 1 + 2 from rfl, e4, trl_len]
      generalize ([13, 10] ++ (trLines (List.replicate k trl) ++ [13, 10])) = rest
      have st : ∀ (tr : Int) (ln r : List UInt8) (x : UInt8) (i : Nat), tr < 1024 → ln.getLast? ≠ some 13 → x ≠ 10 → ln.length + 1 ≤ 128 → feedU ⟨3, 0, tr, ln⟩ [] (x :: r) i = feedU ⟨3, 0, tr + 1, ln ++ [x]⟩ [] r (i + 1) := by
        intro tr ln r x i h1 h2 h3 h4
        rw [feedU_cons, if_neg (show ¬ (3 : Int) = 4 by decide), if_neg (show ¬ (3 : Int) = 1 by decide), step_char (c := ⟨3, 0, tr, ln⟩) (by rintro ⟨_, h⟩; simp only at h; omega) h2 h3 (.inr h4)]
        simp only [ne_eq, not_true, if_false]
        rfl
      show (feedU ⟨3, 0, 0 + ((12 * 85 : Nat) : Int), []⟩ [] (65 :: 58 :: 32 :: 51 :: 52 :: ([53, 54, 55, 56, 57] ++ rest)) _).e = 3
      rw [st _ _ _ _ _ (by decide) (by decide) (by decide) (by decide), st _ _ _ _ _ (by decide) (by decide) (by decide) (by decide), st _ _ _ _ _ (by decide) (by decide) (by decide) (by decide), st _ _ _ _ _ (by decide) (by decide) (by decide) (by decide)]
      have h3 : ∀ (ln r : List UInt8) (x : UInt8) (i : Nat), (feedU ⟨3, 0, 1024, ln⟩ [] (x :: r) i).e = 3 := by
        intro ln r x i
        have : (stepC ⟨3, 0, 1024, ln⟩ x).2 = 3 := by unfold stepC; rw [if_pos ⟨rfl, by show (1024 : Int) < 1024 + 1; decide⟩]
        rw [feedU_cons, if_neg (show ¬ (3 : Int) = 4 by decide), if_neg (show ¬ (3 : Int) = 1 by decide), if_pos (by rw [this]; decide)]
        exact this
      exact h3 _ _ _ _
    rw [decF_U, if_pos (by rw [e5]; decide)]
    exact e5

theorem law32 (a b : Int) : Does (CN G) 10 [.i .i64 a, .i .i64 b] [.b true] := by
  have hwA := withinV (G := gN G) a 200 (by decide)
  have hA := wiV_lt a 200 (by decide)
  have hwB := withinV (G := gN G) b 1200 (by decide)
  have hB := wiV_lt b 1200 (by decide)
  generalize wiV a 200 = A at hwA hA
  generalize wiV b 1200 = B at hwB hB
  have hA : A < 200 := by omega
  have hB : B < 1200 := by omega
  refine Does.mk (n := 92) Tryd.func10 rfl rfl rfl (Nat.le_of_ble_eq_true rfl) ?_
  refine call_by hwA ?_
  refine call_by hwB ?_
  refine mk_ok A rfl (by omega) (by omega) (by show ((1 : Nat) : Int) * _ ≤ _; omega) ?_
  apply seq_inv (fun _ : Unit => True) (fun _ => ⟨[(0, .d (.i .i64 (A : Int))), (1, .d (.i .i64 (B : Int))), (5, .os 16)], [(16, some (.buf 1 (encB (xs A))))], 2⟩)
  · repeat refine seq_on ?_
    apply loop_inv (fun j : Nat => j ≤ A) (fun j => ⟨[(0, .d (.i .i64 (A : Int))), (1, .d (.i .i64 (B : Int))), (5, .os 16), (6, .d (.i .i64 (j : Int)))], [(16, some (.buf 1 (List.replicate j (.i .u8 120) ++ List.replicate (A - j) (.i .u8 0))))], 2⟩) (fun j => A - j) 0 (by omega) [(16, _)]
    · ((repeat' constructor) <;> refine hold ?_ <;> first | with_reducible rfl | (congr 1 <;> omega) | (congr 1 <;> simp; done) | (simp; done) | exact encB_snoc _ _ | skip)
    · intro j hj
      repeat refine seq_on ?_
      refine cmp_dec (fun h => ?_) (fun h => ?_)
      · have hj' : j < A := by omega
        repeat refine seq_on ?_
        refine idx j rfl (by simp; omega) ?_
        refine set_is (get_d (.i .u8 0) (by simp; omega)) ?_
        have hrow : (List.replicate j (D.i .u8 120) ++ List.replicate (A - j) (D.i .u8 0)).set j (.i .u8 120) = List.replicate (j + 1) (D.i .u8 120) ++ List.replicate (A - (j + 1)) (D.i .u8 0) := by
          rw [List.set_append_right _ _ (by simp), List.length_replicate, Nat.sub_self, show A - j = (A - (j + 1)) + 1 by omega, List.replicate_succ, List.set_cons_zero, ← List.replicate_append_replicate]
          simp
        repeat refine seq_on ?_
        refine ar ⟨by omega, by omega⟩ ?_
        apply again (j + 1) [(16, _)] (by omega) (by omega)
        rw [← hrow]
        ((repeat' constructor) <;> refine hold ?_ <;> first | with_reducible rfl | (congr 1 <;> omega) | (congr 1 <;> simp; done) | (simp; done) | exact encB_snoc _ _ | skip)
      · have : j = A := by omega
        subst this
        repeat refine seq_on ?_
        apply cut_inv () [(16, _)] trivial
        have hrow : List.replicate j (D.i .u8 120) ++ List.replicate (j - j) (D.i .u8 0) = encB (xs j) := by simp [encB, xs]
        rw [hrow]
        ((repeat' constructor) <;> refine hold ?_ <;> first | with_reducible rfl | (congr 1 <;> omega) | (congr 1 <;> simp; done) | (simp; done) | exact encB_snoc _ _ | skip)
  · rintro ⟨⟩ -
    have hxl : (xs A).length = A := by simp [xs]
    have hw1l : (w1 A).length = A + 12 := by unfold w1; simp [xs]
    have hd1 := decP (G := gN G) (w1 A) (by omega)
    have he1 := dec_w1 A
    generalize decF (w1 A) = r1 at hd1 he1
    repeat refine seq_on ?_
    refine bytes_is (xs A) rfl ?_
    refine len_ok (by simp only [List.length_cons, List.length_nil]; omega) ?_
    refine len_ok (by simp only [List.length_append, List.length_cons, List.length_nil]; omega) ?_
    refine call_by hd1 ?_
    apply seq_inv (fun m : Nat => 12 * m ≤ B ∧ B < 12 * m + 12) (fun m => ⟨[(0, .d (.i .i64 (A : Int))), (10, .d (.i .i64 r1.e)), (11, .os 16), (12, .d (.i .i64 ((12 * m : Nat) : Int)))], [(16, some (.buf 1 (encB ([48, 13, 10] ++ trLines (List.replicate m trl)))))], 2⟩)
    · apply loop_inv (fun m : Nat => 12 * m ≤ B) (fun m => ⟨[(0, .d (.i .i64 (A : Int))), (1, .d (.i .i64 (B : Int))), (10, .d (.i .i64 r1.e)), (11, .os 16), (12, .d (.i .i64 ((12 * m : Nat) : Int)))], [(16, some (.buf 1 (encB ([48, 13, 10] ++ trLines (List.replicate m trl)))))], 2⟩) (fun m => B - 12 * m) 0 (by omega) [(16, _)]
      · ((repeat' constructor) <;> refine hold ?_ <;> first | with_reducible rfl | (congr 1 <;> omega) | (congr 1 <;> simp; done) | (simp; done) | exact encB_snoc _ _ | skip)
      · intro m hm
        have htl := trl_len m
        repeat refine seq_on ?_
        refine ar ⟨by omega, by omega⟩ ?_
        refine cmp_dec (fun h => ?_) (fun h => ?_)
        · have hs : trLines (List.replicate (m + 1) trl) = trLines (List.replicate m trl) ++ (trl ++ [13, 10]) := by
            unfold trLines
            rw [List.replicate_succ', List.map_append, List.flatten_append]
            simp
          repeat refine seq_on ?_
          refine app_ok (by simp only [encB_len, List.length_append, List.length_cons, List.length_nil]; omega) ?_
          refine ar ⟨by omega, by omega⟩ ?_
          repeat refine seq_on ?_
          apply again (m + 1) [(16, _)] (by omega) (by omega)
          rw [hs, ← List.append_assoc, encB_app]
          ((repeat' constructor) <;> refine hold ?_ <;> first | with_reducible rfl | (congr 1 <;> omega) | (congr 1 <;> simp; done) | (simp; done) | exact encB_snoc _ _ | skip)
        · repeat refine seq_on ?_
          apply cut_inv m [(16, _)] ⟨hm, by omega⟩
          ((repeat' constructor) <;> refine hold ?_ <;> first | with_reducible rfl | (congr 1 <;> omega) | (congr 1 <;> simp; done) | (simp; done) | exact encB_snoc _ _ | skip)
    · rintro m ⟨hm1, hm2⟩
      have htl := trl_len m
      have hw2l : (w2 m).length = 12 * m + 5 := by unfold w2; simp [htl]
      have hd2 := decP (G := gN G) (w2 m) (by omega)
      have he2 := dec_w2 m
      generalize decF (w2 m) = r2 at hd2 he2
      have hw2 : encB (w2 m) = encB ([48, 13, 10] ++ trLines (List.replicate m trl)) ++ encB [13, 10] := by unfold w2; rw [encB_app]
      rw [hw2] at hd2
      repeat refine seq_on ?_
      refine app_ok (by simp only [encB_len, List.length_append, List.length_cons, List.length_nil]; omega) ?_
      repeat refine seq_on ?_
      refine call_by hd2 ?_
      by_cases c1 : A + 2 ≤ 128
      · rw [if_pos c1] at he1
        refine cmp_yes he1 ?_
        refine ar ⟨by omega, by omega⟩ ?_
        refine cmp_yes (by omega) ?_
        refine cmp_yes rfl ?_
        refine cmp_yes he1 ?_
        by_cases c2 : 12 * m + 2 ≤ 1024
        · rw [if_pos c2] at he2
          refine cmp_yes he2 ?_
          refine ar ⟨by omega, by omega⟩ ?_
          refine cmp_yes (by omega) ?_
          refine cmp_yes rfl ?_
          refine cmp_yes he2 ?_
          refine call_by awake09 ?_
          rfl
        · rw [if_neg c2] at he2
          refine cmp_no (by omega) ?_
          refine ar ⟨by omega, by omega⟩ ?_
          refine cmp_no (by omega) ?_
          refine cmp_yes rfl ?_
          refine cmp_no (by omega) ?_
          refine cmp_yes he2 ?_
          refine call_by awake09 ?_
          rfl
      · rw [if_neg c1] at he1
        refine cmp_no (by omega) ?_
        refine ar ⟨by omega, by omega⟩ ?_
        refine cmp_no (by omega) ?_
        refine cmp_yes rfl ?_
        refine cmp_no (by omega) ?_
        refine cmp_yes he1 ?_
        by_cases c2 : 12 * m + 2 ≤ 1024
        · rw [if_pos c2] at he2
          refine cmp_yes he2 ?_
          refine ar ⟨by omega, by omega⟩ ?_
          refine cmp_yes (by omega) ?_
          refine cmp_yes rfl ?_
          refine cmp_yes he2 ?_
          refine call_by awake09 ?_
          rfl
        · rw [if_neg c2] at he2
          refine cmp_no (by omega) ?_
          refine ar ⟨by omega, by omega⟩ ?_
          refine cmp_no (by omega) ?_
          refine cmp_yes rfl ?_
          refine cmp_no (by omega) ?_
          refine cmp_yes he2 ?_
          refine call_by awake09 ?_
          rfl
end Go.Proofs.YtiokdhklhnhfhaaDoor

