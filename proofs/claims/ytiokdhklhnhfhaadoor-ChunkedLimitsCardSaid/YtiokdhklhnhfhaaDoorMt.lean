import Derived.Test.YtiokdhklhnhfhaaDoorMq
namespace Go.Proofs.YtiokdhklhnhfhaaDoor
variable {G : List Go.Eng.Gl}
open Go.Eng
attribute [local irreducible] Hold
set_option maxRecDepth 100000

theorem wireD (m l : List Int) (hm : l = m.take 80) (n : Int) (x : UInt8) (hn : I64 n) : Does (CG G) 23 [ints m, .i .i64 n, .i .u8 (x.toNat : Int)] [.sl 1 (encB (wireB l n x))] := by
  have h0 := cut51 (G := G) m 80
  have hl : l.length ≤ 80 := by rw [hm]; simp; omega
  rw [← hm] at h0
  generalize hfin : wireLoop l l.length 0 [] = fin
  refine Does.mk (n := 77) Tryd.func23 rfl rfl rfl (Nat.le_of_ble_eq_true rfl) ?_
  repeat refine seq_on ?_
  refine call_by h0 ?_
  apply seq_inv (fun _ : Unit => True) (fun _ => ⟨[(1, .d (.i .i64 n)), (2, .d (.i .u8 (x.toNat : Int))), (7, .op 16 0 0), (8, .os 17)], [(16, some (.box [.d (ints l), .d (.i .i64 (fin.1 : Int))])), (17, some (.buf 1 (encB fin.2)))], 2⟩)
  · repeat refine seq_on ?_
    apply loop_inv (fun y : Nat × List UInt8 => y.1 ≤ l.length ∧ y.2.length ≤ 430 ∧ ∃ k, l.length ≤ k + y.1 ∧ wireLoop l k y.1 y.2 = fin) (fun y => ⟨[(1, .d (.i .i64 n)), (2, .d (.i .u8 (x.toNat : Int))), (7, .op 16 0 0), (8, .os 17)], [(16, some (.box [.d (ints l), .d (.i .i64 (y.1 : Int))])), (17, some (.buf 1 (encB y.2)))], 2⟩) (fun y => l.length - y.1) (0, []) ⟨Nat.zero_le _, by simp, l.length, by simp, hfin⟩ [(16, _), (17, _)]
    · ((repeat' constructor) <;> refine hold ?_ <;> first | with_reducible rfl | (congr 1 <;> omega) | (congr 1 <;> simp; done) | (simp; done) | exact encB_snoc _ _ | skip)
    · rintro ⟨i, o⟩ ⟨h1, h2, k, h3, h4⟩
      simp only at h1 h2 h3 h4
      have hlf := left66 (G := G) l i
      repeat refine seq_on ?_
      by_cases hi : i < l.length
      · rw [decide_eq_true (by omega)] at hlf
        refine callh [(0, 16)] hlf ?_ ?_
        · ((repeat' constructor) <;> refine hold ?_ <;> first | with_reducible rfl | (congr 1 <;> omega) | (congr 1 <;> simp; done) | (simp; done) | exact encB_snoc _ _ | skip)
        refine cmp_dec (fun ho => ?_) (fun ho => ?_)
        · simp only [encB_len] at ho
          have ho : o.length < 400 := by omega
          obtain ⟨k, rfl⟩ : ∃ q, k = q + 1 := ⟨k - 1, by omega⟩
          have hok := wireStep_ok l i o hi ho
          have hfn : wireLoop l k (wireStep l i o).1 (wireStep l i o).2 = fin := by rw [← h4, wireLoop, if_pos ⟨hi, ho⟩]
          have hB := bytesV (G := G) l i 20 h1 (by omega) (by decide)
          have hbl := bytes_len l i 20 (by decide)
          have hbe := bytes_le l i 20 h1
          unfold wireStep at hok hfn
          generalize hb : bytesF l i 20 = b at hB hbl hbe hok hfn
          obtain ⟨b, j⟩ := b
          simp only at hB hbl hbe hok hfn
          repeat refine seq_on ?_
          refine callh [(0, 16)] hB ?_ ?_
          · simp only [srcB]
            ((repeat' constructor) <;> refine hold ?_ <;> first | with_reducible rfl | (congr 1 <;> omega) | (congr 1 <;> simp; done) | (simp; done) | exact encB_snoc _ _ | skip)
          apply seq_inv (fun _ : Unit => b ≠ []) (fun _ => ⟨[(1, .d (.i .i64 n)), (2, .d (.i .u8 (x.toNat : Int))), (7, .op 16 0 0), (8, .os 17), (9, .d (.sl 1 (encB b)))], [(16, some (.box [.d (ints l), .d (.i .i64 (j : Int))])), (17, some (.buf 1 (encB o)))], 2⟩)
          · refine cmp_dec (fun hb0 => ?_) (fun hb0 => ?_)
            · have hb0 : b = [] := by
                cases b with
                | nil => rfl
                | cons y r => simp [encB] at hb0; omega
              rw [if_pos hb0] at hok hfn
              repeat refine seq_on ?_
              apply again (j, o) [(16, _), (17, _)] ⟨by simp only; omega, by simp only; omega, k, by simp only at hok ⊢; omega, hfn⟩ (by simp only at hok ⊢; omega)
              ((repeat' constructor) <;> refine hold ?_ <;> first | with_reducible rfl | (congr 1 <;> omega) | (congr 1 <;> simp; done) | (simp; done) | exact encB_snoc _ _ | skip)
            · repeat refine seq_on ?_
              apply cut_inv () [(16, _), (17, _)] (fun e => hb0 (by subst e; rfl))
              ((repeat' constructor) <;> refine hold ?_ <;> first | with_reducible rfl | (congr 1 <;> omega) | (congr 1 <;> simp; done) | (simp; done) | exact encB_snoc _ _ | skip)
          · rintro ⟨⟩ hb0
            rw [if_neg hb0] at hok hfn
            simp only at hok hfn
            have hj := nxt_le' hbe.2
            have hds := digs_small b.length (by omega)
            have hext := ofF_ext l j
            have hO := ofV (G := G) l j exts hbe.2 (by omega) (by decide)
            have hencl : encF [b] = printF 16 (b.length : Int) ++ [13, 10] ++ b ++ [13, 10] ++ [48, 13, 10, 13, 10] := by simp [encF, encChunk, hb0]
            have hE := encR (G := G) [b] (by rw [hencl]; simp only [List.length_append, List.length_cons, List.length_nil]; omega) (by simp)
            have hel : (encF [b]).length = (printF 16 (b.length : Int)).length + b.length + 9 := by rw [hencl]; simp only [List.length_append, List.length_cons, List.length_nil]; omega
            have hcutE : (encB (encF [b])).take (printF 16 (b.length : Int)).length = encB (printF 16 (b.length : Int)) := by
              rw [encB_take, hencl]
              simp [List.append_assoc]
            repeat refine seq_on ?_
            refine call_by hE ?_
            have hee := encB_len (encF [b])
            have hbb := encB_len b
            refine ar ⟨by omega, by omega⟩ ?_
            refine ar ⟨by omega, by omega⟩ ?_
            refine ar ⟨by omega, by omega⟩ ?_
            refine bnd (printF 16 (b.length : Int)).length (by omega) (by omega) ?_
            rw [hcutE]
            refine app_ok (by simp only [encB_len]; omega) ?_
            repeat refine seq_on ?_
            refine callh [(0, 16)] hO ?_ ?_
            · simp only [srcB]
              ((repeat' constructor) <;> refine hold ?_ <;> first | with_reducible rfl | (congr 1 <;> omega) | (congr 1 <;> simp; done) | (simp; done) | exact encB_snoc _ _ | skip)
            refine app_ok (by simp only [encB_len, List.length_append]; omega) ?_
            repeat refine seq_on ?_
            refine app_ok (by simp only [encB_len, List.length_append, List.length_cons, List.length_nil]; omega) ?_
            refine app_ok (by simp only [encB_len, List.length_append, List.length_cons, List.length_nil]; omega) ?_
            refine app_ok (by simp only [encB_len, List.length_append, List.length_cons, List.length_nil]; omega) ?_
            repeat refine seq_on ?_
            apply again (nxt l j, o ++ lineW (ofF l j exts) b) [(16, _), (17, _)] ⟨by simp only; omega, by simp only; omega, k, by simp only at hok ⊢; omega, hfn⟩ (by simp only at hok ⊢; omega)
            ((repeat' constructor) <;> refine hold ?_ <;> first | with_reducible rfl | (congr 1 <;> omega) | (congr 1 <;> simp; done) | (simp; done) | exact encB_snoc _ _ | skip)
            simp only [lineW, encB_app, List.append_assoc]
            try rfl
        · simp only [encB_len] at ho
          have hff : (i, o) = fin := by
            rw [← h4]
            cases k with
            | zero => rfl
            | succ k => rw [wireLoop, if_neg (by omega)]
          subst hff
          repeat refine seq_on ?_
          apply cut_inv () [(16, _), (17, _)] trivial
          ((repeat' constructor) <;> refine hold ?_ <;> first | with_reducible rfl | (congr 1 <;> omega) | (congr 1 <;> simp; done) | (simp; done) | exact encB_snoc _ _ | skip)
      · have hff : (i, o) = fin := by
          rw [← h4]
          cases k with
          | zero => rfl
          | succ k => rw [wireLoop, if_neg (by omega)]
        subst hff
        rw [decide_eq_false (by omega)] at hlf
        refine callh [(0, 16)] hlf ?_ ?_
        · ((repeat' constructor) <;> refine hold ?_ <;> first | with_reducible rfl | (congr 1 <;> omega) | (congr 1 <;> simp; done) | (simp; done) | exact encB_snoc _ _ | skip)
        repeat refine seq_on ?_
        apply cut_inv () [(16, _), (17, _)] trivial
        ((repeat' constructor) <;> refine hold ?_ <;> first | with_reducible rfl | (congr 1 <;> omega) | (congr 1 <;> simp; done) | (simp; done) | exact encB_snoc _ _ | skip)
  · rintro ⟨⟩ -
    have hfl : fin.1 ≤ l.length ∧ fin.2.length ≤ 430 := by rw [← hfin]; exact wireLoop_ok l _ 0 [] (Nat.zero_le _) (by simp)
    have hj := nxt_le' hfl.1
    have hO := ofV (G := G) l fin.1 lasts hfl.1 (by omega) (by decide)
    have hO' := ofV (G := G) l (nxt l fin.1) trls hj.2 (by omega) (by decide)
    have hx1 : (ofF l fin.1 lasts).length ≤ 6 := by
      have : ∀ x, x ∈ lasts → x.length ≤ 6 := by decide
      exact this _ (ofF_mem l fin.1 lasts (by decide))
    have hx2 : (ofF l (nxt l fin.1) trls).length ≤ 11 := by
      have : ∀ x, x ∈ trls → x.length ≤ 11 := by decide
      exact this _ (ofF_mem l (nxt l fin.1) trls (by decide))
    repeat refine seq_on ?_
    refine callh [(0, 16)] hO ?_ ?_
    · simp only [srcB]
      ((repeat' constructor) <;> refine hold ?_ <;> first | with_reducible rfl | (congr 1 <;> omega) | (congr 1 <;> simp; done) | (simp; done) | exact encB_snoc _ _ | skip)
    refine app_ok (by simp only [encB_len, List.length_append]; omega) ?_
    repeat refine seq_on ?_
    refine app_ok (by simp only [encB_len, List.length_append, List.length_cons, List.length_nil]; omega) ?_
    repeat refine seq_on ?_
    refine callh [(0, 16)] hO' ?_ ?_
    · simp only [srcB]
      ((repeat' constructor) <;> refine hold ?_ <;> first | with_reducible rfl | (congr 1 <;> omega) | (congr 1 <;> simp; done) | (simp; done) | exact encB_snoc _ _ | skip)
    refine app_ok (by simp only [encB_len, List.length_append, List.length_cons, List.length_nil]; omega) ?_
    repeat refine seq_on ?_
    refine app_ok (by simp only [encB_len, List.length_append, List.length_cons, List.length_nil]; omega) ?_
    repeat refine seq_on ?_
    have hwf : wireF l = fin.2 ++ ofF l fin.1 lasts ++ [13, 10] ++ ofF l (nxt l fin.1) trls ++ [13, 10] := by unfold wireF; rw [hfin]
    have hwl : (wireF l).length ≤ 451 ∧ 2 ≤ (wireF l).length := by rw [hwf]; simp only [List.length_append, List.length_cons, List.length_nil]; omega
    have hwe : encB fin.2 ++ encB (ofF l fin.1 lasts) ++ encB [13, 10] ++ encB (ofF l (nxt l fin.1) trls) ++ encB [13, 10] = encB (wireF l) := by rw [hwf]; simp only [encB_app]
    refine cmp_dec (fun hb => ?_) (fun hb => ?_)
    · have hw := withinV (G := G) (n.fdiv 2) ((encB (wireF l)).length : Int) (by rw [encB_len]; omega)
      have hwlt := wiV_lt (n.fdiv 2) ((encB (wireF l)).length : Int) (by rw [encB_len]; omega)
      have hwb : wireB l n x = (wireF l).set (wiV (n.fdiv 2) ((wireF l).length : Int)) x := by unfold wireB; rw [if_pos hb]
      repeat refine seq_on ?_
      refine And.intro (by decide) ?_
      rw [← hwe] at hw
      refine call_by hw ?_
      refine idx _ rfl (by rw [← hwe] at hwlt; exact Int.ofNat_lt.1 hwlt) ?_
      refine set_is (get_d (.i .u8 0) (by rw [← hwe] at hwlt; exact Int.ofNat_lt.1 hwlt)) ?_
      repeat refine seq_on ?_
      have e : encB ((wireF l).set (wiV (n.fdiv 2) ((wireF l).length : Int)) x) = (encB (wireF l)).set (wiV (n.fdiv 2) ((encB (wireF l)).length : Int)) (.i .u8 (x.toNat : Int)) := by
        rw [encB_len]; simp [encB, List.map_set]
      rw [hwb, e, ← hwe]
      rfl
    · have hwb : wireB l n x = wireF l := by unfold wireB; rw [if_neg hb]
      repeat refine seq_on ?_
      rw [hwb, ← hwe]
      rfl


theorem feedU_cons (c : Chk) (out : List UInt8) (x : UInt8) (r : List UInt8) (i : Nat) : feedU c out (x :: r) i = if c.ph = 4 then ⟨c, out, i, 0⟩
    else if c.ph = 1 then feedU (dataC c) (out ++ [x]) r (i + 1)
    else if (stepC c x).2 ≠ 0 then ⟨.zero, [], 0, (stepC c x).2⟩ else feedU (stepC c x).1 out r (i + 1) := rfl
theorem feedU_four {c : Chk} (h : c.ph = 4) (out r : List UInt8) (i : Nat) : feedU c out r i = ⟨c, out, i, 0⟩ := by
  cases r with
  | nil => rfl
  | cons y r => rw [feedU_cons, if_pos h]
theorem feedU_app : ∀ (b r : List UInt8) (c : Chk) (out : List UInt8) (i : Nat), feedU c out (b ++ r) i = if (feedU c out b i).e ≠ 0 then feedU c out b i else feedU (feedU c out b i).c (feedU c out b i).out r (feedU c out b i).n
  | [], r, c, out, i => rfl
  | x :: b, r, c, out, i => by
    rw [List.cons_append, feedU_cons c out x (b ++ r), feedU_cons c out x b]
    by_cases h4 : c.ph = 4
    · rw [if_pos h4, if_pos h4, if_neg (by simp), feedU_four h4]
    · rw [if_neg h4, if_neg h4]
      by_cases h1 : c.ph = 1
      · rw [if_pos h1, if_pos h1]
        exact feedU_app b r _ _ _
      · rw [if_neg h1, if_neg h1]
        by_cases h2 : (stepC c x).2 ≠ 0
        · rw [if_pos h2, if_pos h2, if_pos h2]
        · rw [if_neg h2, if_neg h2]
          exact feedU_app b r _ _ _
theorem feedU_n : ∀ (b : List UInt8) (c : Chk) (out : List UInt8) (i : Nat), (feedU c out b i).n ≤ i + b.length
  | [], _, _, _ => Nat.le_refl _
  | x :: b, c, out, i => by
    unfold feedU
    split
    · simp only; omega
    · split
      · have := feedU_n b (dataC c) (out ++ [x]) (i + 1); simp only [List.length_cons]; omega
      · split
        · simp
        · have := feedU_n b (stepC c x).1 out (i + 1); simp only [List.length_cons]; omega

theorem torn {W : List UInt8} {c : Chk} {o : List UInt8} (h : feedU .zero [] W 0 = ⟨c, o, W.length, 0⟩) {k : Nat} (hk : k < W.length) : decF (W.take k) = ⟨[], 0, 4⟩ := by
  have ha := feedU_app (W.take k) (W.drop k) .zero [] 0
  rw [List.take_append_drop, h] at ha
  have hn := feedU_n (W.take k) .zero [] 0
  rw [decF_U]
  generalize feedU .zero [] (W.take k) 0 = x at ha hn
  have hl : (W.take k).length = k := by simp; omega
  rw [hl] at hn
  by_cases he : x.e ≠ 0
  · rw [if_pos he] at ha
    rw [← ha] at he
    exact absurd rfl he
  · rw [if_neg he] at ha ⊢
    by_cases h4 : x.c.ph = 4
    · have : feedU x.c x.out (W.drop k) x.n = ⟨x.c, x.out, x.n, 0⟩ := by
        cases W.drop k with
        | nil => rfl
        | cons y r => simp [feedU, h4]
      rw [this] at ha
      have := congrArg FeedR.n ha
      simp only at this
      omega
    · rw [if_pos h4]

structure PairOk (p : List UInt8 × List UInt8) : Prop where
  e : p.1 ∈ exts
  d0 : p.2 ≠ []
  d : p.2.length ≤ 20
theorem exts_ok {e : List UInt8} (h : e ∈ exts) : ExtK e ∧ e.length ≤ 4 := by
  simp only [exts, List.mem_cons, List.not_mem_nil, or_false] at h
  rcases h with rfl | rfl | rfl | rfl | rfl
  · exact ⟨⟨.inl rfl, by decide⟩, by decide⟩
  · exact ⟨⟨.inl rfl, by decide⟩, by decide⟩
  · exact ⟨⟨.inr ⟨_, rfl, by decide⟩, by decide⟩, by decide⟩
  · exact ⟨⟨.inr ⟨_, rfl, by decide⟩, by decide⟩, by decide⟩
  · exact ⟨⟨.inr ⟨_, rfl, by decide⟩, by decide⟩, by decide⟩
def Lines (o : List UInt8) : Prop := ∃ cs : List (List UInt8 × List UInt8), (∀ p, p ∈ cs → PairOk p) ∧ o = (cs.map fun p => lineW p.1 p.2).flatten
theorem step_lines {l : List Int} {i : Nat} {o : List UInt8} (h : Lines o) : Lines (wireStep l i o).2 := by
  obtain ⟨cs, h1, rfl⟩ := h
  have hb := bytes_len l i 20 (by decide)
  unfold wireStep
  split
  · exact ⟨cs, h1, rfl⟩
  · rename_i h0
    refine ⟨cs ++ [(ofF l (bytesF l i 20).2 exts, (bytesF l i 20).1)], fun p hp => ?_, by simp⟩
    rcases List.mem_append.1 hp with hp | hp
    · exact h1 p hp
    · simp at hp; subst hp
      exact ⟨ofF_mem _ _ _ (by decide), h0, by simp only; omega⟩
theorem loop_lines (l : List Int) : ∀ (k i : Nat) (o : List UInt8), Lines o → Lines (wireLoop l k i o).2
  | 0, _, _, h => h
  | k + 1, i, o, h => by
    unfold wireLoop
    split
    · exact loop_lines l k _ _ (step_lines h)
    · exact h
theorem feedU_lines (rest : List UInt8) : ∀ (cs : List (List UInt8 × List UInt8)) (out : List UInt8) (i : Nat), (∀ p, p ∈ cs → PairOk p) →
    feedU .zero out ((cs.map fun p => lineW p.1 p.2).flatten ++ rest) i = feedU .zero (out ++ (cs.map (·.2)).flatten) rest (i + (cs.map fun p => lineW p.1 p.2).flatten.length)
  | [], out, i, _ => by simp
  | p :: cs, out, i, h => by
    obtain ⟨he, hd0, hd⟩ := h p (by simp)
    obtain ⟨h1, h2⟩ := exts_ok he
    have := digs_len16 p.2.length (by omega)
    have hds : (digs 16 p.2.length).length ≤ 2 := by
      have := digs_small p.2.length (by omega)
      unfold printF at this
      rwa [if_neg (by omega), Int.toNat_natCast] at this
    simp only [List.map_cons, List.flatten_cons, List.append_assoc]
    rw [feedU_chunk p.1 p.2 out _ i hd0 (by omega) h1 (by omega), feedU_lines rest cs _ _ fun q hq => h q (by simp [hq])]
    simp only [List.append_assoc, List.length_append]
    rw [Nat.add_assoc]

theorem last_ok {x : List UInt8} (h : x ∈ lasts) : ∃ w e, x = w ++ e ∧ (w = [48] ∨ w = [48, 48, 48]) ∧ ExtK e ∧ e.length ≤ 120 := by
  simp only [lasts, List.mem_cons, List.not_mem_nil, or_false] at h
  rcases h with rfl | rfl | rfl
  · exact ⟨[48], [], rfl, .inl rfl, ⟨.inl rfl, by decide⟩, by decide⟩
  · exact ⟨[48, 48, 48], [], rfl, .inr rfl, ⟨.inl rfl, by decide⟩, by decide⟩
  · exact ⟨[48], [59, 108, 97, 115, 116], rfl, .inl rfl, ⟨.inr ⟨_, rfl, by decide⟩, by decide⟩, by decide⟩
theorem trl_ok {x : List UInt8} (h : x ∈ trls) : ∃ ts, x = trLines ts ∧ (∀ t, t ∈ ts → t ≠ [] ∧ t.length ≤ 128 ∧ (∀ x, x ∈ t → x ≠ 13 ∧ x ≠ 10) ∧ (fparseF t).2 = 0) ∧ ((trLines ts).length : Int) + 2 ≤ 1024 := by
  simp only [trls, List.mem_cons, List.not_mem_nil, or_false] at h
  rcases h with rfl | rfl | rfl | rfl
  · exact ⟨[], rfl, (by intro t ht; cases ht), by decide⟩
  · exact ⟨[], rfl, (by intro t ht; cases ht), by decide⟩
  · exact ⟨[[65, 58, 32, 98]], rfl, by decide, by decide⟩
  · exact ⟨[[65, 58, 32, 98], [67, 58, 100]], rfl, by decide, by decide⟩

theorem feed_wire (l : List Int) : ∃ c o, feedU .zero [] (wireF l) 0 = ⟨c, o, (wireF l).length, 0⟩ ∧ c.ph = 4 := by
  obtain ⟨cs, h1, h2⟩ := loop_lines l l.length 0 [] ⟨[], (by intro p hp; cases hp), rfl⟩
  obtain ⟨w, e, h3, h4, h5, h6⟩ := last_ok (ofF_mem l (wireLoop l l.length 0 []).1 lasts (by decide))
  obtain ⟨ts, h7, h8, h9⟩ := trl_ok (ofF_mem l (nxt l (wireLoop l l.length 0 []).1) trls (by decide))
  have hW : wireF l = (cs.map fun p => lineW p.1 p.2).flatten ++ ((w ++ e) ++ 13 :: 10 :: (trLines ts ++ 13 :: 10 :: [])) := by
    unfold wireF
    simp only
    rw [h2, h3, h7]
    simp
  have := feedU_last w e ([] ++ (cs.map (·.2)).flatten) [] ts (0 + (cs.map fun p => lineW p.1 p.2).flatten.length) h4 h5 h6 h8 h9
  refine ⟨⟨4, 0, ((trLines ts).length : Int) + 2, []⟩, [] ++ (cs.map (·.2)).flatten, ?_, rfl⟩
  rw [hW, feedU_lines _ cs [] 0 h1, this]
  simp only [FeedR.mk.injEq, true_and, and_true, List.length_append, List.length_cons, List.length_nil]
  omega
theorem dec_wire (l : List Int) : ∃ o, decF (wireF l) = ⟨o, (wireF l).length, 0⟩ := by
  obtain ⟨c, o, h, h4⟩ := feed_wire l
  refine ⟨o, ?_⟩
  rw [decF_U, h]
  simp [h4]

theorem law31 (l : List Int) (n : Int) : Does (CN G) 9 [ints l, .i .i64 n] [.b true] := by
  have hw := wireD (G := gN G) l (l.take 80) rfl 0 0 ⟨by decide, by decide⟩
  have hb : wireB (l.take 80) 0 0 = wireF (l.take 80) := by
    unfold wireB
    rw [if_neg (by decide)]
  rw [hb] at hw
  obtain ⟨o, hd⟩ := dec_wire (l.take 80)
  obtain ⟨c, o', hf, _⟩ := feed_wire (l.take 80)
  have hl := wireF_len (l.take 80)
  have hl1 : 1 ≤ (wireF (l.take 80)).length := by unfold wireF; simp only [List.length_append, List.length_cons]; omega
  generalize wireF (l.take 80) = W at hw hd hf hl hl1
  have hWl := encB_len W
  have h1 := decP (G := gN G) W (by omega)
  rw [hd] at h1
  have hwi := withinV (G := gN G) n ((encB W).length : Int) (by omega)
  have hlt := wiV_lt n ((encB W).length : Int) (by omega)
  generalize hk : wiV n ((encB W).length : Int) = k at hwi hlt
  have h2 := decP (G := gN G) (W.take k) (by simp; omega)
  rw [torn hf (by omega)] at h2
  rw [← encB_take] at h2
  refine Does.mk (n := 46) Tryd.func9 rfl rfl rfl (Nat.le_of_ble_eq_true rfl) ?_
  refine call_by hw ?_
  refine call_by h1 ?_
  refine call_by hwi ?_
  refine bnd k rfl (by omega) ?_
  refine call_by h2 ?_
  refine cmp_yes rfl ?_
  refine cmp_yes (by rw [hWl]) ?_
  refine cmp_yes rfl ?_
  refine call_by awake09 ?_
  rfl
end Go.Proofs.YtiokdhklhnhfhaaDoor

