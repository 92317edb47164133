import Derived.Test.YtiokdhklhnhfhaaDoorMt
import Derived.Test.YtiokdhklhnhfhaaDoorMs
namespace Go.Proofs.YtiokdhklhnhfhaaDoor
variable {G : List Go.Eng.Gl}
open Go.Eng
attribute [local irreducible] Hold
set_option maxRecDepth 100000

/-- A piece fed with room, against the whole. -/
theorem feedG_run (room : Int) (rest : List UInt8) (o1 : List UInt8) (i : Nat) : ∀ (b : List UInt8) (c : Chk) (o2 : List UInt8) (j : Nat),
    ((feedG room c o2 b j).e ≠ 0 → (feedU c (o1 ++ o2) (b ++ rest) (i + j)).e = (feedG room c o2 b j).e) ∧
    ((feedG room c o2 b j).e = 0 → j ≤ (feedG room c o2 b j).n ∧ (feedG room c o2 b j).n ≤ j + b.length ∧ (feedG room c o2 b j).out.length + j ≤ o2.length + (feedG room c o2 b j).n ∧
      feedU c (o1 ++ o2) (b ++ rest) (i + j) = feedU (feedG room c o2 b j).c (o1 ++ (feedG room c o2 b j).out) ((b ++ rest).drop ((feedG room c o2 b j).n - j)) (i + (feedG room c o2 b j).n))
  | [], c, o2, j => ⟨fun h => absurd rfl h, fun _ => ⟨Nat.le_refl _, Nat.le_refl _, by simp [feedG], by simp [feedG]⟩⟩
  | x :: b, c, o2, j => by
    have e : feedG room c o2 (x :: b) j = if c.ph = 4 ∨ c.ph = 1 ∧ room ≤ o2.length then ⟨c, o2, j, 0⟩
      else if c.ph = 1 then feedG room (dataC c) (o2 ++ [x]) b (j + 1)
      else if (stepC c x).2 ≠ 0 then ⟨.zero, [], 0, (stepC c x).2⟩ else feedG room (stepC c x).1 o2 b (j + 1) := rfl
    rw [e]
    by_cases hs : c.ph = 4 ∨ c.ph = 1 ∧ room ≤ o2.length
    · rw [if_pos hs]
      exact ⟨fun h => absurd rfl h, fun _ => ⟨Nat.le_refl _, by simp only; omega, by simp only; omega, by simp⟩⟩
    · have h4 : ¬ c.ph = 4 := fun h => hs (.inl h)
      rw [if_neg hs, List.cons_append, feedU_cons, if_neg h4]
      have hd : ∀ n, j + 1 ≤ n → (x :: (b ++ rest)).drop (n - j) = (b ++ rest).drop (n - (j + 1)) := by
        intro n hn
        rw [show n - j = (n - (j + 1)) + 1 by omega, List.drop_succ_cons]
      by_cases h1 : c.ph = 1
      · rw [if_pos h1, if_pos h1]
        obtain ⟨r1, r2⟩ := feedG_run room rest o1 i b (dataC c) (o2 ++ [x]) (j + 1)
        generalize feedG room (dataC c) (o2 ++ [x]) b (j + 1) = q at r1 r2
        rw [← List.append_assoc, show i + (j + 1) = i + j + 1 by omega] at r1 r2
        refine ⟨r1, fun h => ?_⟩
        obtain ⟨a1, a2, a3, a4⟩ := r2 h
        simp only [List.length_append, List.length_cons, List.length_nil] at a3 ⊢
        exact ⟨by omega, by omega, by omega, by rw [a4, hd q.n a1]⟩
      · rw [if_neg h1, if_neg h1]
        by_cases h2 : (stepC c x).2 ≠ 0
        · rw [if_pos h2, if_pos h2]
          exact ⟨fun _ => rfl, fun h => absurd h h2⟩
        · rw [if_neg h2, if_neg h2]
          obtain ⟨r1, r2⟩ := feedG_run room rest o1 i b (stepC c x).1 o2 (j + 1)
          generalize feedG room (stepC c x).1 o2 b (j + 1) = q at r1 r2
          rw [show i + (j + 1) = i + j + 1 by omega] at r1 r2
          refine ⟨r1, fun h => ?_⟩
          obtain ⟨a1, a2, a3, a4⟩ := r2 h
          simp only [List.length_cons]
          exact ⟨by omega, by omega, by omega, by rw [a4, hd q.n a1]⟩

/-- At least one byte is taken. -/
theorem feedG_one {room : Int} {c : Chk} {b : List UInt8} (h4 : c.ph ≠ 4) (hr : 1 ≤ room) (hb : b ≠ []) (he : (feedG room c [] b 0).e = 0) : 1 ≤ (feedG room c [] b 0).n := by
  cases b with
  | nil => exact absurd rfl hb
  | cons x b =>
    have e : feedG room c [] (x :: b) 0 = if c.ph = 4 ∨ c.ph = 1 ∧ room ≤ (([] : List UInt8).length : Int) then ⟨c, [], 0, 0⟩
      else if c.ph = 1 then feedG room (dataC c) ([] ++ [x]) b 1
      else if (stepC c x).2 ≠ 0 then ⟨.zero, [], 0, (stepC c x).2⟩ else feedG room (stepC c x).1 [] b 1 := rfl
    rw [if_neg (by rintro (h | ⟨_, h⟩); exact h4 h; simp at h; omega)] at e
    rw [e] at he ⊢
    by_cases h1 : c.ph = 1
    · rw [if_pos h1] at he ⊢
      exact ((feedG_run room [] [] 0 b _ _ 1).2 he).1
    · rw [if_neg h1] at he ⊢
      by_cases h2 : (stepC c x).2 ≠ 0
      · rw [if_pos h2] at he; exact absurd he h2
      · rw [if_neg h2] at he ⊢
        exact ((feedG_run room [] [] 0 b _ _ 1).2 he).1

def f28 (p : List Int) (b : List UInt8) (r : DecR) (k : Nat) (i : Nat) (c : Chk) (o : List UInt8) : AS :=
  ⟨[(3, .d (ints p)), (9, .d (.sl 1 (encB b))), (10, .d (.sl 1 (encB r.out))), (11, .d (.i .i64 (r.n : Int))), (12, .d (.i .i64 r.e)), (13, .op 16 0 0), (14, .os 17), (15, .d (.i .i64 (i : Int))), (16, .d (.i .i64 (k : Int)))],
   [(16, some (.box [.d (.i .i64 c.ph), .d (.i .i64 c.lf), .d (.i .i64 c.tr), .d (.sl 1 (encB c.ln))])), (17, some (.buf 1 (encB o)))], 2⟩

theorem law28 (l : List Int) (n : Int) (x : UInt8) (p : List Int) (hn : I64 n) : Does (CN G) 6 [ints l, .i .i64 n, .i .u8 (x.toNat : Int), ints p] [.b true] := by
  have hw := wireD (G := gN G) l (l.take 80) rfl n x hn
  have hwl := wireB_len (l.take 80) n x
  generalize wireB (l.take 80) n x = b at hw hwl
  have hbl := encB_len b
  have hd := decP (G := gN G) b (by omega)
  have hdU := decF_U b
  generalize decF b = r at hd hdU
  have hlp : (p.map (D.i .i64)).length = p.length := by simp
  refine Does.mk (n := 125) Tryd.func6 rfl rfl rfl (Nat.le_of_ble_eq_true rfl) ?_
  refine call_by hw ?_
  refine call_by hd ?_
  apply seq_inv (fun y : Nat × Nat × Chk × List UInt8 => y.2.1 ≤ b.length ∧ y.2.2.1.Ok ∧ y.2.2.2.length ≤ y.2.1 ∧ feedU .zero [] b 0 = feedU y.2.2.1 y.2.2.2 (b.drop y.2.1) y.2.1 ∧ (y.2.2.1.ph = 4 ∨ y.2.1 = b.length)) (fun y => f28 p b r y.1 y.2.1 y.2.2.1 y.2.2.2)
  · repeat refine seq_on ?_
    apply loop_inv (fun y : Nat × Nat × Chk × List UInt8 => y.1 ≤ y.2.1 ∧ y.2.1 ≤ b.length ∧ y.2.2.1.Ok ∧ y.2.2.2.length ≤ y.2.1 ∧ feedU .zero [] b 0 = feedU y.2.2.1 y.2.2.2 (b.drop y.2.1) y.2.1) (fun y => f28 p b r y.1 y.2.1 y.2.2.1 y.2.2.2) (fun y => b.length - y.2.1) (0, 0, .zero, []) ⟨by simp, by simp, zero_ok, by simp, by simp⟩ [(16, _), (17, _)]
    · simp only [f28, Chk.zero]
      ((repeat' constructor) <;> refine hold ?_ <;> first | with_reducible rfl | (congr 1 <;> omega) | (congr 1 <;> simp; done) | (simp; done) | exact encB_snoc _ _ | skip)
    · rintro ⟨k, i, c, o⟩ ⟨hk, hi, hc, ho, hf⟩
      simp only at hk hi hc ho hf
      simp only [f28]
      repeat refine seq_on ?_
      refine cmp_dec (fun h => ?_) (fun h => ?_)
      · rw [hbl] at h
        have hi' : i < b.length := by omega
        refine cmp_dec (fun h4 => ?_) (fun h4 => ?_)
        · have h4 : c.ph ≠ 4 := h4
          apply seq_inv (fun m : Int => 1 ≤ m ∧ m ≤ 9) (fun m => ⟨(f28 p b r k i c o).env ++ [(17, .d (.i .i64 m))], (f28 p b r k i c o).own, 2⟩)
          · refine cmp_dec (fun h2 => ?_) (fun h2 => ?_)
            · rw [hlp] at h2
              have hwi := withinV (G := gN G) (p.getD k 0) 9 (by decide)
              have hwl := wiV_lt (p.getD k 0) 9 (by decide)
              repeat refine seq_on ?_
              refine Eng.get_at k (by omega) (getInts (by omega)) ?_
              refine call_by hwi ?_
              refine ar ⟨by omega, by omega⟩ ?_
              apply cut_inv (1 + (wiV (p.getD k 0) 9 : Int)) [] ⟨by omega, by omega⟩
              simp only [f28]
              ((repeat' constructor) <;> refine hold ?_ <;> first | with_reducible rfl | (congr 1 <;> omega) | (congr 1 <;> simp; done) | (simp; done) | exact encB_snoc _ _ | skip)
            · repeat refine seq_on ?_
              apply cut_inv 1 [] ⟨by omega, by omega⟩
              simp only [f28]
              ((repeat' constructor) <;> refine hold ?_ <;> first | with_reducible rfl | (congr 1 <;> omega) | (congr 1 <;> simp; done) | (simp; done) | exact encB_snoc _ _ | skip)
          · rintro m ⟨hm1, hm2⟩
            simp only [f28, List.cons_append, List.nil_append]
            obtain ⟨w, rfl⟩ : ∃ w : Nat, m = w := ⟨m.toNat, by omega⟩
            repeat refine seq_on ?_
            refine ar ⟨by omega, by omega⟩ ?_
            refine ar ⟨by omega, by omega⟩ ?_
            obtain ⟨e, he⟩ : ∃ e : Nat, e = min (i + w) b.length := ⟨_, rfl⟩
            have hpl : ((b.take e).drop i).length = e - i := by simp; omega
            have hcat : (b.take e).drop i ++ b.drop e = b.drop i := by
              conv => rhs; rw [← List.take_append_drop e b, List.drop_append_of_le_length (by simp; omega)]
            have hrm : 0 ≤ ((k : Int) + 1).tmod 3 ∧ ((k : Int) + 1).tmod 3 < 3 := ⟨Int.tmod_nonneg _ (by omega), Int.tmod_lt_of_pos _ (by decide)⟩
            have hP := feedP (G := gN G) c ((b.take e).drop i) (1 + ((k : Int) + 1).tmod 3) hc (by omega) ⟨by omega, by omega⟩
            have hok := feedG_ok (1 + ((k : Int) + 1).tmod 3) ((b.take e).drop i) c [] 0 hc
            obtain ⟨run1, run2⟩ := feedG_run (1 + ((k : Int) + 1).tmod 3) (b.drop e) o i ((b.take e).drop i) c [] 0
            have hone := feedG_one (room := 1 + ((k : Int) + 1).tmod 3) (b := (b.take e).drop i) h4 (by omega) (by intro hz; rw [hz] at hpl; simp at hpl; omega)
            generalize feedG (1 + ((k : Int) + 1).tmod 3) c [] ((b.take e).drop i) 0 = q at hP hok run1 run2 hone
            simp only [hcat, Nat.add_zero, List.append_nil, Nat.sub_zero, List.length_nil, Nat.zero_add] at run1 run2 hok
            rw [← hf] at run1 run2
            rw [← encB_drop, ← encB_take] at hP
            rw [hpl] at hok run2
            refine bnd e (by omega) (by omega) ?_
            refine bnd i rfl (by omega) ?_
            refine div_ok (by omega) ?_
            refine ar ⟨by omega, by omega⟩ ?_
            refine call_by hP ?_
            (refine ⟨draw_ok (by kernel_rfl), ?_⟩; repeat refine seq_on ?_)
            refine cmp_dec (fun hq => ?_) (fun hq => ?_)
            · have hre : q.e = r.e := by
                have h5 := run1 hq
                rw [hdU, h5, if_pos hq]
              repeat refine seq_on ?_
              refine cmp_yes hre ?_
              refine call_by awake09 ?_
              rfl
            · have hq0 : q.e = 0 := by simpa using hq
              obtain ⟨g1, g2, g3, g4⟩ := run2 hq0
              have g5 := hone hq0
              have hql := encB_len q.out
              repeat refine seq_on ?_
              refine cmp_no (by omega) ?_
              refine cmp_no (by omega) ?_
              refine cmp_no (by omega) ?_
              repeat refine seq_on ?_
              refine app_ok (by simp only [encB_len]; omega) ?_
              refine ar ⟨by omega, by omega⟩ ?_
              (refine ⟨draw_ok (by kernel_rfl), ?_⟩; repeat refine seq_on ?_)
              have hnew : feedU .zero [] b 0 = feedU q.c (o ++ q.out) (b.drop (i + q.n)) (i + q.n) := by rw [g4, List.drop_drop]
              apply again (k + 1, i + q.n, q.c, o ++ q.out) [(16, _), (17, _)] ⟨by simp only; omega, by simp only; omega, hok.1, by simp only [List.length_append]; omega, hnew⟩ (by simp only; omega)
              simp only [f28]
              ((repeat' constructor) <;> refine hold ?_ <;> first | with_reducible rfl | (congr 1 <;> omega) | (congr 1 <;> simp; done) | (simp; done) | exact encB_snoc _ _ | skip)
              all_goals rw [encB_app]
        · repeat refine seq_on ?_
          apply cut_inv (k, i, c, o) [(16, _), (17, _)] ⟨hi, hc, ho, hf, .inl (by simpa using h4)⟩
          simp only [f28]
          ((repeat' constructor) <;> refine hold ?_ <;> first | with_reducible rfl | (congr 1 <;> omega) | (congr 1 <;> simp; done) | (simp; done) | exact encB_snoc _ _ | skip)
      · rw [hbl] at h
        repeat refine seq_on ?_
        apply cut_inv (k, i, c, o) [(16, _), (17, _)] ⟨hi, hc, ho, hf, .inr (by simp only; omega)⟩
        simp only [f28]
        ((repeat' constructor) <;> refine hold ?_ <;> first | with_reducible rfl | (congr 1 <;> omega) | (congr 1 <;> simp; done) | (simp; done) | exact encB_snoc _ _ | skip)
  · rintro ⟨k, i, c, o⟩ ⟨hi, hc, ho, hf, hend⟩
    simp only at hi hc ho hf hend
    simp only [f28]
    repeat refine seq_on ?_
    refine cmp_dec (fun h4 => ?_) (fun h4 => ?_)
    · have h4 : c.ph ≠ 4 := h4
      have hib : i = b.length := hend.resolve_left h4
      have hr : r = ⟨[], 0, 4⟩ := by
        have e1 : feedU c o [] b.length = ⟨c, o, b.length, 0⟩ := rfl
        rw [hdU, hf, hib, List.drop_length, e1, if_neg (by simp), if_pos h4]
      subst hr
      repeat refine seq_on ?_
      refine cmp_yes rfl ?_
      refine call_by awake09 ?_
      rfl
    · have h4 : c.ph = 4 := by simpa using h4
      have hr : r = ⟨o, i, 0⟩ := by
        rw [hdU, hf, feedU_four h4]
        simp only [ne_eq, not_true, if_false, h4]
      subst hr
      repeat refine seq_on ?_
      refine cmp_yes rfl ?_
      refine cmp_yes rfl ?_
      refine bytes_is o rfl ?_
      refine bytes_is o rfl ?_
      refine cmp_yes rfl ?_
      refine call_by awake09 ?_
      rfl
end Go.Proofs.YtiokdhklhnhfhaaDoor

