import Derived.Test.YtiokdhklhnhfhaaDoorMq
namespace Go.Proofs.YtiokdhklhnhfhaaDoor
variable {G : List Go.Eng.Gl}
open Go.Eng
attribute [local irreducible] Hold
set_option maxRecDepth 100000

theorem feedG_ok (room : Int) : ∀ (b : List UInt8) (c : Chk) (out : List UInt8) (i : Nat), c.Ok → (feedG room c out b i).c.Ok ∧ (feedG room c out b i).n ≤ i + b.length
  | [], _, _, _, h => ⟨h, Nat.le_refl _⟩
  | x :: r, c, out, i, h => by
    unfold feedG
    split
    · exact ⟨h, by simp only; omega⟩
    · split
      · rename_i h1
        have := feedG_ok room r (dataC c) (out ++ [x]) (i + 1) (dataC_ok h h1)
        exact ⟨this.1, by simp only [List.length_cons]; omega⟩
      · rename_i h1
        split
        · exact ⟨zero_ok, by simp⟩
        · rename_i h2
          have := feedG_ok room r (stepC c x).1 out (i + 1) (stepC_ok h h1 (by simpa using h2))
          exact ⟨this.1, by simp only [List.length_cons]; omega⟩

def f27 (l4 l5 : List Int) (b : List UInt8) (c : Chk) (i : Nat) : AS :=
  ⟨[(4, .d (ints l4)), (5, .d (ints l5)), (15, .d (.sl 1 (encB b))), (16, .op 16 0 0), (17, .op 17 0 0), (18, .d (.i .i64 (i : Int)))],
   [(16, some (.box [.d (.i .i64 c.ph), .d (.i .i64 c.lf), .d (.i .i64 c.tr), .d (.sl 1 (encB c.ln))])), (17, some (.box [.d (.i .i64 c.ph), .d (.i .i64 c.lf), .d (.i .i64 c.tr), .d (.sl 1 (encB c.ln))]))], 2⟩

theorem law27 (l : List Int) (n : Int) (x : UInt8) (raw : List UInt8) (cuts rooms : List Int) (wild : Bool) (hn : I64 n) : Does (CN G) 5 [ints l, .i .i64 n, .i .u8 (x.toNat : Int), .sl 1 (encB raw), ints cuts, ints rooms, .b wild] [.b true] := by
  have hw := wireC (G := gN G) l n x hn
  have hwl := wireB_len (l.take 80) n x
  generalize wireB (l.take 80) n x = b at hw hwl
  have hs' := short35 (G := gN G) raw 400
  refine Does.mk (n := 125) Tryd.func5 rfl rfl rfl (Nat.le_of_ble_eq_true rfl) ?_
  refine call_alt (callh [] hw ?_ ?_)
  · ((repeat' constructor) <;> refine hold ?_ <;> first | with_reducible rfl | (congr 1 <;> omega) | (congr 1 <;> simp; done) | (simp; done) | exact encB_snoc _ _ | skip)
  apply seq_inv (fun y : List UInt8 => y.length ≤ 500) (fun y => ⟨[(4, .d (ints cuts)), (5, .d (ints rooms)), (15, .d (.sl 1 (encB y)))], [], 2⟩)
  · cases wild with
    | false =>
      repeat refine seq_on ?_
      apply cut_inv b [] (by omega)
      ((repeat' constructor) <;> refine hold ?_ <;> first | with_reducible rfl | (congr 1 <;> omega) | (congr 1 <;> simp; done) | (simp; done) | exact encB_snoc _ _ | skip)
    | true =>
      repeat refine seq_on ?_
      refine call_by hs' ?_
      apply cut_inv (raw.take 400) [] (by simp; omega)
      ((repeat' constructor) <;> refine hold ?_ <;> first | with_reducible rfl | (congr 1 <;> omega) | (congr 1 <;> simp; done) | (simp; done) | exact encB_snoc _ _ | skip)
  · intro y hy
    repeat refine seq_on ?_
    apply loop_inv (fun s : Nat × List UInt8 × Chk => s.1 ≤ 40 ∧ s.2.1.length ≤ 500 ∧ s.2.2.Ok) (fun s => f27 cuts rooms s.2.1 s.2.2 s.1) (fun s => 40 - s.1) (0, y, .zero) ⟨by simp, hy, zero_ok⟩ [(16, _), (17, _)]
    · simp only [f27, Chk.zero]
      ((repeat' constructor) <;> refine hold ?_ <;> first | with_reducible rfl | (congr 1 <;> omega) | (congr 1 <;> simp; done) | (simp; done) | exact encB_snoc _ _ | skip)
    · rintro ⟨i, b, c⟩ ⟨hi, hb, hc⟩
      simp only at hi hb hc
      simp only [f27]
      repeat refine seq_on ?_
      refine cmp_dec (fun h => ?_) (fun h => ?_)
      · refine cmp_dec (fun h1 => ?_) (fun h1 => ?_)
        · have hbl := encB_len b
          have hb1 : 1 ≤ b.length := by omega
          have hlc : (cuts.map (D.i .i64)).length = cuts.length := by simp
          have hlr : (rooms.map (D.i .i64)).length = rooms.length := by simp
          refine seq_on ?_
          apply seq_inv (fun m : Int => 1 ≤ m ∧ m ≤ b.length) (fun m => ⟨(f27 cuts rooms b c i).env ++ [(19, .d (.i .i64 m)), (20, .d (.i .i64 1000))], (f27 cuts rooms b c i).own, 2⟩)
          · refine cmp_dec (fun h2 => ?_) (fun h2 => ?_)
            · rw [hlc] at h2
              have hwi := withinV (G := gN G) (cuts.getD i 0) ((encB b).length : Int) (by omega)
              have hwl := wiV_lt (cuts.getD i 0) ((encB b).length : Int) (by omega)
              repeat refine seq_on ?_
              refine Eng.get_at i (by omega) (getInts (by omega)) ?_
              refine call_by hwi ?_
              refine ar ⟨by omega, by omega⟩ ?_
              apply cut_inv (1 + (wiV (cuts.getD i 0) ((encB b).length : Int) : Int)) [] ⟨by omega, by omega⟩
              simp only [f27]
              ((repeat' constructor) <;> refine hold ?_ <;> first | with_reducible rfl | (congr 1 <;> omega) | (congr 1 <;> simp; done) | (simp; done) | exact encB_snoc _ _ | skip)
            · repeat refine seq_on ?_
              apply cut_inv (b.length : Int) [] ⟨by omega, by omega⟩
              simp only [f27]
              ((repeat' constructor) <;> refine hold ?_ <;> first | with_reducible rfl | (congr 1 <;> omega) | (congr 1 <;> simp; done) | (simp; done) | exact encB_snoc _ _ | skip)
              all_goals (rw [encB_len])
          · rintro m ⟨hm1, hm2⟩
            simp only [f27, List.cons_append, List.nil_append]
            apply seq_inv (fun r : Int => -1 ≤ r ∧ r ≤ 1000) (fun r => ⟨(f27 cuts rooms b c i).env ++ [(19, .d (.i .i64 m)), (20, .d (.i .i64 r))], (f27 cuts rooms b c i).own, 2⟩)
            · refine cmp_dec (fun h2 => ?_) (fun h2 => ?_)
              · rw [hlr] at h2
                have hwi := withinV (G := gN G) (rooms.getD i 0) 12 (by decide)
                have hwl := wiV_lt (rooms.getD i 0) 12 (by decide)
                repeat refine seq_on ?_
                refine Eng.get_at i (by omega) (getInts (by omega)) ?_
                refine call_by hwi ?_
                refine ar ⟨by omega, by omega⟩ ?_
                apply cut_inv ((wiV (rooms.getD i 0) 12 : Int) - 1) [] ⟨by omega, by omega⟩
                simp only [f27]
                ((repeat' constructor) <;> refine hold ?_ <;> first | with_reducible rfl | (congr 1 <;> omega) | (congr 1 <;> simp; done) | (simp; done) | exact encB_snoc _ _ | skip)
              · repeat refine seq_on ?_
                apply cut_inv 1000 [] ⟨by omega, by omega⟩
                simp only [f27]
                ((repeat' constructor) <;> refine hold ?_ <;> first | with_reducible rfl | (congr 1 <;> omega) | (congr 1 <;> simp; done) | (simp; done) | exact encB_snoc _ _ | skip)
            · rintro r ⟨hr1, hr2⟩
              simp only [f27, List.cons_append, List.nil_append]
              obtain ⟨k, rfl⟩ : ∃ k : Nat, m = k := ⟨m.toNat, by omega⟩
              have htl : (b.take k).length = k := by simp; omega
              have hP := feedP (G := gN G) c (b.take k) r hc (by omega) ⟨by omega, by omega⟩
              have hR := feedR (G := gN G) c (b.take k) r hc (by omega) ⟨by omega, by omega⟩
              have hok := feedG_ok r (b.take k) c [] 0 hc
              generalize feedG r c [] (b.take k) 0 = q at hP hR hok
              have hsm := same27 (G := gN G) q.c
              rw [← encB_take] at hP hR
              rw [htl] at hok
              repeat refine seq_on ?_
              refine bnd k (by omega) (by omega) ?_
              refine call_by hP ?_
              (refine ⟨draw_ok (by kernel_rfl), ?_⟩; repeat refine seq_on ?_)
              refine bnd k (by omega) (by omega) ?_
              refine call_by hR ?_
              (refine ⟨draw_ok (by kernel_rfl), ?_⟩; repeat refine seq_on ?_)
              refine cmp_no (by simp) ?_
              refine cmp_no (by simp) ?_
              refine bytes_is q.out rfl ?_
              refine bytes_is q.out rfl ?_
              refine cmp_no (by simp) ?_
              refine call_by hsm ?_
              repeat refine seq_on ?_
              refine cmp_dec (fun he => ?_) (fun he => ?_)
              · repeat refine seq_on ?_
                refine call_by awake09 ?_
                rfl
              · repeat refine seq_on ?_
                refine bnd q.n rfl (by omega) ?_
                (refine ⟨draw_ok (by kernel_rfl), ?_⟩; repeat refine seq_on ?_)
                refine ar ⟨by omega, by omega⟩ ?_
                apply again (i + 1, b.drop q.n, q.c) [(16, _), (17, _)] ⟨by simp only; omega, by simp only [List.length_drop]; omega, hok.1⟩ (by simp only; omega)
                simp only [f27]
                ((repeat' constructor) <;> refine hold ?_ <;> first | with_reducible rfl | (congr 1 <;> omega) | (congr 1 <;> simp; done) | (simp; done) | exact encB_snoc _ _ | skip)
                all_goals rw [encB_drop]
        · repeat refine seq_on ?_
          refine call_by awake09 ?_
          rfl
      · repeat refine seq_on ?_
        refine call_by awake09 ?_
        rfl
end Go.Proofs.YtiokdhklhnhfhaaDoor

