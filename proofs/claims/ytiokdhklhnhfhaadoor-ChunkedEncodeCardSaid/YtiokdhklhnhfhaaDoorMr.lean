import Derived.Test.YtiokdhklhnhfhaaDoorMq
namespace Go.Proofs.YtiokdhklhnhfhaaDoor
variable {G : List Go.Eng.Gl}
open Go.Eng
attribute [local irreducible] Hold
set_option maxRecDepth 100000

theorem encChunk_len (b : List UInt8) (h : b.length ≤ 300) : (encChunk b).length ≤ 440 := by
  unfold encChunk
  split
  · simp
  · have h1 := digs_len16 b.length (by omega)
    have h2 : printF 16 (b.length : Int) = digs 16 b.length := by unfold printF; rw [if_neg (by omega), Int.toNat_natCast]
    rw [h2]
    simp only [List.length_append, List.length_cons, List.length_nil]; omega
theorem encF_len (q : List (List UInt8)) (h : ∀ b, b ∈ q → b.length ≤ 300) : (encF q).length ≤ q.length * 440 + 5 := by
  have : ∀ q : List (List UInt8), (∀ b, b ∈ q → b.length ≤ 300) → (q.map encChunk).flatten.length ≤ q.length * 440 := by
    intro q
    induction q with
    | nil => intro _; simp
    | cons b q ih =>
      intro h
      have h1 := encChunk_len b (h b (by simp))
      have h2 := ih fun x hx => h x (by simp [hx])
      simp only [List.map_cons, List.flatten_cons, List.length_append, List.length_cons]; omega
  have := this q h
  unfold encF
  simp only [List.length_append, List.length_cons, List.length_nil]; omega
theorem flat_len (q : List (List UInt8)) (h : ∀ b, b ∈ q → b.length ≤ 300) : q.flatten.length ≤ q.length * 300 := by
  induction q with
  | nil => simp
  | cons b q ih =>
    have h1 := h b (by simp)
    have h2 := ih fun x hx => h x (by simp [hx])
    simp only [List.flatten_cons, List.length_append, List.length_cons]; omega

theorem law30 (ps : List (List UInt8)) (more : List UInt8) : Does (CN G) 8 [rows ps, .sl 1 (encB more)] [.b true] := by
  generalize hq : (ps.take 10).map (·.take 300) = q
  have hql : q.length ≤ 10 ∧ q.length ≤ ps.length := by rw [← hq]; simp; omega
  have hqs : ∀ b, b ∈ q → b.length ≤ 300 := by
    intro b hb
    rw [← hq] at hb
    obtain ⟨x, _, rfl⟩ := List.mem_map.1 hb
    simp; omega
  have hqi : ∀ i (h : i < q.length) (h' : i < ps.length), q[i] = ps[i].take 300 := by
    intro i h h'
    subst hq
    simp
  have hqm : q.length = min 10 ps.length := by rw [← hq]; simp
  have hel := encF_len q hqs
  have hfl := flat_len q hqs
  have h1 := encP (G := G) q (by omega) (by omega)
  have h2 := encR (G := gN G) q (by omega) (by omega)
  have h4 := short35 (G := gN G) more 50
  have h3 : Does (CN G) 29 [.sl 1 (([] ++ encB (encF q)) ++ encB (more.take 50))] [.sl 1 (encB q.flatten), .i .i64 ((encF q).length : Int), .i .i64 0] := by
    have := decP (G := gN G) (encF q ++ more.take 50) (by simp; omega)
    rw [dec_enc q _ fun p hp => Nat.le_trans (hqs p hp) (by decide), ← encB_app] at this
    exact this
  refine Does.mk (n := 75) Tryd.func8 rfl rfl rfl (Nat.le_of_ble_eq_true rfl) ?_
  apply seq_inv (fun _ : Unit => True) (fun _ => ⟨[(1, .d (.sl 1 (encB more))), (5, .d (rows q)), (6, .d (.s q.flatten))], [], 2⟩)
  · repeat refine seq_on ?_
    apply loop_inv (fun i : Nat => i ≤ q.length) (fun i => ⟨[(0, .d (rows ps)), (1, .d (.sl 1 (encB more))), (5, .os 16), (6, .d (.s (q.take i).flatten)), (7, .d (.i .i64 (i : Int)))], [(16, some (.buf 1 ((q.take i).map fun b => .sl 1 (encB b))))], 2⟩) (fun i => q.length - i) 0 (by omega) [(16, _)]
    · ((repeat' constructor) <;> refine hold ?_ <;> first | with_reducible rfl | (congr 1 <;> omega) | (congr 1 <;> simp; done) | (simp; done) | exact encB_snoc _ _ | skip)
    · intro i hi
      unfold rows
      repeat refine seq_on ?_
      have hstop : ¬ (i < ps.length ∧ i < 10) → i = q.length := fun h => by omega
      refine cmp_dec (fun hlt => ?_) (fun hlt => ?_)
      · have hlt : i < ps.length := by simpa using hlt
        refine cmp_dec (fun h10 => ?_) (fun h10 => ?_)
        · have hiq : i < q.length := by omega
          have hsi := short35 (G := gN G) ps[i] 300
          rw [← hqi i hiq hlt] at hsi
          have hf := flat_take q i hiq
          have hfl' := flat_take_le q (i + 1)
          rw [hf, List.length_append] at hfl'
          repeat refine seq_on ?_
          refine Eng.get_at i rfl (x := .sl 1 (encB ps[i])) (by simp [hlt]) ?_
          refine call_by hsi ?_
          refine app_ok (by simp; omega) ?_
          repeat refine seq_on ?_
          refine idx i rfl (by simp; omega) ?_
          refine at_is (x := .sl 1 (encB q[i])) (by rw [List.getElem?_append_right (by simp; omega)]; simp [Nat.min_eq_left hi]) ?_
          refine bytes_is q[i] rfl ?_
          refine len_ok (by omega) ?_
          repeat refine seq_on ?_
          refine ar ⟨by omega, by omega⟩ ?_
          apply again (i + 1) [(16, _)] (by omega) (by omega)
          have hm : (q.take (i + 1)).map (fun b => D.sl 1 (encB b)) = (q.take i).map (fun b => D.sl 1 (encB b)) ++ [.sl 1 (encB q[i])] := by
            rw [List.take_succ_eq_append_getElem hiq, List.map_append, List.map_cons, List.map_nil]
          rw [hf, hm]
          ((repeat' constructor) <;> refine hold ?_ <;> first | with_reducible rfl | (congr 1 <;> omega) | (congr 1 <;> simp; done) | (simp; done) | exact encB_snoc _ _ | skip)
        · have := hstop (by omega)
          subst this
          rw [List.take_length]
          repeat refine seq_on ?_
          apply cut_inv () [] trivial
          ((repeat' constructor) <;> refine hold ?_ <;> first | with_reducible rfl | (congr 1 <;> omega) | (congr 1 <;> simp; done) | (simp; done) | exact encB_snoc _ _ | skip)
      · have := hstop (fun h => hlt (by simpa using h.1))
        subst this
        rw [List.take_length]
        repeat refine seq_on ?_
        apply cut_inv () [] trivial
        ((repeat' constructor) <;> refine hold ?_ <;> first | with_reducible rfl | (congr 1 <;> omega) | (congr 1 <;> simp; done) | (simp; done) | exact encB_snoc _ _ | skip)
  · rintro ⟨⟩ -
    repeat refine seq_on ?_
    refine call_by h1 ?_
    refine app_ok (by simp only [encB_len, List.length_nil]; omega) ?_
    refine call_by h4 ?_
    refine app_ok (by simp only [encB_len, List.length_append, List.length_nil, List.length_take]; omega) ?_
    refine call_by h3 ?_
    refine bytes_is (encF q) rfl ?_
    refine call_by h2 ?_
    refine bytes_is (encF q) rfl ?_
    refine cmp_yes rfl ?_
    refine cmp_yes rfl ?_
    refine cmp_yes (by rw [encB_len]) ?_
    refine bytes_is q.flatten rfl ?_
    refine cmp_yes rfl ?_
    refine call_by awake09 ?_
    (refine ⟨draw_ok (by kernel_rfl), ?_⟩; repeat refine seq_on ?_)
    rfl
end Go.Proofs.YtiokdhklhnhfhaaDoor

