import Derived.Test.YtbfkfmpfdafogaaGreatDoorMdf1
import Derived.Test.YtbfkfmpfdafogaaGreatDoorMnp
import Derived.ChangeKeysEq
namespace Go.Proofs.YtbfkfmpfdafogaaGreatDoor
variable {G : List Go.Eng.Gl}
open Go.Eng
attribute [local irreducible] Hold
set_option maxRecDepth 100000

/-! The digest of bytes: what is put behind them, and the words as bytes. -/
def byteI (v : Int) : UInt8 := UInt8.ofNat (v % 256).toNat
theorem wrap_byte (v : Int) : IntKind.u8.wrap v = ((byteI v).toNat : Int) := by
  unfold byteI IntKind.wrap
  simp only [IntKind.signed, Bool.false_and, Bool.false_eq_true, if_false]
  rw [show ((2 : Int) ^ IntKind.u8.bits) = 256 by decide]
  have h1 := Int.emod_nonneg v (show (256 : Int) ≠ 0 by decide)
  have h2 := Int.emod_lt_of_pos v (show (0 : Int) < 256 by decide)
  rw [UInt8.toNat_ofNat', Nat.mod_eq_of_lt (by omega), Int.toNat_of_nonneg h1]
def wordBs (x : Int) : List UInt8 := [byteI (x.fdiv (2 ^ 24)), byteI (x.fdiv (2 ^ 16)), byteI (x.fdiv (2 ^ 8)), byteI x]
def outF (s : St) : List UInt8 := s.l.flatMap wordBs
def padZ (t : Nat) : Nat := (119 - t % 64) % 64
def lenAt (n : Nat) (k : Nat) : UInt8 := byteI (((8 * n : Nat) : Int).fdiv (2 ^ (56 - 8 * k)))
def lenB (n : Nat) : List UInt8 := (List.range 8).map (lenAt n)
def padF (t n : Nat) : List UInt8 := 128 :: (List.replicate (padZ t) 0 ++ lenB n)
def sumF (s : St) (n : Nat) (t : List UInt8) : List UInt8 := outF (stepsF s (t ++ padF t.length n) ((t ++ padF t.length n).length / 64))
theorem lenB_len (n : Nat) : (lenB n).length = 8 := by simp [lenB]
theorem lenB_take {n k : Nat} (h : k < 8) : (lenB n).take (k + 1) = (lenB n).take k ++ [lenAt n k] := by
  rw [List.take_succ_eq_append_getElem (by rw [lenB_len]; exact h)]
  simp [lenB]
theorem pad_step (z n : Nat) {k : Nat} (h : k < 8) : encB (128 :: (List.replicate z 0 ++ (lenB n).take k)) ++ [.i .u8 ((lenAt n k).toNat : Int)] = encB (128 :: (List.replicate z 0 ++ (lenB n).take (k + 1))) := by
  rw [lenB_take h]
  simp [encB]
theorem zeros_succ (i : Nat) : List.replicate (i + 1) (0 : UInt8) = List.replicate i 0 ++ [0] := List.replicate_succ'
theorem out_take {s : St} {j : Nat} (h : j < 8) : (s.l.take (j + 1)).flatMap wordBs = (s.l.take j).flatMap wordBs ++ wordBs (s.l.getD j 0) := by
  have hl : s.l.length = 8 := rfl
  rw [List.take_succ_eq_append_getElem (by omega), List.flatMap_append]
  simp [List.getD, hl, h]
theorem out_step (s : St) {j : Nat} (h : j < 8) : encB ((s.l.take j).flatMap wordBs) ++ (encB (wordBs (s.l.getD j 0))) = encB ((s.l.take (j + 1)).flatMap wordBs) := by rw [out_take h, ← encB_app]
theorem out_len (s : St) (j : Nat) : ((s.l.take j).flatMap wordBs).length ≤ 32 := by
  have : ∀ l : List Int, (l.flatMap wordBs).length = l.length * 4 := fun l => by
    induction l with
    | nil => rfl
    | cons x r ih => rw [List.flatMap_cons, List.length_append, ih, List.length_cons]; simp [wordBs]; omega
  rw [this, List.length_take]
  have : s.l.length = 8 := rfl
  omega
attribute [local irreducible] stepsF mixF padZ lenAt
theorem padZ_at (t i : Nat) (hi : i ≤ padZ t) : ((t + (1 + i)) % 64 = 56 ↔ i = padZ t) ∧ padZ t < 64 := by unfold padZ at *; omega
set_option maxHeartbeats 1000000 in
theorem sum72 (s : St) (n : Nat) (t : List UInt8) (hn : n ≤ 34359738368) (ht : t.length ≤ 900000) : Does (CD G) 72 [digD s (n : Int) t] [.sl 1 (encB (sumF s n t))] := by
  have htl : (encB t).length = t.length := encB_len t
  have hz := padZ_at t.length 0 (Nat.zero_le _)
  have hpl : (padF t.length n).length = 1 + padZ t.length + 8 := by simp [padF, lenB_len]; omega
  have cw := write71 (G := G) s (n : Int) t (padF t.length n) (by omega) (by omega) (by omega)
  unfold sumF
  unfold digD at *
  generalize stepsF s (t ++ padF t.length n) ((t ++ padF t.length n).length / 64) = R at cw
  generalize (t ++ padF t.length n).drop (64 * ((t ++ padF t.length n).length / 64)) = rest at cw
  refine Does.mk (n := 60) Tryz.func72 rfl rfl rfl (Nat.le_of_ble_eq_true rfl) ?_
  repeat refine seq_on ?_
  refine ar_is (n : Int) (by unfold IntKind.wrap; simp only [IntKind.signed, Bool.false_and, Bool.false_eq_true, if_false]; rw [show ((2 : Int) ^ IntKind.u64.bits) = 18446744073709551616 by decide]; omega) ?_
  refine ar_is ((8 * n : Nat) : Int) (by unfold IntKind.wrap; simp only [IntKind.signed, Bool.false_and, Bool.false_eq_true, if_false]; rw [show ((2 : Int) ^ IntKind.u64.bits) = 18446744073709551616 by decide]; omega) ?_
  repeat refine seq_on ?_
  apply loop_inv (fun i : Nat => i ≤ padZ t.length) (fun i => ⟨[(1, .op 16 0 0), (3, .d (.i .u64 ((8 * n : Nat) : Int))), (4, .os 17)], [(16, some (.box [.d (.i .u32 s.x0), .d (.i .u32 s.x1), .d (.i .u32 s.x2), .d (.i .u32 s.x3), .d (.i .u32 s.x4), .d (.i .u32 s.x5), .d (.i .u32 s.x6), .d (.i .u32 s.x7), .d (.i .i64 (n : Int)), .d (.sl 1 (encB t))])), (17, some (.buf 1 (encB (128 :: List.replicate i 0))))], 2⟩) (fun i => padZ t.length - i) 0 (Nat.zero_le _) [(16, _), (17, _)]
  · ((repeat' constructor) <;> (first | refine hold ?_ | rfl) <;> first | with_reducible rfl | (congr 1 <;> omega) | (congr 1 <;> simp; done) | (simp; done) | exact encB_snoc _ _ | skip)
  · intro i hi
    have hzi := padZ_at t.length i hi
    have hrl : (encB (128 :: List.replicate i 0)).length = 1 + i := by rw [encB_len]; simp; omega
    have hm : (((encB t).length : Int) + ((encB (128 :: List.replicate i 0)).length : Int)).tmod 64 = (((t.length + (1 + i)) % 64 : Nat) : Int) := by
      rw [htl, hrl, ← Int.natCast_add]
      exact (Int.ofNat_tmod _ 64).symm
    repeat refine seq_on ?_
    refine ar ⟨by omega, by omega⟩ ?_
    refine div_ok (by omega) ?_
    refine cmp_dec (fun h1 => ?_) (fun h1 => ?_)
    · have hi' : i < padZ t.length := by omega
      repeat refine seq_on ?_
      refine app_ok (by simp only [List.length_append, hrl]; simp; omega) ?_
      repeat refine seq_on ?_
      apply again (i + 1) [(16, 16), (17, _)] (by omega) (by omega)
      ((repeat' constructor) <;> (first | refine hold ?_ | rfl) <;> first | with_reducible rfl | (congr 1 <;> omega) | (congr 1 <;> simp; done) | (simp; done) | exact encB_snoc _ _ | skip)
      all_goals (rw [zeros_succ, ← List.cons_append, ← encB_app]; rfl)
    · obtain rfl : i = padZ t.length := by omega
      repeat refine seq_on ?_
      apply loop_inv (fun k : Nat => k ≤ 8) (fun k => ⟨[(1, .op 16 0 0), (3, .d (.i .u64 ((8 * n : Nat) : Int))), (4, .os 17), (5, .d (.i .i64 (56 - 8 * (k : Int))))], [(16, some (.box [.d (.i .u32 s.x0), .d (.i .u32 s.x1), .d (.i .u32 s.x2), .d (.i .u32 s.x3), .d (.i .u32 s.x4), .d (.i .u32 s.x5), .d (.i .u32 s.x6), .d (.i .u32 s.x7), .d (.i .i64 (n : Int)), .d (.sl 1 (encB t))])), (17, some (.buf 1 (encB (128 :: (List.replicate (padZ t.length) 0 ++ (lenB n).take k)))))], 2⟩) (fun k => 8 - k) 0 (Nat.zero_le _) [(16, 16), (17, _)]
      · ((repeat' constructor) <;> (first | refine hold ?_ | rfl) <;> first | with_reducible rfl | (congr 1 <;> omega) | (congr 1 <;> simp; done) | (simp; done) | exact encB_snoc _ _ | skip)
      · intro k hk
        have hkl : (encB (128 :: (List.replicate (padZ t.length) 0 ++ (lenB n).take k))).length ≤ 100 := by
          rw [encB_len]; simp only [List.length_cons, List.length_append, List.length_replicate, List.length_take]; omega
        repeat refine seq_on ?_
        refine cmp_dec (fun h2 => ?_) (fun h2 => ?_)
        · have hk' : k < 8 := by omega
          repeat refine seq_on ?_
          refine And.intro (by omega) ?_
          refine ar_is ((lenAt n k).toNat : Int) (by rw [wrap_byte]; unfold lenAt; rw [show min ((56 : Int) - 8 * (k : Int)).toNat IntKind.u64.bits = 56 - 8 * k by simp only [IntKind.bits]; omega]) ?_
          refine app_ok (by simp only [List.length_cons, List.length_nil]; omega) ?_
          repeat refine seq_on ?_
          refine ar ⟨by omega, by omega⟩ ?_
          apply again (k + 1) [(16, 16), (17, _)] (by omega) (by omega)
          ((repeat' constructor) <;> (first | refine hold ?_ | rfl) <;> first | with_reducible rfl | (congr 1 <;> omega) | (congr 1 <;> simp; done) | (simp; done) | exact encB_snoc _ _ | skip)
          all_goals (first | omega | exact pad_step _ n hk')
        · obtain rfl : k = 8 := by omega
          rw [List.take_of_length_le (by rw [lenB_len]; omega)]
          refine mk_ok 0 rfl (by decide) (by decide) (by decide) ?_
          repeat refine seq_on ?_
          rw [show 128 :: (List.replicate (padZ t.length) 0 ++ lenB n) = padF t.length n from rfl]
          refine call_by cw ?_
          apply loop_inv (fun j : Nat => j ≤ 8) (fun j => ⟨[(6, .os 17), (40, .d (.agg [.i .u32 R.x0, .i .u32 R.x1, .i .u32 R.x2, .i .u32 R.x3, .i .u32 R.x4, .i .u32 R.x5, .i .u32 R.x6, .i .u32 R.x7])), (41, .d (.i .i64 (j : Int)))], [(17, some (.buf 1 (encB ((R.l.take j).flatMap wordBs))))], 2⟩) (fun j => 8 - j) 0 (Nat.zero_le _) [(17, _)]
          · ((repeat' constructor) <;> (first | refine hold ?_ | rfl) <;> first | with_reducible rfl | (congr 1 <;> omega) | (congr 1 <;> simp; done) | (simp; done) | exact encB_snoc _ _ | skip)
          · intro j hj
            have hol : (encB ((R.l.take j).flatMap wordBs)).length ≤ 32 := by rw [encB_len]; exact out_len R j
            repeat refine seq_on ?_
            refine cmp_dec (fun h3 => ?_) (fun h3 => ?_)
            · have hj' : j < 8 := by omega
              repeat refine seq_on ?_
              refine arr_at j rfl (by omega) (getW (l := R.l) hj') ?_
              repeat refine seq_on ?_
              refine And.intro (by decide) ?_
              refine ar_is _ (wrap_byte _) ?_
              refine And.intro (by decide) ?_
              refine ar_is _ (wrap_byte _) ?_
              refine And.intro (by decide) ?_
              refine ar_is _ (wrap_byte _) ?_
              refine ar_is _ (wrap_byte _) ?_
              refine app_ok (by simp only [List.length_cons, List.length_nil]; omega) ?_
              repeat refine seq_on ?_
              refine ar ⟨by omega, by omega⟩ ?_
              apply again (j + 1) [(17, _)] (by omega) (by omega)
              ((repeat' constructor) <;> (first | refine hold ?_ | rfl) <;> first | with_reducible rfl | (congr 1 <;> omega) | (congr 1 <;> simp; done) | (simp; done) | exact encB_snoc _ _ | skip)
              all_goals exact out_step R hj'
            · obtain rfl : j = 8 := by omega
              repeat refine seq_on ?_
              rfl
end Go.Proofs.YtbfkfmpfdafogaaGreatDoor

namespace Go.Proofs.YtbfkfmpfdafogaaGreatDoor
variable {G : List Go.Eng.Gl}
open Go.Eng
attribute [local irreducible] Hold
set_option maxRecDepth 100000

/-! The digest of one slice, by the program and by the reference. -/
def shaF (b : List UInt8) : List UInt8 := sumF (stepsF st0 b (b.length / 64)) b.length (b.drop (64 * (b.length / 64)))
def msgF (b : List UInt8) : List UInt8 := b ++ padF b.length b.length
theorem steps_app (s : St) (b p : List UInt8) : ∀ k, 64 * k ≤ b.length → stepsF s (b ++ p) k = stepsF s b k
  | 0, _ => rfl
  | k + 1, h => by
    rw [stepsF_succ, stepsF_succ, steps_app s b p k (by omega), List.drop_append_of_le_length (by omega), List.take_append_of_le_length (by rw [List.length_drop]; omega)]
theorem steps_add (s : St) (b : List UInt8) (i : Nat) : ∀ k, stepsF s b (i + k) = stepsF (stepsF s b i) (b.drop (64 * i)) k
  | 0 => rfl
  | k + 1 => by
    rw [← Nat.add_assoc, stepsF_succ, stepsF_succ, steps_add s b i k, List.drop_drop]
    congr 3
    omega
theorem padZ_mod (t : Nat) : padZ (t % 64) = padZ t := by unfold padZ; omega
theorem padF_mod (t n : Nat) : padF (t % 64) n = padF t n := by unfold padF; rw [padZ_mod]
theorem sha_eq (b : List UInt8) : outF (stepsF st0 (msgF b) ((msgF b).length / 64)) = shaF b := by
  unfold shaF sumF msgF
  have hd : b.length = 64 * (b.length / 64) + b.length % 64 := (Nat.div_add_mod b.length 64).symm
  have ht : (b.drop (64 * (b.length / 64))).length = b.length % 64 := by rw [List.length_drop]; omega
  rw [ht, padF_mod]
  generalize padF b.length b.length = p
  have e1 : (b ++ p).drop (64 * (b.length / 64)) = b.drop (64 * (b.length / 64)) ++ p := List.drop_append_of_le_length (by omega)
  have e2 : (b ++ p).length / 64 = b.length / 64 + (b.drop (64 * (b.length / 64)) ++ p).length / 64 := by
    rw [List.length_append, List.length_append, ht]; omega
  rw [e2, steps_add, e1, steps_app st0 b p _ (by omega)]
attribute [local irreducible] stepsF mixF padZ lenAt sumF shaF
def ofS (b : List UInt8) : Nat → St × Int × List UInt8
  | 0 => (st0, 0, [])
  | _ + 1 => (stepsF st0 b (b.length / 64), (b.length : Int), b.drop (64 * (b.length / 64)))
theorem of46 (b : List UInt8) (hb : b.length ≤ 34359738368) : Does (CD G) 46 [.sl 1 [.sl 1 (encB b)]] [.sl 1 (encB (shaF b))] := by
  have c1 := start70 (G := G)
  have c2 := write71 (G := G) st0 0 [] b ⟨by decide, by decide⟩ (by decide) hb
  rw [List.nil_append, Int.zero_add] at c2
  have c3 := sum72 (G := G) (stepsF st0 b (b.length / 64)) b.length (b.drop (64 * (b.length / 64))) hb (by rw [List.length_drop]; omega)
  rw [show sumF (stepsF st0 b (b.length / 64)) b.length (b.drop (64 * (b.length / 64))) = shaF b by unfold shaF; rfl] at c3
  unfold digD at *
  refine Does.mk (n := 19) Tryz.func46 rfl rfl rfl (Nat.le_of_ble_eq_true rfl) ?_
  repeat refine seq_on ?_
  refine call_by c1 ?_
  repeat refine seq_on ?_
  apply loop_inv (fun i : Nat => i ≤ 1) (fun i => ⟨[(3, .op 16 0 0), (7, .d (.sl 1 [.sl 1 (encB b)])), (8, .d (.i .i64 1)), (9, .d (.i .i64 (i : Int)))], [(16, some (.box [.d (.i .u32 (ofS b i).1.x0), .d (.i .u32 (ofS b i).1.x1), .d (.i .u32 (ofS b i).1.x2), .d (.i .u32 (ofS b i).1.x3), .d (.i .u32 (ofS b i).1.x4), .d (.i .u32 (ofS b i).1.x5), .d (.i .u32 (ofS b i).1.x6), .d (.i .u32 (ofS b i).1.x7), .d (.i .i64 (ofS b i).2.1), .d (.sl 1 (encB (ofS b i).2.2))]))], 2⟩) (fun i => 1 - i) 0 (Nat.zero_le _) [(16, _)]
  · ((repeat' constructor) <;> (first | refine hold ?_ | rfl) <;> first | with_reducible rfl | (congr 1 <;> omega) | (congr 1 <;> simp; done) | (simp; done) | exact encB_snoc _ _ | skip)
  · intro i hi
    repeat refine seq_on ?_
    refine cmp_dec (fun h1 => ?_) (fun h1 => ?_)
    · obtain rfl : i = 0 := by omega
      repeat refine seq_on ?_
      refine Eng.get_at 0 rfl rfl ?_
      repeat refine seq_on ?_
      refine call_by c2 ?_
      repeat refine seq_on ?_
      refine ar ⟨by omega, by omega⟩ ?_
      apply again 1 [(16, 16)] (by omega) (by omega)
      ((repeat' constructor) <;> (first | refine hold ?_ | rfl) <;> first | with_reducible rfl | (congr 1 <;> omega) | (congr 1 <;> simp; done) | (simp; done) | exact encB_snoc _ _ | skip)
    · obtain rfl : i = 1 := by omega
      repeat refine seq_on ?_
      refine call_by c3 ?_
      repeat refine seq_on ?_
      rfl
end Go.Proofs.YtbfkfmpfdafogaaGreatDoor

namespace Go.Proofs.YtbfkfmpfdafogaaGreatDoor
variable {G : List Go.Eng.Gl}
open Go.Eng
attribute [local irreducible] Hold
set_option maxRecDepth 100000

theorem pad_step2 (b : List UInt8) (z n : Nat) {k : Nat} (h : k < 8) : encB (b ++ 128 :: (List.replicate z 0 ++ (lenB n).take k)) ++ [.i .u8 ((lenAt n k).toNat : Int)] = encB (b ++ 128 :: (List.replicate z 0 ++ (lenB n).take (k + 1))) := by
  rw [lenB_take h]
  simp [encB]
theorem zero_step (b : List UInt8) (i : Nat) : encB (b ++ 128 :: List.replicate i 0) ++ [.i .u8 0] = encB (b ++ 128 :: List.replicate (i + 1) 0) := by
  rw [zeros_succ]
  simp [encB]
theorem msg_len (b : List UInt8) : (msgF b).length % 64 = 0 ∧ (msgF b).length ≤ b.length + 100 := by
  unfold msgF padF
  have := padZ_at b.length (padZ b.length) (Nat.le_refl _)
  simp only [List.length_append, List.length_cons, List.length_replicate, lenB_len]
  omega
attribute [local irreducible] stepsF mixF padZ lenAt sumF shaF
set_option maxHeartbeats 1000000 in
theorem ofR47 (b : List UInt8) (hb : b.length ≤ 34359738368) : Does (CG G) 47 [.sl 1 (encB b)] [.sl 1 (encB (shaF b))] := by
  have hbl : (encB b).length = b.length := encB_len b
  have hz := padZ_at b.length 0 (Nat.zero_le _)
  have c1 := init73 (G := G)
  have hml := msg_len b
  rw [← sha_eq b]
  have hme : b ++ 128 :: (List.replicate (padZ b.length) 0 ++ lenB b.length) = msgF b := rfl
  unfold stD at c1
  refine Does.mk (n := 79) Tryz.func47 rfl rfl rfl (Nat.le_of_ble_eq_true rfl) ?_
  repeat refine seq_on ?_
  refine app_ok (by simp only [List.length_nil]; omega) ?_
  repeat refine seq_on ?_
  refine app_ok (by simp only [List.length_append, List.length_cons, List.length_nil]; omega) ?_
  repeat refine seq_on ?_
  apply loop_inv (fun i : Nat => i ≤ padZ b.length) (fun i => ⟨[(0, .d (.sl 1 (encB b))), (3, .os 17)], [(17, some (.buf 1 (encB (b ++ 128 :: List.replicate i 0))))], 2⟩) (fun i => padZ b.length - i) 0 (Nat.zero_le _) [(17, _)]
  · ((repeat' constructor) <;> (first | refine hold ?_ | rfl) <;> first | with_reducible rfl | (congr 1 <;> omega) | (congr 1 <;> simp; done) | (simp; done) | exact encB_snoc _ _ | skip)
    all_goals simp [encB]
  · intro i hi
    have hzi := padZ_at b.length i hi
    have hrl : (encB (b ++ 128 :: List.replicate i 0)).length = b.length + (1 + i) := by rw [encB_len]; simp; omega
    have hm : ((encB (b ++ 128 :: List.replicate i 0)).length : Int).tmod 64 = (((b.length + (1 + i)) % 64 : Nat) : Int) := by
      rw [hrl]
      exact (Int.ofNat_tmod _ 64).symm
    repeat refine seq_on ?_
    refine div_ok (by omega) ?_
    refine cmp_dec (fun h1 => ?_) (fun h1 => ?_)
    · have hi' : i < padZ b.length := by omega
      repeat refine seq_on ?_
      refine app_ok (by simp only [List.length_append, List.length_cons, List.length_nil, hrl]; omega) ?_
      repeat refine seq_on ?_
      apply again (i + 1) [(17, _)] (by omega) (by omega)
      ((repeat' constructor) <;> (first | refine hold ?_ | rfl) <;> first | with_reducible rfl | (congr 1 <;> omega) | (congr 1 <;> simp; done) | (simp; done) | exact encB_snoc _ _ | skip)
      all_goals exact zero_step b i
    · obtain rfl : i = padZ b.length := by omega
      repeat refine seq_on ?_
      refine ar_is ((8 * b.length : Nat) : Int) (by rw [wrap_id64 (by omega) (by omega)]; omega) ?_
      repeat refine seq_on ?_
      apply loop_inv (fun k : Nat => k ≤ 8) (fun k => ⟨[(3, .os 17), (4, .d (.i .i64 ((8 * b.length : Nat) : Int))), (5, .d (.i .i64 (7 - (k : Int))))], [(17, some (.buf 1 (encB (b ++ 128 :: (List.replicate (padZ b.length) 0 ++ (lenB b.length).take k)))))], 2⟩) (fun k => 8 - k) 0 (Nat.zero_le _) [(17, _)]
      · ((repeat' constructor) <;> (first | refine hold ?_ | rfl) <;> first | with_reducible rfl | (congr 1 <;> omega) | (congr 1 <;> simp; done) | (simp; done) | exact encB_snoc _ _ | skip)
      · intro k hk
        have hkl : (encB (b ++ 128 :: (List.replicate (padZ b.length) 0 ++ (lenB b.length).take k))).length ≤ b.length + 100 := by
          rw [encB_len]; simp only [List.length_cons, List.length_append, List.length_replicate, List.length_take]; omega
        repeat refine seq_on ?_
        refine cmp_dec (fun h2 => ?_) (fun h2 => ?_)
        · have hk' : k < 8 := by omega
          repeat refine seq_on ?_
          refine ar ⟨by omega, by omega⟩ ?_
          refine And.intro (by omega) ?_
          refine ar_is ((lenAt b.length k).toNat : Int) (by rw [wrap_byte]; unfold lenAt; rw [show min ((8 : Int) * (7 - (k : Int))).toNat IntKind.i64.bits = 56 - 8 * k by simp only [IntKind.bits]; omega]) ?_
          refine app_ok (by simp only [List.length_cons, List.length_nil]; omega) ?_
          repeat refine seq_on ?_
          refine ar ⟨by omega, by omega⟩ ?_
          apply again (k + 1) [(17, _)] (by omega) (by omega)
          ((repeat' constructor) <;> (first | refine hold ?_ | rfl) <;> first | with_reducible rfl | (congr 1 <;> omega) | (congr 1 <;> simp; done) | (simp; done) | exact encB_snoc _ _ | skip)
          all_goals (first | omega | exact pad_step2 _ _ _ hk')
        · obtain rfl : k = 8 := by omega
          rw [List.take_of_length_le (by rw [lenB_len]; omega), hme]
          generalize hmm : msgF b = m at hml
          have hel : (encB m).length = m.length := encB_len m
          have h0 := stepsF_zero st0 m
          generalize hK : m.length / 64 = K
          repeat refine seq_on ?_
          refine call_by c1 ?_
          refine putw_i (l := st0.l) rfl rfl ?_
          repeat refine seq_on ?_
          apply loop_inv (fun k : Nat => k ≤ K) (fun k => ⟨[(3, .d (.sl 1 (encB m))), (6, .op 18 0 0), (7, .d (.i .i64 ((64 * k : Nat) : Int)))], [(18, some (.arr 1 ((stepsF st0 m k).l.map (.i .u32))))], 2⟩) (fun k => K - k) 0 (Nat.zero_le _) [(18, _)]
          · ((repeat' constructor) <;> (first | refine hold ?_ | rfl) <;> first | with_reducible rfl | (congr 1 <;> omega) | (congr 1 <;> simp; done) | (simp; done) | exact encB_snoc _ _ | skip)
            all_goals rw [h0]
          · intro k hk
            repeat refine seq_on ?_
            refine cmp_dec (fun h3 => ?_) (fun h3 => ?_)
            · have hk' : k < K := by omega
              have hst := stepsF_succ st0 m k
              have h64 : ((m.drop (64 * k)).take 64).length = 64 := by rw [List.length_take, List.length_drop]; omega
              have cm := block74 (G := G) (stepsF st0 m k) ((m.drop (64 * k)).take 64) h64
              rw [← hst] at cm
              have he1 : ((encB m).take (64 * k + 64)).drop (64 * k) = encB ((m.drop (64 * k)).take 64) := by
                unfold encB
                rw [List.drop_take, ← List.map_drop, ← List.map_take]
                congr 2
                omega
              unfold stD at cm
              repeat refine seq_on ?_
              refine whole_i (l := (stepsF st0 m k).l) rfl ?_
              refine ar ⟨by omega, by omega⟩ ?_
              refine bnd (64 * k + 64) (by omega) (by omega) ?_
              refine bnd (64 * k) rfl (by omega) ?_
              rw [he1]
              refine call_by cm ?_
              refine putw_i (l := (stepsF st0 m (k + 1)).l) rfl rfl ?_
              ((try refine And.intro (draw_ok (by kernel_rfl)) ?_); repeat refine seq_on ?_)
              refine ar ⟨by omega, by omega⟩ ?_
              apply again (k + 1) [(18, 18)] (by omega) (by omega)
              ((repeat' constructor) <;> (first | refine hold ?_ | rfl) <;> first | with_reducible rfl | (congr 1 <;> omega) | (congr 1 <;> simp; done) | (simp; done) | exact encB_snoc _ _ | skip)
            · obtain rfl : k = K := by omega
              generalize stepsF st0 m k = R
              repeat refine seq_on ?_
              apply loop_inv (fun j : Nat => j ≤ 8) (fun j => ⟨[(6, .op 18 0 0), (8, .os 19), (9, .d (.i .i64 (j : Int)))], [(18, some (.arr 1 (R.l.map (.i .u32)))), (19, some (.buf 1 (encB ((R.l.take j).flatMap wordBs))))], 2⟩) (fun j => 8 - j) 0 (Nat.zero_le _) [(18, 18), (19, _)]
              · ((repeat' constructor) <;> (first | refine hold ?_ | rfl) <;> first | with_reducible rfl | (congr 1 <;> omega) | (congr 1 <;> simp; done) | (simp; done) | exact encB_snoc _ _ | skip)
              · intro j hj
                have hol : (encB ((R.l.take j).flatMap wordBs)).length ≤ 32 := by rw [encB_len]; exact out_len R j
                repeat refine seq_on ?_
                refine cmp_dec (fun h4 => ?_) (fun h4 => ?_)
                · have hj' : j < 8 := by omega
                  repeat refine seq_on ?_
                  refine same_is rfl ?_
                  refine idx j rfl (by omega) ?_
                  refine at_is (getW (l := R.l) hj') ?_
                  refine And.intro (by decide) ?_
                  refine ar_is _ (wrap_byte _) ?_
                  refine same_is rfl ?_
                  refine idx j rfl (by omega) ?_
                  refine at_is (getW (l := R.l) hj') ?_
                  refine And.intro (by decide) ?_
                  refine ar_is _ (wrap_byte _) ?_
                  refine same_is rfl ?_
                  refine idx j rfl (by omega) ?_
                  refine at_is (getW (l := R.l) hj') ?_
                  refine And.intro (by decide) ?_
                  refine ar_is _ (wrap_byte _) ?_
                  refine same_is rfl ?_
                  refine idx j rfl (by omega) ?_
                  refine at_is (getW (l := R.l) hj') ?_
                  refine ar_is _ (wrap_byte _) ?_
                  refine app_ok (by simp only [List.length_cons, List.length_nil]; omega) ?_
                  ((try refine And.intro (draw_ok (by kernel_rfl)) ?_); repeat refine seq_on ?_)
                  refine ar ⟨by omega, by omega⟩ ?_
                  apply again (j + 1) [(18, 18), (19, _)] (by omega) (by omega)
                  ((repeat' constructor) <;> (first | refine hold ?_ | rfl) <;> first | with_reducible rfl | (congr 1 <;> omega) | (congr 1 <;> simp; done) | (simp; done) | exact encB_snoc _ _ | skip)
                  all_goals exact out_step R hj'
                · obtain rfl : j = 8 := by omega
                  repeat refine seq_on ?_
                  rfl
end Go.Proofs.YtbfkfmpfdafogaaGreatDoor

namespace Go.Proofs.YtbfkfmpfdafogaaGreatDoor
variable {G : List Go.Eng.Gl}
open Go.Eng
attribute [local irreducible] Hold
set_option maxRecDepth 100000

/-! Replies, what is seen of them, differences. -/
def rplD (st : Int) (rs : List UInt8) (mi : Int) (fs : List Fld) (b : List UInt8) : D := .agg [.i .i64 st, .s rs, .i .i64 mi, .sl 2 (fs.map fldD), .sl 1 (encB b)]
def seenD (st : Int) (fs : List Fld) (sz : Int) (sum : List UInt8) : D := .agg [.i .i64 st, .sl 2 (fs.map fldD), .i .i64 sz, .sl 1 (encB sum)]
theorem sizes48 (st : Int) (fs : List Fld) (sz : Int) (sum : List UInt8) (h : sum.length ≤ 9223372036854775807) : Does (CG G) 48 [seenD st fs sz sum] [.agg [.i .i64 sz, .i .i64 (sum.length : Int)]] := by
  have hl : (encB sum).length = sum.length := encB_len sum
  rw [← hl]
  unfold seenD
  refine Does.mk (n := 9) Tryz.func48 rfl rfl rfl (Nat.le_of_ble_eq_true rfl) ?_
  repeat refine seq_on ?_
  refine putw_i (l := [sz, ((encB sum).length : Int)]) rfl rfl ?_
  repeat refine seq_on ?_
  refine whole_i (l := [sz, ((encB sum).length : Int)]) rfl ?_
  repeat refine seq_on ?_
  rfl
theorem bytesEq49 (a b : List UInt8) : Does (CG G) 49 [.sl 1 (encB a), .sl 1 (encB b)] [.b (decide (a = b))] := by
  refine Does.mk (n := 10) Tryz.func49 rfl rfl rfl (Nat.le_of_ble_eq_true rfl) ?_
  repeat refine seq_on ?_
  refine bytes_is a rfl ?_
  refine bytes_is b rfl ?_
  repeat refine seq_on ?_
  refine cmp_is (decide (a = b)) rfl ?_
  rfl
/-- The value of the first field with just this name. -/
def fstV : List Fld → Nm → Nm × Bool
  | [], _ => ([], false)
  | f :: l, n => if f.1 = n then (f.2, true) else fstV l n
theorem fstV_at {l : List Fld} {n : Nm} {i : Nat} (h : i < l.length) : fstV (l.drop i) n = if l[i].1 = n then (l[i].2, true) else fstV (l.drop (i + 1)) n := by
  rw [List.drop_eq_getElem_cons h]
  rfl
theorem value50 (l : List Fld) (n : Nm) (h : l.length ≤ 9223372036854775807) : Does (CG G) 50 [.sl 2 (l.map fldD), .s n] [.s (fstV l n).1, .b (fstV l n).2] := by
  have hl : (l.map fldD).length = l.length := by simp
  refine Does.mk (n := 21) Tryz.func50 rfl rfl rfl (Nat.le_of_ble_eq_true rfl) ?_
  repeat refine seq_on ?_
  apply loop_inv (fun i : Nat => i ≤ l.length ∧ fstV l n = fstV (l.drop i) n) (fun i => ⟨[(1, .d (.s n)), (8, .d (.sl 2 (l.map fldD))), (9, .d (.i .i64 (l.length : Int))), (10, .d (.i .i64 (i : Int)))], [], 2⟩) (fun i => l.length - i) 0 ⟨by omega, rfl⟩ []
  · ((repeat' constructor) <;> (first | refine hold ?_ | rfl) <;> first | with_reducible rfl | (congr 1 <;> omega) | (congr 1 <;> simp; done) | (simp; done) | exact encB_snoc _ _ | skip)
  · rintro i ⟨hi, he⟩
    repeat refine seq_on ?_
    refine cmp_dec (fun h1 => ?_) (fun h1 => ?_)
    · have hi' : i < l.length := by omega
      rw [fstV_at hi'] at he
      repeat refine seq_on ?_
      refine Eng.get_at i rfl (x := fldD l[i]) (by simp [hi']) ?_
      repeat refine seq_on ?_
      by_cases h2 : l[i].1 = n
      · refine cmp_is true (decide_eq_true h2) ?_
        repeat refine seq_on ?_
        refine fin_eqN ?_
        rw [he, if_pos h2]
      · refine cmp_is false (decide_eq_false h2) ?_
        repeat refine seq_on ?_
        refine ar ⟨by omega, by omega⟩ ?_
        rw [if_neg h2] at he
        apply again (i + 1) [] ⟨by omega, he⟩ (by omega)
        ((repeat' constructor) <;> (first | refine hold ?_ | rfl) <;> first | with_reducible rfl | (congr 1 <;> omega) | (congr 1 <;> simp; done) | (simp; done) | exact encB_snoc _ _ | skip)
    · obtain rfl : i = l.length := by omega
      repeat refine seq_on ?_
      refine fin_eqN ?_
      rw [he, List.drop_length]
      rfl
theorem value51 (l : List Fld) (n : Nm) (h : l.length ≤ 9223372036854775807) : Does (CG G) 51 [.sl 2 (l.map fldD), .s n] [.s (fstV l n).1, .b (fstV l n).2] := by
  have hl : (l.map fldD).length = l.length := by simp
  refine Does.mk (n := 25) Tryz.func51 rfl rfl rfl (Nat.le_of_ble_eq_true rfl) ?_
  repeat refine seq_on ?_
  apply loop_inv (fun i : Nat => i ≤ l.length ∧ fstV l n = fstV (l.drop i) n) (fun i => ⟨[(0, .d (.sl 2 (l.map fldD))), (1, .d (.s n)), (6, .d (.i .i64 (i : Int)))], [], 2⟩) (fun i => l.length - i) 0 ⟨by omega, rfl⟩ []
  · ((repeat' constructor) <;> (first | refine hold ?_ | rfl) <;> first | with_reducible rfl | (congr 1 <;> omega) | (congr 1 <;> simp; done) | (simp; done) | exact encB_snoc _ _ | skip)
  · rintro i ⟨hi, he⟩
    repeat refine seq_on ?_
    refine cmp_dec (fun h1 => ?_) (fun h1 => ?_)
    · have hi' : i < l.length := by omega
      rw [fstV_at hi'] at he
      repeat refine seq_on ?_
      refine Eng.get_at i rfl (x := fldD l[i]) (by simp [hi']) ?_
      repeat refine seq_on ?_
      by_cases h2 : l[i].1 = n
      · refine cmp_is true (decide_eq_true h2) ?_
        repeat refine seq_on ?_
        refine Eng.get_at i rfl (x := fldD l[i]) (by simp [hi']) ?_
        repeat refine seq_on ?_
        refine fin_eqN ?_
        rw [he, if_pos h2]
      · refine cmp_is false (decide_eq_false h2) ?_
        repeat refine seq_on ?_
        refine ar ⟨by omega, by omega⟩ ?_
        rw [if_neg h2] at he
        apply again (i + 1) [] ⟨by omega, he⟩ (by omega)
        ((repeat' constructor) <;> (first | refine hold ?_ | rfl) <;> first | with_reducible rfl | (congr 1 <;> omega) | (congr 1 <;> simp; done) | (simp; done) | exact encB_snoc _ _ | skip)
    · obtain rfl : i = l.length := by omega
      repeat refine seq_on ?_
      refine fin_eqN ?_
      rw [he, List.drop_length]
      rfl
theorem same25 (s b : Bool) (ns : List Nm) (h : ns.length ≤ 9223372036854775807) : Does (CG G) 25 [difD s b ns] [.b (!s && !b && decide (ns = []))] := by
  have hl : (ns.map D.s).length = ns.length := by simp
  unfold difD strs
  refine Does.mk (n := 17) Tryz.func25 rfl rfl rfl (Nat.le_of_ble_eq_true rfl) ?_
  cases s <;> cases b
  · repeat refine seq_on ?_
    cases ns with
    | nil =>
      refine cmp_yes (by simp) ?_
      repeat refine seq_on ?_
      rfl
    | cons a r =>
      refine cmp_no (by simp; omega) ?_
      repeat refine seq_on ?_
      rfl
  all_goals
    repeat refine seq_on ?_
    rfl
theorem same26 (s b : Bool) (ns : List Nm) (h : ns.length ≤ 9223372036854775807) : Does (CG G) 26 [difD s b ns] [.b (!s && !b && decide (ns = []))] := by
  have hl : (ns.map D.s).length = ns.length := by simp
  unfold difD strs
  refine Does.mk (n := 17) Tryz.func26 rfl rfl rfl (Nat.le_of_ble_eq_true rfl) ?_
  cases s <;> cases b
  · repeat refine seq_on ?_
    cases ns with
    | nil =>
      refine cmp_yes (by simp) ?_
      repeat refine seq_on ?_
      rfl
    | cons a r =>
      refine cmp_no (by simp; omega) ?_
      repeat refine seq_on ?_
      rfl
  all_goals
    repeat refine seq_on ?_
    rfl
theorem sameSeen19 (st : Int) (fs : List Fld) (sz : Int) (sum : List UInt8) (h : fs.length ≤ 9223372036854775807) : Does (CG G) 19 [seenD st fs sz sum, seenD st fs sz sum] [.b true] := by
  have c1 := sameFN (G := G) fs h
  unfold seenD
  refine Does.mk (n := 33) Tryz.func19 rfl rfl rfl (Nat.le_of_ble_eq_true rfl) ?_
  repeat refine seq_on ?_
  refine cmp_yes rfl ?_
  repeat refine seq_on ?_
  refine cmp_yes rfl ?_
  repeat refine seq_on ?_
  refine bytes_is sum rfl ?_
  refine bytes_is sum rfl ?_
  refine cmp_is true (decide_eq_true rfl) ?_
  repeat refine seq_on ?_
  refine call_by c1 ?_
  repeat refine seq_on ?_
  rfl
theorem sameDif22 (s b : Bool) (ns : List Nm) (h : ns.length ≤ 9223372036854775807) : Does (CG G) 22 [difD s b ns, difD s b ns] [.b true] := by
  have c1 := sameS48 (G := G) ns h
  unfold strs at c1
  unfold difD strs
  refine Does.mk (n := 24) Tryz.func22 rfl rfl rfl (Nat.le_of_ble_eq_true rfl) ?_
  repeat refine seq_on ?_
  refine cmp_is true (by cases s <;> rfl) ?_
  repeat refine seq_on ?_
  refine cmp_is true (by cases b <;> rfl) ?_
  repeat refine seq_on ?_
  refine call_by c1 ?_
  repeat refine seq_on ?_
  rfl
end Go.Proofs.YtbfkfmpfdafogaaGreatDoor

namespace Go.Proofs.YtbfkfmpfdafogaaGreatDoor
variable {G : List Go.Eng.Gl}
open Go.Eng
attribute [local irreducible] Hold
set_option maxRecDepth 100000

/-! What is seen of a reply, both. -/
structure Sn where
  st : Int
  fs : List Fld
  sz : Int
  sum : List UInt8
def snD (s : Sn) : D := seenD s.st s.fs s.sz s.sum
def seeF (st : Int) (fs : List Fld) (b : List UInt8) (ign : List Nm) : Sn := ⟨st, normF fs ign, b.length, shaF b⟩
theorem see20 (st : Int) (rs : List UInt8) (mi : Int) (fs : List Fld) (b : List UInt8) (ign : List Nm) (h : FOk fs ign) (hb : b.length ≤ 34359738368) : Does (CD G) 20 [rplD st rs mi fs b, strs ign] [snD (seeF st fs b ign)] := by
  have c1 := fields46 (G := gD G) fs ign h
  have c2 := of46 (G := G) b hb
  have hl : (encB b).length = b.length := encB_len b
  unfold snD seenD seeF
  simp only
  rw [← hl]
  generalize shaF b = y at *
  generalize normF fs ign = z at *
  unfold strs at *
  unfold rplD
  refine Does.mk (n := 19) Tryz.func20 rfl rfl rfl (Nat.le_of_ble_eq_true rfl) ?_
  ((try refine And.intro (draw_ok (by kernel_rfl)) ?_); repeat refine seq_on ?_)
  refine call_by c1 ?_
  refine call_by c2 ?_
  ((try refine And.intro (draw_ok (by kernel_rfl)) ?_); repeat refine seq_on ?_)
  rfl
theorem see21 (st : Int) (rs : List UInt8) (mi : Int) (fs : List Fld) (b : List UInt8) (ign : List Nm) (h : FOk fs ign) (hb : b.length ≤ 34359738368) : Does (CG G) 21 [rplD st rs mi fs b, strs ign] [snD (seeF st fs b ign)] := by
  have c1 := fieldsR (G := G) fs ign h
  have c2 := ofR47 (G := G) b hb
  have hl : (encB b).length = b.length := encB_len b
  unfold snD seenD seeF
  simp only
  rw [← hl]
  generalize shaF b = y at *
  generalize normF fs ign = z at *
  unfold strs at *
  unfold rplD
  refine Does.mk (n := 18) Tryz.func21 rfl rfl rfl (Nat.le_of_ble_eq_true rfl) ?_
  ((try refine And.intro (draw_ok (by kernel_rfl)) ?_); repeat refine seq_on ?_)
  refine call_by c1 ?_
  refine call_by c2 ?_
  ((try refine And.intro (draw_ok (by kernel_rfl)) ?_); repeat refine seq_on ?_)
  rfl
/-! Two sizes compared at once. -/
theorem rd_two {w : World} {X : Nat → Prop} {a b : Int} {v : Value} (h : Rd w X (.agg [.i .i64 a, .i .i64 b]) v) : v = .agg #[.int .i64 a, .int .i64 b] := by
  cases h with
  | agg _ vs hl hr =>
    obtain ⟨l⟩ := vs
    match l, hl, hr with
    | [x, y], _, hr =>
      rw [(hr 0 _ x rfl rfl).iinv, (hr 1 _ y rfl rfl).iinv]
theorem eqI_cons {P : Program} {w : World} {d c j : Nat} {e : TypeId} {xs ys : Array Value} {is : List Nat} {a b : Value} {r s : Bool} (ha : (part e xs (j * c)).run P w = .ok a w) (hb : (part e ys (j * c)).run P w = .ok b w)
    (he : (Op.equalIn d e a b).run P w = .ok r w) (hs : (Op.eqItems d e c xs ys is).run P w = .ok s w) : (Op.eqItems d e c xs ys (j :: is)).run P w = .ok (r && s) w := by
  simp only [Op.eqItems, Sem.run_bind, ha, hb, he, Result.andThen_ok]
  cases r
  · simp
  · simp [hs]
theorem eqI_nil {P : Program} {w : World} {d c : Nat} {e : TypeId} {xs ys : Array Value} : (Op.eqItems d e c xs ys []).run P w = .ok true w := by
  simp [Op.eqItems]
theorem eqInt {P : Program} {t : TypeId} (u : P.underlying t = some (.int .i64)) (w : World) (d : Nat) (x y : Int) : (Op.equalIn (d + 1) t (.int .i64 x) (.int .i64 y)).run P w = .ok (decide (x = y)) w := by
  rw [run_equalIn_int w d t _ _ x y u]
  by_cases h : x = y
  · rw [decide_eq_true h, h]; simp
  · rw [decide_eq_false h]; simp [h]
theorem eqTwo (a b c d : Int) : EqTy Tryz.prog 74 (.agg [.i .i64 a, .i .i64 b]) (.agg [.i .i64 c, .i .i64 d]) (decide (a = c) && (decide (b = d) && true)) := by
  refine ⟨by kernel_rfl, fun w X va vb ha hb => ?_⟩
  rw [rd_two ha, rd_two hb]
  have t3 : TyOk Tryz.prog 3 _ := Ctx.ty (C := CG []) (t := 3) rfl
  have u3 := Tryz.underlying3
  have hi : Tryz.prog.info? 3 = some (Tryz.prog.types[3]!) := by kernel_rfl
  have hc : Tryz.prog.cellsOf 3 = 1 := by kernel_rfl
  show (Op.equalIn (9999 + 1) 74 _ _).run Tryz.prog w = _
  rw [run_equalIn_array w 9999 _ _ Tryz.underlying74 hi, hc]
  have p0 : ∀ x y : Int, (part 3 #[.int .i64 x, .int .i64 y] (0 * 1)).run Tryz.prog w = .ok (.int .i64 x) w := fun x y => run_part_one t3 w _ _ rfl rfl
  have p1 : ∀ x y : Int, (part 3 #[.int .i64 x, .int .i64 y] (1 * 1)).run Tryz.prog w = .ok (.int .i64 y) w := fun x y => run_part_one t3 w _ _ rfl rfl
  have e3 : ∀ x y : Int, (Op.equalIn 9999 3 (.int .i64 x) (.int .i64 y)).run Tryz.prog w = .ok (decide (x = y)) w := fun x y => eqInt u3 w 9998 x y
  exact eqI_cons (p0 a b) (p0 c d) (e3 a c) (eqI_cons (p1 a b) (p1 c d) (e3 b d) eqI_nil)
end Go.Proofs.YtbfkfmpfdafogaaGreatDoor

