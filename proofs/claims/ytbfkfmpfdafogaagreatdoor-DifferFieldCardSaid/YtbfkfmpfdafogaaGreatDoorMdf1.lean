import Derived.Test.YtbfkfmpfdafogaaGreatDoorMn
import Derived.Test.YtbfkfmpfdafogaaGreatDoorMg
namespace Go.Proofs.YtbfkfmpfdafogaaGreatDoor
variable {G : List Go.Eng.Gl}
open Go.Eng
attribute [local irreducible] Hold
set_option maxRecDepth 100000

/-! SHA-256 on words as the machine holds them: rotations, words of a block, the schedule. -/
def w32 (n : Int) : Int := IntKind.u32.wrap n
def u32D (n : Int) : D := .i .u32 n
theorem bits_comm (x y : Int) : bitsOp .or .u32 x y = bitsOp .or .u32 y x := by unfold bitsOp; rw [BitVec.or_comm]
def rotr (x : Int) (n : Nat) : Int := bitsOp .or .u32 (w32 (x * 2 ^ (32 - n))) (x.fdiv (2 ^ n))
def xor32 (x y : Int) : Int := bitsOp .xor .u32 x y
def and32 (x y : Int) : Int := bitsOp .and .u32 x y
def or32 (x y : Int) : Int := bitsOp .or .u32 x y
def not32 (x : Int) : Int := bitsOp .xor .u32 IntKind.u32.max x
def shr32 (x : Int) (n : Nat) : Int := x.fdiv (2 ^ n)
def rots : List Nat := [2, 6, 7, 11, 13, 17, 18, 19, 22, 25]
theorem rot_num : ∀ n, n ∈ rots → bitsOp .and .u64 (IntKind.u64.wrap (-(n : Int))) 31 = ((32 - n : Nat) : Int) ∧ IntKind.u64.wrap (32 - ((32 - n : Nat) : Int)) = (n : Int) ∧ (1 ≤ n ∧ n ≤ 31) := by decide +kernel
theorem rotl125 (x : Int) (n : Nat) (hn : n ∈ rots) : Does (CG G) 125 [.i .u32 x, .i .i64 (-(n : Int))] [.i .u32 (rotr x n)] := by
  obtain ⟨h1, h2, h3⟩ := rot_num n hn
  refine Does.mk (n := 17) Tryz.func125 rfl rfl rfl (Nat.le_of_ble_eq_true rfl) ?_
  repeat refine seq_on ?_
  refine ar_wrap ?_
  repeat refine seq_on ?_
  refine And.intro (h1 ▸ Int.natCast_nonneg _) (ar_wrap ?_)
  refine ar_is (n : Int) (by rw [h1]; exact h2) ?_
  refine And.intro (by omega) ?_
  repeat refine seq_on ?_
  refine congrArg (fun r => [D.i .u32 r]) ?_
  rw [h1]
  unfold rotr w32
  rw [show min ((32 - n : Nat) : Int).toNat IntKind.u32.bits = 32 - n by simp only [IntKind.bits]; omega, show min ((n : Nat) : Int).toNat IntKind.u32.bits = n by simp only [IntKind.bits]; omega]
theorem right106 (x : Int) (n : Nat) (hn : n ∈ rots) : Does (CG G) 106 [.i .u32 x, .i .i64 (n : Int)] [.i .u32 (rotr x n)] := by
  obtain ⟨_, _, h3⟩ := rot_num n hn
  refine Does.mk (n := 13) Tryz.func106 rfl rfl rfl (Nat.le_of_ble_eq_true rfl) ?_
  repeat refine seq_on ?_
  refine And.intro (by omega) ?_
  refine ar ⟨by omega, by omega⟩ ?_
  refine And.intro (by omega) (ar_wrap ?_)
  ((try refine And.intro (draw_ok (by kernel_rfl)) ?_); repeat refine seq_on ?_)
  refine congrArg (fun r => [D.i .u32 r]) ?_
  rw [bits_comm]
  unfold rotr w32
  rw [show min ((32 : Int) - n).toNat IntKind.u32.bits = 32 - n by simp only [IntKind.bits]; omega, show min ((n : Nat) : Int).toNat IntKind.u32.bits = n by simp only [IntKind.bits]; omega]
theorem rotC (x : Int) (n : Nat) (m : Int) (hm : m = -(n : Int)) (hn : n ∈ rots) : Does (CG G) 125 [.i .u32 x, .i .i64 m] [.i .u32 (rotr x n)] := by rw [hm]; exact rotl125 x n hn
theorem rightC (x : Int) (n : Nat) (m : Int) (hm : m = (n : Int)) (hn : n ∈ rots) : Does (CG G) 106 [.i .u32 x, .i .i64 m] [.i .u32 (rotr x n)] := by rw [hm]; exact right106 x n hn
end Go.Proofs.YtbfkfmpfdafogaaGreatDoor

namespace Go.Proofs.YtbfkfmpfdafogaaGreatDoor
variable {G : List Go.Eng.Gl}
open Go.Eng
attribute [local irreducible] Hold
set_option maxRecDepth 100000

def byteA (b : List UInt8) (i : Nat) : Int := ((b.getD i 0).toNat : Int)
def wordB (b : List UInt8) (i : Nat) : Int := or32 (or32 (or32 (w32 (byteA b (4 * i) * 2 ^ 24)) (w32 (byteA b (4 * i + 1) * 2 ^ 16))) (w32 (byteA b (4 * i + 2) * 2 ^ 8))) (byteA b (4 * i + 3))
def wA (b : List UInt8) : Nat → List Int
  | 0 => List.replicate 64 0
  | i + 1 => (wA b i).set i (wordB b i)
def sig0 (x : Int) : Int := xor32 (xor32 (rotr x 7) (rotr x 18)) (shr32 x 3)
def sig1 (x : Int) : Int := xor32 (xor32 (rotr x 17) (rotr x 19)) (shr32 x 10)
def wordM (w : List Int) (i : Nat) : Int := w32 (w32 (w32 (w.getD (i - 16) 0 + sig0 (w.getD (i - 15) 0)) + w.getD (i - 7) 0) + sig1 (w.getD (i - 2) 0))
def wM (w : List Int) : Nat → List Int
  | 0 => w
  | i + 1 => (wM w i).set (16 + i) (wordM (wM w i) (16 + i))
def sched (b : List UInt8) : List Int := wM (wA b 16) 48
theorem wA_len (b : List UInt8) : ∀ i, (wA b i).length = 64
  | 0 => by simp [wA]
  | i + 1 => by rw [wA, List.length_set, wA_len b i]
theorem wM_len (w : List Int) (h : w.length = 64) : ∀ i, (wM w i).length = 64
  | 0 => h
  | i + 1 => by rw [wM, List.length_set, wM_len w h i]
theorem sched_len (b : List UInt8) : (sched b).length = 64 := wM_len _ (wA_len b 16) 48
theorem getW {l : List Int} {i : Nat} (h : i < l.length) : (l.map (D.i .u32))[i]? = some (.i .u32 (l.getD i 0)) := by simp [h, List.getD]
theorem getY {l : List UInt8} {i : Nat} (h : i < l.length) : (encB l)[i]? = some (.i .u8 (byteA l i)) := by unfold byteA encB; simp [h, List.getD]
theorem byteA_lt (b : List UInt8) (i : Nat) : 0 ≤ byteA b i ∧ byteA b i ≤ 255 := by unfold byteA; have := (b.getD i 0).toNat_lt; omega
theorem wM_map (w : List Int) (j : Nat) : ((wM w j).map (D.i .u32)).set (16 + j) (.i .u32 (wordM (wM w j) (16 + j))) = (wM w (j + 1)).map (.i .u32) := by rw [wM, List.map_set]
theorem wA_map (b : List UInt8) (i : Nat) : ((wA b i).map (D.i .u32)).set i (.i .u32 (wordB b i)) = (wA b (i + 1)).map (.i .u32) := by rw [wA, List.map_set]
attribute [local irreducible] wM wA rotr bitsOp
def zs64 : List D := (List.replicate 64 (0 : Int)).map (.i .u32)

theorem sched124 (b : List UInt8) (hb : b.length = 64) : Does (CG G) 124 [.sl 1 (encB b)] [.agg ((sched b).map (.i .u32))] := by
  have hbl : (encB b).length = 64 := by rw [encB_len, hb]
  refine Does.mk (n := 93) Tryz.func124 rfl rfl rfl (Nat.le_of_ble_eq_true rfl) ?_
  repeat refine seq_on ?_
  apply loop_inv (fun i : Nat => i ≤ 16) (fun i => ⟨[(0, .d (.sl 1 (encB b))), (2, .op 16 0 0), (3, .op 17 0 0), (10, .d (.i .i64 (i : Int)))], [(16, some (.arr 1 zs64)), (17, some (.arr 1 ((wA b i).map (.i .u32))))], 2⟩) (fun i => 16 - i) 0 (Nat.zero_le _) [(16, 16), (17, 32)]
  · ((repeat' constructor) <;> (first | refine hold ?_ | rfl) <;> first | with_reducible rfl | (congr 1 <;> omega) | (congr 1 <;> simp; done) | (simp; done) | exact encB_snoc _ _ | skip)
    all_goals (unfold wA; rfl)
  · intro i hi
    have hwl := wA_len b i
    have hwm : ((wA b i).map (D.i .u32)).length = 64 := by rw [List.length_map, hwl]
    repeat refine seq_on ?_
    refine cmp_dec (fun h1 => ?_) (fun h1 => ?_)
    · have hi' : i < 16 := by omega
      have y0 := byteA_lt b (4 * i)
      have y1 := byteA_lt b (4 * i + 1)
      have y2 := byteA_lt b (4 * i + 2)
      have y3 := byteA_lt b (4 * i + 3)
      repeat refine seq_on ?_
      refine ar ⟨by omega, by omega⟩ ?_
      refine Eng.get_at (4 * i) (by omega) (getY (by omega)) ?_
      refine aru32 ⟨by omega, by omega⟩ ?_
      refine And.intro (by omega) (ar_wrap ?_)
      refine ar ⟨by omega, by omega⟩ ?_
      refine ar ⟨by omega, by omega⟩ ?_
      refine Eng.get_at (4 * i + 1) (by omega) (getY (by omega)) ?_
      refine aru32 ⟨by omega, by omega⟩ ?_
      refine And.intro (by omega) (ar_wrap ?_)
      refine ar ⟨by omega, by omega⟩ ?_
      refine ar ⟨by omega, by omega⟩ ?_
      refine Eng.get_at (4 * i + 2) (by omega) (getY (by omega)) ?_
      refine aru32 ⟨by omega, by omega⟩ ?_
      refine And.intro (by omega) (ar_wrap ?_)
      refine ar ⟨by omega, by omega⟩ ?_
      refine ar ⟨by omega, by omega⟩ ?_
      refine Eng.get_at (4 * i + 3) (by omega) (getY (by omega)) ?_
      refine aru32 ⟨by omega, by omega⟩ ?_
      refine same_is hwm.symm ?_
      refine idx i rfl (by omega) ?_
      refine set_is (getW (by omega)) ?_
      ((try refine And.intro (draw_ok (by kernel_rfl)) ?_); repeat refine seq_on ?_)
      refine ar ⟨by omega, by omega⟩ ?_
      apply again (i + 1) [(16, 16), (17, 17)] (by omega) (by omega)
      ((repeat' constructor) <;> (first | refine hold ?_ | rfl) <;> first | with_reducible rfl | (congr 1 <;> omega) | (congr 1 <;> simp; done) | (simp; done) | exact encB_snoc _ _ | skip)
      all_goals exact wA_map _ _
    · obtain rfl : i = 16 := by omega
      have hz : (wA b 16).length = 64 := wA_len b 16
      repeat refine seq_on ?_
      apply loop_inv (fun j : Nat => j ≤ 48) (fun j => ⟨[(2, .op 16 0 0), (3, .op 17 0 0), (5, .d (.i .i64 ((16 + j : Nat) : Int)))], [(16, some (.arr 1 zs64)), (17, some (.arr 1 ((wM (wA b 16) j).map (.i .u32))))], 2⟩) (fun j => 48 - j) 0 (Nat.zero_le _) [(16, 16), (17, 17)]
      · ((repeat' constructor) <;> (first | refine hold ?_ | rfl) <;> first | with_reducible rfl | (congr 1 <;> omega) | (congr 1 <;> simp; done) | (simp; done) | exact encB_snoc _ _ | skip)
        all_goals (unfold wM; rfl)
      · intro j hj
        have hwl := wM_len (wA b 16) hz j
        have hwm : ((wM (wA b 16) j).map (D.i .u32)).length = 64 := by rw [List.length_map, hwl]
        repeat refine seq_on ?_
        refine cmp_dec (fun h2 => ?_) (fun h2 => ?_)
        · have hj' : j < 48 := by omega
          repeat refine seq_on ?_
          refine ar ⟨by omega, by omega⟩ ?_
          refine same_is hwm.symm ?_
          refine idx (16 + j - 15) (by omega) (by omega) ?_
          refine at_is (getW (by omega)) ?_
          refine ar ⟨by omega, by omega⟩ ?_
          refine same_is hwm.symm ?_
          refine idx (16 + j - 2) (by omega) (by omega) ?_
          refine at_is (getW (by omega)) ?_
          ((try refine And.intro (draw_ok (by kernel_rfl)) ?_); repeat refine seq_on ?_)
          refine call_by (rotC _ 7 (-7) rfl (by decide)) ?_
          refine call_by (rotC _ 18 (-18) rfl (by decide)) ?_
          refine And.intro (by decide) ?_
          repeat refine seq_on ?_
          refine call_by (rotC _ 17 (-17) rfl (by decide)) ?_
          refine call_by (rotC _ 19 (-19) rfl (by decide)) ?_
          refine And.intro (by decide) ?_
          repeat refine seq_on ?_
          refine ar ⟨by omega, by omega⟩ ?_
          refine same_is hwm.symm ?_
          refine idx (16 + j - 16) (by omega) (by omega) ?_
          refine at_is (getW (by omega)) ?_
          refine ar_wrap ?_
          refine ar ⟨by omega, by omega⟩ ?_
          refine same_is hwm.symm ?_
          refine idx (16 + j - 7) (by omega) (by omega) ?_
          refine at_is (getW (by omega)) ?_
          refine ar_wrap ?_
          refine ar_wrap ?_
          refine same_is hwm.symm ?_
          refine idx (16 + j) rfl (by omega) ?_
          refine set_is (getW (by omega)) ?_
          ((try refine And.intro (draw_ok (by kernel_rfl)) ?_); repeat refine seq_on ?_)
          refine ar ⟨by omega, by omega⟩ ?_
          apply again (j + 1) [(16, 16), (17, 17)] (by omega) (by omega)
          ((repeat' constructor) <;> (first | refine hold ?_ | rfl) <;> first | with_reducible rfl | (congr 1 <;> omega) | (congr 1 <;> simp; done) | (simp; done) | exact encB_snoc _ _ | skip)
          all_goals exact wM_map _ _
        · obtain rfl : j = 48 := by omega
          repeat refine seq_on ?_
          refine whole_i hwl ?_
          refine putw_i hwl hwl ?_
          refine whole_i hwl ?_
          rfl
end Go.Proofs.YtbfkfmpfdafogaaGreatDoor

namespace Go.Proofs.YtbfkfmpfdafogaaGreatDoor
variable {G : List Go.Eng.Gl}
open Go.Eng
attribute [local irreducible] Hold
set_option maxRecDepth 100000

structure St where
  x0 : Int
  x1 : Int
  x2 : Int
  x3 : Int
  x4 : Int
  x5 : Int
  x6 : Int
  x7 : Int
def St.l (s : St) : List Int := [s.x0, s.x1, s.x2, s.x3, s.x4, s.x5, s.x6, s.x7]
def stD (s : St) : D := .agg (s.l.map (.i .u32))
def bigS1 (e : Int) : Int := xor32 (xor32 (rotr e 6) (rotr e 11)) (rotr e 25)
def bigS0 (e : Int) : Int := xor32 (xor32 (rotr e 2) (rotr e 13)) (rotr e 22)
def chF (e f g : Int) : Int := xor32 (and32 e f) (and32 (not32 e) g)
def majF (a b c : Int) : Int := xor32 (xor32 (and32 a b) (and32 a c)) (and32 b c)
def tOne (s : St) (k w : Int) : Int := w32 (w32 (w32 (w32 (s.x7 + bigS1 s.x4) + chF s.x4 s.x5 s.x6) + k) + w)
def rnd (s : St) (k w : Int) : St := ⟨w32 (w32 (tOne s k w + bigS0 s.x0) + majF s.x0 s.x1 s.x2), s.x0, s.x1, s.x2, w32 (s.x3 + tOne s k w), s.x4, s.x5, s.x6⟩
def runR (W : List Int) (s : St) : Nat → St
  | 0 => s
  | i + 1 => rnd (runR W s i) (shaK.getD i 0) (W.getD i 0)
def addS (s t : St) : St := ⟨w32 (s.x0 + t.x0), w32 (s.x1 + t.x1), w32 (s.x2 + t.x2), w32 (s.x3 + t.x3), w32 (s.x4 + t.x4), w32 (s.x5 + t.x5), w32 (s.x6 + t.x6), w32 (s.x7 + t.x7)⟩
def mixF (s : St) (b : List UInt8) : St := addS (runR (sched b) s 64) s
def addL (s t : List Int) : Nat → List Int
  | 0 => s
  | i + 1 => (addL s t i).set i (w32 ((addL s t i).getD i 0 + t.getD i 0))
theorem addL_len (s t : List Int) : ∀ i, (addL s t i).length = s.length
  | 0 => rfl
  | i + 1 => by rw [addL, List.length_set, addL_len s t i]
theorem addL_all (s t : St) : addL s.l t.l 8 = (addS s t).l := rfl
theorem addL_map (s t : List Int) (i : Nat) : ((addL s t i).map (D.i .u32)).set i (.i .u32 (w32 ((addL s t i).getD i 0 + t.getD i 0))) = (addL s t (i + 1)).map (.i .u32) := by rw [addL, List.map_set]
theorem runR_succ (W : List Int) (s : St) (i : Nat) : runR W s (i + 1) = rnd (runR W s i) (shaK.getD i 0) (W.getD i 0) := rfl
theorem putw_st {ds : List D} {n m : Nat} {K : List D → Prop} (s : St) (h : s.l.map (D.i .u32) = ds) (hn : 8 = n) (hm : 8 = m) (h1 : K (s.l.map (.i .u32))) : PutWK ds n 1 m K := by
  subst h
  exact putw_i hn hm h1
theorem w32_add (a b : Int) : w32 (w32 a + b) = w32 (a + b) := by
  unfold w32 IntKind.wrap
  simp only [IntKind.signed, Bool.false_and, Bool.false_eq_true, if_false]
  rw [Int.emod_add_emod]
theorem w32_assoc (t a b : Int) : w32 (t + w32 (a + b)) = w32 (w32 (t + a) + b) := by
  rw [w32_add, Int.add_comm t (w32 (a + b)), w32_add]
  congr 1
  omega
theorem addS_comm (s t : St) : addS s t = addS t s := by
  unfold addS
  simp only [Int.add_comm]
def zs8 : List Int := List.replicate 8 0
attribute [local irreducible] runR wM wA rotr bitsOp sched addL

theorem mix104 (s : St) (b : List UInt8) (hb : b.length = 64) : Does (CD G) 104 [stD s, .sl 1 (encB b)] [stD (mixF s b)] := by
  have c1 := sched124 (G := gD G) b hb
  have hW := sched_len b
  unfold mixF stD
  generalize sched b = W at c1 hW
  have hWm : (W.map (D.i .u32)).length = 64 := by rw [List.length_map, hW]
  refine Does.mk (n := 121) Tryz.func104 rfl rfl rfl (Nat.le_of_ble_eq_true rfl) ?_
  repeat refine seq_on ?_
  refine call_by c1 ?_
  refine putw_i hW hW ?_
  repeat refine seq_on ?_
  refine whole_i (l := s.l) rfl ?_
  refine putw_i (l := s.l) rfl rfl ?_
  repeat refine seq_on ?_
  apply loop_inv (fun i : Nat => i ≤ 64) (fun i => ⟨[(2, .op 16 0 0), (4, .op 17 0 0), (5, .op 18 0 0), (6, .op 19 0 0), (17, .d (.i .i64 (i : Int)))], [(16, some (.arr 1 (s.l.map (.i .u32)))), (17, some (.arr 1 (zs8.map (.i .u32)))), (18, some (.arr 1 (W.map (.i .u32)))), (19, some (.arr 1 ((runR W s i).l.map (.i .u32))))], 2⟩) (fun i => 64 - i) 0 (Nat.zero_le _) [(16, _), (17, _), (18, _), (19, _)]
  · ((repeat' constructor) <;> (first | refine hold ?_ | rfl) <;> first | with_reducible rfl | (congr 1 <;> omega) | (congr 1 <;> simp; done) | (simp; done) | exact encB_snoc _ _ | skip)
    all_goals (first | rfl | (unfold runR; rfl))
  · intro i hi
    repeat refine seq_on ?_
    refine cmp_dec (fun h1 => ?_) (fun h1 => ?_)
    · have hi' : i < 64 := by omega
      have hrs := runR_succ W s i
      generalize hR : runR W s i = R at hrs
      repeat refine seq_on ?_
      refine same_is rfl ?_
      refine idx 4 rfl (by decide) ?_
      refine at_is rfl ?_
      refine call_by (rotC _ 6 (-6) rfl (by decide)) ?_
      refine same_is rfl ?_
      refine idx 4 rfl (by decide) ?_
      refine at_is rfl ?_
      refine call_by (rotC _ 11 (-11) rfl (by decide)) ?_
      refine same_is rfl ?_
      refine idx 4 rfl (by decide) ?_
      refine at_is rfl ?_
      refine call_by (rotC _ 25 (-25) rfl (by decide)) ?_
      ((try refine And.intro (draw_ok (by kernel_rfl)) ?_); repeat refine seq_on ?_)
      refine same_is rfl ?_
      refine idx 4 rfl (by decide) ?_
      refine at_is rfl ?_
      refine same_is rfl ?_
      refine idx 5 rfl (by decide) ?_
      refine at_is rfl ?_
      refine same_is rfl ?_
      refine idx 4 rfl (by decide) ?_
      refine at_is rfl ?_
      refine same_is rfl ?_
      refine idx 6 rfl (by decide) ?_
      refine at_is rfl ?_
      repeat refine seq_on ?_
      refine same_is rfl ?_
      refine idx 7 rfl (by decide) ?_
      refine at_is rfl ?_
      refine ar_wrap ?_
      refine ar_wrap ?_
      refine Eng.get_at i rfl (getW (l := shaK) hi') ?_
      refine ar_wrap ?_
      refine same_is hWm.symm ?_
      refine idx i rfl (by omega) ?_
      refine at_is (getW (by omega)) ?_
      refine ar_wrap ?_
      ((try refine And.intro (draw_ok (by kernel_rfl)) ?_); repeat refine seq_on ?_)
      refine same_is rfl ?_
      refine idx 0 rfl (by decide) ?_
      refine at_is rfl ?_
      refine call_by (rotC _ 2 (-2) rfl (by decide)) ?_
      refine same_is rfl ?_
      refine idx 0 rfl (by decide) ?_
      refine at_is rfl ?_
      refine call_by (rotC _ 13 (-13) rfl (by decide)) ?_
      refine same_is rfl ?_
      refine idx 0 rfl (by decide) ?_
      refine at_is rfl ?_
      refine call_by (rotC _ 22 (-22) rfl (by decide)) ?_
      ((try refine And.intro (draw_ok (by kernel_rfl)) ?_); repeat refine seq_on ?_)
      refine same_is rfl ?_
      refine idx 0 rfl (by decide) ?_
      refine at_is rfl ?_
      refine same_is rfl ?_
      refine idx 1 rfl (by decide) ?_
      refine at_is rfl ?_
      refine same_is rfl ?_
      refine idx 0 rfl (by decide) ?_
      refine at_is rfl ?_
      refine same_is rfl ?_
      refine idx 2 rfl (by decide) ?_
      refine at_is rfl ?_
      refine same_is rfl ?_
      refine idx 1 rfl (by decide) ?_
      refine at_is rfl ?_
      refine same_is rfl ?_
      refine idx 2 rfl (by decide) ?_
      refine at_is rfl ?_
      repeat refine seq_on ?_
      refine ar_wrap ?_
      refine ar_wrap ?_
      refine same_is rfl ?_
      refine idx 0 rfl (by decide) ?_
      refine at_is rfl ?_
      refine same_is rfl ?_
      refine idx 1 rfl (by decide) ?_
      refine at_is rfl ?_
      refine same_is rfl ?_
      refine idx 2 rfl (by decide) ?_
      refine at_is rfl ?_
      refine same_is rfl ?_
      refine idx 3 rfl (by decide) ?_
      refine at_is rfl ?_
      refine ar_wrap ?_
      refine same_is rfl ?_
      refine idx 4 rfl (by decide) ?_
      refine at_is rfl ?_
      refine same_is rfl ?_
      refine idx 5 rfl (by decide) ?_
      refine at_is rfl ?_
      refine same_is rfl ?_
      refine idx 6 rfl (by decide) ?_
      refine at_is rfl ?_
      refine putw_st (rnd R (shaK.getD i 0) (W.getD i 0)) rfl rfl rfl ?_
      repeat refine seq_on ?_
      refine ar ⟨by omega, by omega⟩ ?_
      apply again (i + 1) [(16, 16), (17, 17), (18, 18), (19, 19)] (by omega) (by omega)
      ((repeat' constructor) <;> (first | refine hold ?_ | rfl) <;> first | with_reducible rfl | (congr 1 <;> omega) | (congr 1 <;> simp; done) | (simp; done) | exact encB_snoc _ _ | skip)
      all_goals rw [hrs]
    · obtain rfl : i = 64 := by omega
      generalize runR W s 64 = R
      repeat refine seq_on ?_
      apply loop_inv (fun i : Nat => i ≤ 8) (fun i => ⟨[(2, .op 16 0 0), (4, .op 17 0 0), (6, .op 19 0 0), (108, .d (.i .i64 (i : Int)))], [(16, some (.arr 1 (s.l.map (.i .u32)))), (17, some (.arr 1 (zs8.map (.i .u32)))), (19, some (.arr 1 ((addL R.l s.l i).map (.i .u32))))], 2⟩) (fun i => 8 - i) 0 (Nat.zero_le _) [(16, 16), (17, 17), (19, 19)]
      · ((repeat' constructor) <;> (first | refine hold ?_ | rfl) <;> first | with_reducible rfl | (congr 1 <;> omega) | (congr 1 <;> simp; done) | (simp; done) | exact encB_snoc _ _ | skip)
        all_goals (unfold addL; rfl)
      · intro i hi
        have hal : (addL R.l s.l i).length = 8 := addL_len _ _ i
        have ham : ((addL R.l s.l i).map (D.i .u32)).length = 8 := by rw [List.length_map, hal]
        repeat refine seq_on ?_
        refine cmp_dec (fun h2 => ?_) (fun h2 => ?_)
        · have hi' : i < 8 := by omega
          repeat refine seq_on ?_
          refine same_is ham.symm ?_
          refine idx i rfl (by omega) ?_
          refine at_is (getW (by omega)) ?_
          refine same_is rfl ?_
          refine idx i rfl (by omega) ?_
          refine at_is (getW (l := s.l) hi') ?_
          refine ar_wrap ?_
          refine same_is ham.symm ?_
          refine idx i rfl (by omega) ?_
          refine set_is (getW (by omega)) ?_
          ((try refine And.intro (draw_ok (by kernel_rfl)) ?_); repeat refine seq_on ?_)
          refine ar ⟨by omega, by omega⟩ ?_
          apply again (i + 1) [(16, 16), (17, 17), (19, 19)] (by omega) (by omega)
          ((repeat' constructor) <;> (first | refine hold ?_ | rfl) <;> first | with_reducible rfl | (congr 1 <;> omega) | (congr 1 <;> simp; done) | (simp; done) | exact encB_snoc _ _ | skip)
          all_goals exact addL_map _ _ _
        · obtain rfl : i = 8 := by omega
          repeat refine seq_on ?_
          refine whole_i hal ?_
          refine putw_i hal hal ?_
          refine whole_i hal ?_
          rw [← addL_all]
          rfl
end Go.Proofs.YtbfkfmpfdafogaaGreatDoor

namespace Go.Proofs.YtbfkfmpfdafogaaGreatDoor
variable {G : List Go.Eng.Gl}
open Go.Eng
attribute [local irreducible] Hold
set_option maxRecDepth 100000

theorem putw_l {k : IntKind} {ds : List D} {n m : Nat} {K : List D → Prop} (l : List Int) (h : l.map (D.i k) = ds) (hl : l.length = n) (hm : l.length = m) (h1 : K (l.map (.i k))) : PutWK ds n 1 m K := by
  subst h
  exact putw_i hl hm h1
theorem const107 : Does (CG G) 107 [] [.agg (shaK.map (.i .u32))] := by
  refine Does.mk (n := 2) Tryz.func107 rfl rfl rfl (Nat.le_of_ble_eq_true rfl) ?_
  repeat refine seq_on ?_
  refine putw_l shaK rfl rfl rfl ?_
  refine whole_i (l := shaK) rfl ?_
  rfl
def st0 : St := ⟨1779033703, 3144134277, 1013904242, 2773480762, 1359893119, 2600822924, 528734635, 1541459225⟩
theorem init73 : Does (CG G) 73 [] [stD st0] := by
  refine Does.mk (n := 2) Tryz.func73 rfl rfl rfl (Nat.le_of_ble_eq_true rfl) ?_
  repeat refine seq_on ?_
  refine putw_l st0.l rfl rfl rfl ?_
  refine whole_i (l := st0.l) rfl ?_
  rfl
def rndR (s : St) (k w : Int) : St := ⟨w32 (tOne s k w + w32 (bigS0 s.x0 + majF s.x0 s.x1 s.x2)), s.x0, s.x1, s.x2, w32 (s.x3 + tOne s k w), s.x4, s.x5, s.x6⟩
theorem rndR_eq (s : St) (k w : Int) : rndR s k w = rnd s k w := by unfold rndR rnd; rw [w32_assoc]
theorem rndR_l (s : St) (k w : Int) : (rndR s k w).l = (rnd s k w).l := by rw [rndR_eq]
theorem sched_eq (b : List UInt8) : wM (wA b 16) 48 = sched b := rfl
attribute [local irreducible] runR wM wA rotr bitsOp sched addL
theorem block74 (s : St) (b : List UInt8) (hb : b.length = 64) : Does (CG G) 74 [stD s, .sl 1 (encB b)] [stD (mixF s b)] := by
  have hbl : (encB b).length = 64 := by rw [encB_len, hb]
  have c1 := const107 (G := G)
  have hW := sched_len b
  unfold mixF stD
  rw [addS_comm]
  refine Does.mk (n := 196) Tryz.func74 rfl rfl rfl (Nat.le_of_ble_eq_true rfl) ?_
  repeat refine seq_on ?_
  apply loop_inv (fun i : Nat => i ≤ 16) (fun i => ⟨[(1, .d (.sl 1 (encB b))), (2, .op 16 0 0), (4, .op 17 0 0), (5, .op 18 0 0), (6, .d (.i .i64 (i : Int)))], [(16, some (.arr 1 (s.l.map (.i .u32)))), (17, some (.arr 1 (zs8.map (.i .u32)))), (18, some (.arr 1 ((wA b i).map (.i .u32))))], 2⟩) (fun i => 16 - i) 0 (Nat.zero_le _) [(16, _), (17, _), (18, _)]
  · ((repeat' constructor) <;> (first | refine hold ?_ | rfl) <;> first | with_reducible rfl | (congr 1 <;> omega) | (congr 1 <;> simp; done) | (simp; done) | exact encB_snoc _ _ | skip)
    all_goals (first | rfl | (unfold wA; rfl))
  · intro i hi
    have hwl := wA_len b i
    have hwm : ((wA b i).map (D.i .u32)).length = 64 := by rw [List.length_map, hwl]
    repeat refine seq_on ?_
    refine cmp_dec (fun h1 => ?_) (fun h1 => ?_)
    · have hi' : i < 16 := by omega
      have y0 := byteA_lt b (4 * i)
      have y1 := byteA_lt b (4 * i + 1)
      have y2 := byteA_lt b (4 * i + 2)
      have y3 := byteA_lt b (4 * i + 3)
      repeat refine seq_on ?_
      refine ar ⟨by omega, by omega⟩ ?_
      refine Eng.get_at (4 * i) (by omega) (getY (by omega)) ?_
      refine aru32 ⟨by omega, by omega⟩ ?_
      refine And.intro (by omega) (ar_wrap ?_)
      refine ar ⟨by omega, by omega⟩ ?_
      refine ar ⟨by omega, by omega⟩ ?_
      refine Eng.get_at (4 * i + 1) (by omega) (getY (by omega)) ?_
      refine aru32 ⟨by omega, by omega⟩ ?_
      refine And.intro (by omega) (ar_wrap ?_)
      refine ar ⟨by omega, by omega⟩ ?_
      refine ar ⟨by omega, by omega⟩ ?_
      refine Eng.get_at (4 * i + 2) (by omega) (getY (by omega)) ?_
      refine aru32 ⟨by omega, by omega⟩ ?_
      refine And.intro (by omega) (ar_wrap ?_)
      refine ar ⟨by omega, by omega⟩ ?_
      refine ar ⟨by omega, by omega⟩ ?_
      refine Eng.get_at (4 * i + 3) (by omega) (getY (by omega)) ?_
      refine aru32 ⟨by omega, by omega⟩ ?_
      refine same_is hwm.symm ?_
      refine idx i rfl (by omega) ?_
      refine set_is (getW (by omega)) ?_
      ((try refine And.intro (draw_ok (by kernel_rfl)) ?_); repeat refine seq_on ?_)
      refine ar ⟨by omega, by omega⟩ ?_
      apply again (i + 1) [(16, 16), (17, 17), (18, 18)] (by omega) (by omega)
      ((repeat' constructor) <;> (first | refine hold ?_ | rfl) <;> first | with_reducible rfl | (congr 1 <;> omega) | (congr 1 <;> simp; done) | (simp; done) | exact encB_snoc _ _ | skip)
      all_goals exact wA_map _ _
    · obtain rfl : i = 16 := by omega
      have hz : (wA b 16).length = 64 := wA_len b 16
      repeat refine seq_on ?_
      apply loop_inv (fun j : Nat => j ≤ 48) (fun j => ⟨[(2, .op 16 0 0), (4, .op 17 0 0), (5, .op 18 0 0), (7, .d (.i .i64 ((16 + j : Nat) : Int)))], [(16, some (.arr 1 (s.l.map (.i .u32)))), (17, some (.arr 1 (zs8.map (.i .u32)))), (18, some (.arr 1 ((wM (wA b 16) j).map (.i .u32))))], 2⟩) (fun j => 48 - j) 0 (Nat.zero_le _) [(16, 16), (17, 17), (18, 18)]
      · ((repeat' constructor) <;> (first | refine hold ?_ | rfl) <;> first | with_reducible rfl | (congr 1 <;> omega) | (congr 1 <;> simp; done) | (simp; done) | exact encB_snoc _ _ | skip)
        all_goals (unfold wM; rfl)
      · intro j hj
        have hwl := wM_len (wA b 16) hz j
        have hwm : ((wM (wA b 16) j).map (D.i .u32)).length = 64 := by rw [List.length_map, hwl]
        repeat refine seq_on ?_
        refine cmp_dec (fun h2 => ?_) (fun h2 => ?_)
        · have hj' : j < 48 := by omega
          repeat refine seq_on ?_
          refine ar ⟨by omega, by omega⟩ ?_
          refine same_is hwm.symm ?_
          refine idx (16 + j - 15) (by omega) (by omega) ?_
          refine at_is (getW (by omega)) ?_
          refine ar ⟨by omega, by omega⟩ ?_
          refine same_is hwm.symm ?_
          refine idx (16 + j - 2) (by omega) (by omega) ?_
          refine at_is (getW (by omega)) ?_
          ((try refine And.intro (draw_ok (by kernel_rfl)) ?_); repeat refine seq_on ?_)
          refine ar ⟨by omega, by omega⟩ ?_
          refine same_is hwm.symm ?_
          refine idx (16 + j - 16) (by omega) (by omega) ?_
          refine at_is (getW (by omega)) ?_
          refine call_by (rightC _ 7 (7) rfl (by decide)) ?_
          refine call_by (rightC _ 18 (18) rfl (by decide)) ?_
          refine And.intro (by decide) ?_
          refine ar_wrap ?_
          refine ar ⟨by omega, by omega⟩ ?_
          refine same_is hwm.symm ?_
          refine idx (16 + j - 7) (by omega) (by omega) ?_
          refine at_is (getW (by omega)) ?_
          refine ar_wrap ?_
          refine call_by (rightC _ 17 (17) rfl (by decide)) ?_
          refine call_by (rightC _ 19 (19) rfl (by decide)) ?_
          refine And.intro (by decide) ?_
          refine ar_wrap ?_
          refine same_is hwm.symm ?_
          refine idx (16 + j) rfl (by omega) ?_
          refine set_is (getW (by omega)) ?_
          ((try refine And.intro (draw_ok (by kernel_rfl)) ?_); repeat refine seq_on ?_)
          refine ar ⟨by omega, by omega⟩ ?_
          apply again (j + 1) [(16, 16), (17, 17), (18, 18)] (by omega) (by omega)
          ((repeat' constructor) <;> (first | refine hold ?_ | rfl) <;> first | with_reducible rfl | (congr 1 <;> omega) | (congr 1 <;> simp; done) | (simp; done) | exact encB_snoc _ _ | skip)
          all_goals exact wM_map _ _
        · obtain rfl : j = 48 := by omega
          rw [sched_eq]
          generalize sched b = W at hW
          have hWm : (W.map (D.i .u32)).length = 64 := by rw [List.length_map, hW]
          repeat refine seq_on ?_
          refine whole_i (l := s.l) rfl ?_
          refine call_by c1 ?_
          refine putw_i (l := s.l) rfl rfl ?_
          refine putw_i (l := shaK) rfl rfl ?_
          ((try refine And.intro (draw_ok (by kernel_rfl)) ?_); repeat refine seq_on ?_)
          apply loop_inv (fun i : Nat => i ≤ 64) (fun i => ⟨[(2, .op 16 0 0), (4, .op 17 0 0), (5, .op 18 0 0), (10, .op 19 0 0), (11, .op 20 0 0), (12, .d (.i .i64 (i : Int)))], [(16, some (.arr 1 (s.l.map (.i .u32)))), (17, some (.arr 1 (zs8.map (.i .u32)))), (18, some (.arr 1 (W.map (.i .u32)))), (19, some (.arr 1 ((runR W s i).l.map (.i .u32)))), (20, some (.arr 1 (shaK.map (.i .u32))))], 2⟩) (fun i => 64 - i) 0 (Nat.zero_le _) [(16, 16), (17, 17), (18, 18), (19, _), (20, _)]
          · ((repeat' constructor) <;> (first | refine hold ?_ | rfl) <;> first | with_reducible rfl | (congr 1 <;> omega) | (congr 1 <;> simp; done) | (simp; done) | exact encB_snoc _ _ | skip)
            all_goals (unfold runR; rfl)
          · intro i hi
            repeat refine seq_on ?_
            refine cmp_dec (fun h3 => ?_) (fun h3 => ?_)
            · have hi' : i < 64 := by omega
              have hrs := runR_succ W s i
              generalize hR : runR W s i = R at hrs
              rw [← rndR_eq] at hrs
              repeat refine seq_on ?_
              refine same_is rfl ?_
              refine idx 4 rfl (by decide) ?_
              refine at_is rfl ?_
              refine same_is rfl ?_
              refine idx 0 rfl (by decide) ?_
              refine at_is rfl ?_
              ((try refine And.intro (draw_ok (by kernel_rfl)) ?_); repeat refine seq_on ?_)
              refine same_is rfl ?_
              refine idx 7 rfl (by decide) ?_
              refine at_is rfl ?_
              refine call_by (rightC _ 6 (6) rfl (by decide)) ?_
              refine call_by (rightC _ 11 (11) rfl (by decide)) ?_
              refine call_by (rightC _ 25 (25) rfl (by decide)) ?_
              refine ar_wrap ?_
              refine same_is rfl ?_
              refine idx 5 rfl (by decide) ?_
              refine at_is rfl ?_
              refine same_is rfl ?_
              refine idx 6 rfl (by decide) ?_
              refine at_is rfl ?_
              refine ar_wrap ?_
              refine same_is rfl ?_
              refine idx i rfl (by omega) ?_
              refine at_is (getW (l := shaK) hi') ?_
              refine ar_wrap ?_
              refine same_is hWm.symm ?_
              refine idx i rfl (by omega) ?_
              refine at_is (getW (by omega)) ?_
              refine ar_wrap ?_
              ((try refine And.intro (draw_ok (by kernel_rfl)) ?_); repeat refine seq_on ?_)
              refine call_by (rightC _ 2 (2) rfl (by decide)) ?_
              refine call_by (rightC _ 13 (13) rfl (by decide)) ?_
              refine call_by (rightC _ 22 (22) rfl (by decide)) ?_
              refine same_is rfl ?_
              refine idx 1 rfl (by decide) ?_
              refine at_is rfl ?_
              refine same_is rfl ?_
              refine idx 2 rfl (by decide) ?_
              refine at_is rfl ?_
              refine same_is rfl ?_
              refine idx 1 rfl (by decide) ?_
              refine at_is rfl ?_
              refine same_is rfl ?_
              refine idx 2 rfl (by decide) ?_
              refine at_is rfl ?_
              refine ar_wrap ?_
              ((try refine And.intro (draw_ok (by kernel_rfl)) ?_); repeat refine seq_on ?_)
              refine ar_wrap ?_
              refine same_is rfl ?_
              refine idx 0 rfl (by decide) ?_
              refine at_is rfl ?_
              refine same_is rfl ?_
              refine idx 1 rfl (by decide) ?_
              refine at_is rfl ?_
              refine same_is rfl ?_
              refine idx 2 rfl (by decide) ?_
              refine at_is rfl ?_
              refine same_is rfl ?_
              refine idx 3 rfl (by decide) ?_
              refine at_is rfl ?_
              refine ar_wrap ?_
              refine same_is rfl ?_
              refine idx 4 rfl (by decide) ?_
              refine at_is rfl ?_
              refine same_is rfl ?_
              refine idx 5 rfl (by decide) ?_
              refine at_is rfl ?_
              refine same_is rfl ?_
              refine idx 6 rfl (by decide) ?_
              refine at_is rfl ?_
              refine putw_st (rndR R (shaK.getD i 0) (W.getD i 0)) rfl rfl rfl ?_
              repeat refine seq_on ?_
              refine ar ⟨by omega, by omega⟩ ?_
              apply again (i + 1) [(16, 16), (17, 17), (18, 18), (19, 19), (20, 20)] (by omega) (by omega)
              ((repeat' constructor) <;> (first | refine hold ?_ | rfl) <;> first | with_reducible rfl | (congr 1 <;> omega) | (congr 1 <;> simp; done) | (simp; done) | exact encB_snoc _ _ | skip)
              all_goals rw [hrs]
            · obtain rfl : i = 64 := by omega
              generalize runR W s 64 = R
              repeat refine seq_on ?_
              apply loop_inv (fun i : Nat => i ≤ 8) (fun i => ⟨[(2, .op 16 0 0), (4, .op 17 0 0), (10, .op 19 0 0), (17, .d (.i .i64 (i : Int)))], [(16, some (.arr 1 ((addL s.l R.l i).map (.i .u32)))), (17, some (.arr 1 (zs8.map (.i .u32)))), (19, some (.arr 1 (R.l.map (.i .u32))))], 2⟩) (fun i => 8 - i) 0 (Nat.zero_le _) [(16, 16), (17, 17), (19, 19)]
              · ((repeat' constructor) <;> (first | refine hold ?_ | rfl) <;> first | with_reducible rfl | (congr 1 <;> omega) | (congr 1 <;> simp; done) | (simp; done) | exact encB_snoc _ _ | skip)
                all_goals (unfold addL; rfl)
              · intro i hi
                have hal : (addL s.l R.l i).length = 8 := addL_len _ _ i
                have ham : ((addL s.l R.l i).map (D.i .u32)).length = 8 := by rw [List.length_map, hal]
                repeat refine seq_on ?_
                refine cmp_dec (fun h4 => ?_) (fun h4 => ?_)
                · have hi' : i < 8 := by omega
                  repeat refine seq_on ?_
                  refine same_is ham.symm ?_
                  refine idx i rfl (by omega) ?_
                  refine at_is (getW (by omega)) ?_
                  refine same_is rfl ?_
                  refine idx i rfl (by omega) ?_
                  refine at_is (getW (l := R.l) hi') ?_
                  refine ar_wrap ?_
                  refine same_is ham.symm ?_
                  refine idx i rfl (by omega) ?_
                  refine set_is (getW (by omega)) ?_
                  ((try refine And.intro (draw_ok (by kernel_rfl)) ?_); repeat refine seq_on ?_)
                  refine ar ⟨by omega, by omega⟩ ?_
                  apply again (i + 1) [(16, 16), (17, 17), (19, 19)] (by omega) (by omega)
                  ((repeat' constructor) <;> (first | refine hold ?_ | rfl) <;> first | with_reducible rfl | (congr 1 <;> omega) | (congr 1 <;> simp; done) | (simp; done) | exact encB_snoc _ _ | skip)
                  all_goals exact addL_map _ _ _
                · obtain rfl : i = 8 := by omega
                  repeat refine seq_on ?_
                  refine whole_i hal ?_
                  refine putw_i hal hal ?_
                  refine whole_i hal ?_
                  rw [← addL_all]
                  rfl
end Go.Proofs.YtbfkfmpfdafogaaGreatDoor

namespace Go.Proofs.YtbfkfmpfdafogaaGreatDoor
variable {G : List Go.Eng.Gl}
open Go.Eng
attribute [local irreducible] Hold
set_option maxRecDepth 100000

/-! Whole blocks, one after the other; the state of a digest. -/
def stepsF (s : St) (b : List UInt8) : Nat → St
  | 0 => s
  | k + 1 => mixF (stepsF s b k) ((b.drop (64 * k)).take 64)
def digD (s : St) (n : Int) (t : List UInt8) : D := .agg [.i .u32 s.x0, .i .u32 s.x1, .i .u32 s.x2, .i .u32 s.x3, .i .u32 s.x4, .i .u32 s.x5, .i .u32 s.x6, .i .u32 s.x7, .i .i64 n, .sl 1 (encB t)]
theorem stepsF_succ (s : St) (b : List UInt8) (k : Nat) : stepsF s b (k + 1) = mixF (stepsF s b k) ((b.drop (64 * k)).take 64) := rfl
theorem stepsF_zero (s : St) (b : List UInt8) : stepsF s b 0 = s := rfl
attribute [local irreducible] stepsF mixF
theorem cloneB (xs : List UInt8) (h : xs.length ≤ 68719476736) : Does (CG G) 105 [.sl 1 (encB xs)] [.sl 1 (encB xs)] := by
  have hl : (encB xs).length = xs.length := encB_len xs
  refine Does.mk (n := 8) Tryz.func105 rfl rfl rfl (Nat.le_of_ble_eq_true rfl) ?_
  repeat refine seq_on ?_
  refine nil_both (fun h0 => ?_) (fun h0 => ?_)
  · refine both ?_ ?_
    · repeat refine seq_on ?_
      rw [h0]
      rfl
    · repeat refine seq_on ?_
      refine app_ok (by simp; omega) ?_
      repeat refine seq_on ?_
      rfl
  · repeat refine seq_on ?_
    refine app_ok (by simp; omega) ?_
    repeat refine seq_on ?_
    rfl
theorem start70 : Does (CD G) 70 [] [digD st0 0 []] := by
  refine Does.mk (n := 3) Tryz.func70 rfl rfl rfl (Nat.le_of_ble_eq_true rfl) ?_
  repeat refine seq_on ?_
  rfl
theorem write71 (s : St) (n : Int) (t b : List UInt8) (hn : 0 ≤ n ∧ n ≤ 1152921504606846976) (ht : t.length ≤ 1000000) (hb : b.length ≤ 34359738368) :
    Does (CD G) 71 [digD s n t, .sl 1 (encB b)] [digD (stepsF s (t ++ b) ((t ++ b).length / 64)) (n + (b.length : Int)) ((t ++ b).drop (64 * ((t ++ b).length / 64)))] := by
  have hcc := concatB (G := gD G) [encB t, encB b] (by simp [encB_len]; omega) (by simp)
  rw [show [encB t, encB b].flatten = encB (t ++ b) by simp [encB_app]] at hcc
  have hbl : (encB b).length = b.length := encB_len b
  have hal : (t ++ b).length = t.length + b.length := List.length_append
  have h0 := stepsF_zero s (t ++ b)
  generalize t ++ b = a at hcc hal h0
  have hel : (encB a).length = a.length := encB_len a
  generalize hK : a.length / 64 = K
  unfold digD
  refine Does.mk (n := 32) Tryz.func71 rfl rfl rfl (Nat.le_of_ble_eq_true rfl) ?_
  repeat refine seq_on ?_
  refine ar ⟨by omega, by omega⟩ ?_
  repeat refine seq_on ?_
  refine call_alt (callh [] hcc ?_ ?_)
  · ((repeat' constructor) <;> (first | refine hold ?_ | rfl) <;> first | with_reducible rfl | (congr 1 <;> omega) | (congr 1 <;> simp; done) | (simp; done) | exact encB_snoc _ _ | skip)
  repeat refine seq_on ?_
  apply loop_inv (fun k : Nat => k ≤ K) (fun k => ⟨[(2, .op 16 0 0), (4, .op 17 0 0), (5, .d (.sl 1 (encB (a.drop (64 * k)))))], [(16, some (.box [.d (.i .u32 (stepsF s a k).x0), .d (.i .u32 (stepsF s a k).x1), .d (.i .u32 (stepsF s a k).x2), .d (.i .u32 (stepsF s a k).x3), .d (.i .u32 (stepsF s a k).x4), .d (.i .u32 (stepsF s a k).x5), .d (.i .u32 (stepsF s a k).x6), .d (.i .u32 (stepsF s a k).x7), .d (.i .i64 (n + (b.length : Int))), .d (.sl 1 (encB t))])), (17, some (.box [.d (.i .u32 0), .d (.i .u32 0), .d (.i .u32 0), .d (.i .u32 0), .d (.i .u32 0), .d (.i .u32 0), .d (.i .u32 0), .d (.i .u32 0), .d (.i .i64 0), .nl 1]))], 2⟩) (fun k => K - k) 0 (Nat.zero_le _) [(16, _), (17, _)]
  · ((repeat' constructor) <;> (first | refine hold ?_ | rfl) <;> first | with_reducible rfl | (congr 1 <;> omega) | (congr 1 <;> simp; done) | (simp; done) | exact encB_snoc _ _ | skip)
    all_goals (first | rw [h0] | rw [hbl] | skip)
  · intro k hk
    have hdl : (encB (a.drop (64 * k))).length = a.length - 64 * k := by rw [encB_len, List.length_drop]
    repeat refine seq_on ?_
    refine cmp_dec (fun h1 => ?_) (fun h1 => ?_)
    · have hk' : k < K := by omega
      have hst := stepsF_succ s a k
      have h64 : ((a.drop (64 * k)).take 64).length = 64 := by rw [List.length_take, List.length_drop]; omega
      have cm := mix104 (G := G) (stepsF s a k) ((a.drop (64 * k)).take 64) h64
      rw [← hst] at cm
      have he1 : (encB (a.drop (64 * k))).take 64 = encB ((a.drop (64 * k)).take 64) := by unfold encB; rw [List.map_take]
      have he2 : (encB (a.drop (64 * k))).drop 64 = encB (a.drop (64 * (k + 1))) := by unfold encB; rw [← List.map_drop, List.drop_drop]; congr 2
      repeat refine seq_on ?_
      refine bnd 64 rfl (by omega) ?_
      rw [he1]
      refine call_by cm ?_
      ((try refine And.intro (draw_ok (by kernel_rfl)) ?_); repeat refine seq_on ?_)
      refine bnd 64 rfl (by omega) ?_
      rw [he2]
      repeat refine seq_on ?_
      apply again (k + 1) [(16, 16), (17, 17)] (by omega) (by omega)
      ((repeat' constructor) <;> (first | refine hold ?_ | rfl) <;> first | with_reducible rfl | (congr 1 <;> omega) | (congr 1 <;> simp; done) | (simp; done) | exact encB_snoc _ _ | skip)
    · obtain rfl : k = K := by omega
      have cc := cloneB (G := gD G) (a.drop (64 * k)) (by rw [List.length_drop]; omega)
      repeat refine seq_on ?_
      refine call_by cc ?_
      repeat refine seq_on ?_
      rfl
end Go.Proofs.YtbfkfmpfdafogaaGreatDoor

