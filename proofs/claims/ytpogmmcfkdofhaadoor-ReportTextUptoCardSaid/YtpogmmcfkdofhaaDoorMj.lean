import Derived.Test.YtpogmmcfkdofhaaDoorMi
namespace Go.Proofs.YtpogmmcfkdofhaaDoor
open Go.Eng
attribute [local irreducible] Hold
set_option maxRecDepth 100000

def recK (l : List Int) (k : Nat) : Rec := ⟨(k : Int) + 1, l.getD k 0, 3, false, false, []⟩
/-- What is kept of the first i. -/
def keepK (l : List Int) (m i : Nat) : List Rec := ((List.range i).map (recK l)).drop (i - m)
theorem keepK_len (l : List Int) (m i : Nat) : (keepK l m i).length = min i m := by unfold keepK; simp; omega
theorem keepK_succ (l : List Int) (m i : Nat) : lastF m (keepK l m i ++ [recK l i]) = keepK l m (i + 1) := by
  unfold lastF
  have h1 : (keepK l m i ++ [recK l i]).length - (max (m : Int) 0).toNat = min i m + 1 - m := by simp [keepK_len]
  rw [h1]
  unfold keepK
  rw [List.range_succ, List.map_append]
  rcases Nat.lt_or_ge i m with h | h
  · rw [show i - m = 0 by omega, show i + 1 - m = 0 by omega, show min i m + 1 - m = 0 by omega]; rfl
  · have e1 : i - m + (min i m + 1 - m) = i + 1 - m := by omega
    have e2 : min i m + 1 - m - (((List.range i).map (recK l)).drop (i - m)).length = i + 1 - m - ((List.range i).map (recK l)).length := by simp; omega
    rw [List.drop_append, List.drop_append, List.drop_drop, e1, e2]; rfl
theorem keepK_get (l : List Int) (m i k : Nat) (h : k < min i m) : (keepK l m i)[k]'(by rw [keepK_len]; exact h) = recK l (i - min i m + k) := by
  have e : i - m = i - min i m := by omega
  simp only [keepK, List.getElem_drop, List.getElem_map, List.getElem_range, e]
theorem keepK_fl (l : List Int) (m i : Nat) : ∀ x, x ∈ keepK l m i → x.fl = [] := by
  intro x hx
  have := List.mem_of_mem_drop hx
  obtain ⟨k, _, rfl⟩ := List.mem_map.1 this
  rfl

def f14s (l : List Int) (m i : Nat) : AS := ⟨[(0, .d (ints l)), (1, .d (.i .i64 (m : Int))), (5, .op 16 0 0), (6, .d (.i .i64 (i : Int)))], [(16, some (.box [.d (.i .i64 (m : Int)), .d (.i .i64 (i : Int)), .d (recs (keepK l m i))]))], 2⟩
def g14s (l : List Int) (m i k : Nat) : AS := ⟨[(0, .d (ints l)), (1, .d (.i .i64 (m : Int))), (5, .op 16 0 0), (6, .d (.i .i64 (i : Int))), (7, .d (.i .i64 (k : Int)))], [(16, some (.box [.d (.i .i64 (m : Int)), .d (.i .i64 ((i : Int) + 1)), .d (recs (keepK l m (i + 1)))]))], 2⟩

theorem law14 (l : List Int) (most : Int) : Does C 14 [ints l, .i .i64 most] [.b true] := by
  obtain ⟨m, hm, h1⟩ := within38 most 6 (by omega)
  have hc : capOf (m : Int) = m := by unfold capOf; omega
  have hnew := new50 (m : Int)
  rw [hc] at hnew
  have ht : (l.take 30).length ≤ 30 := by rw [List.length_take]; omega
  have h51 := cut51 l 30
  generalize l.take 30 = l at ht h51
  have hlen : (l.map (D.i .i64)).length = l.length := by simp
  refine Does.mk (n := 81) Tryd.func14 rfl rfl rfl (Nat.le_of_ble_eq_true rfl) ?_
  refine call_by h1 ?_
  refine call_by hnew ?_
  repeat refine seq_on ?_
  refine call_by h51 ?_
  repeat refine seq_on ?_
  apply loop_inv (fun i => i ≤ l.length) (f14s l m) (fun i => l.length - i) 0 (Nat.zero_le _) [(16, _)]
  · ((repeat' constructor) <;> refine hold ?_ <;> first | with_reducible rfl | (congr 1 <;> omega) | (congr 1 <;> simp; done) | (simp; done) | exact encB_snoc _ _ | skip)
    simp [keepK]
  intro i hi
  repeat refine seq_on ?_
  refine cmp_dec (fun h => ?_) (fun h => ?_)
  · have hi' : i < l.length := by omega
    have h52 := add52 m i (l.getD i 0) 3 false false [] (keepK l m i) (by rw [keepK_len]; omega) ⟨by omega, by omega⟩ ⟨by omega, by omega⟩ (by decide) (fun x hx => by rw [keepK_fl l m i x hx]; decide)
    have hser : serF (i : Int) = (i : Int) + 1 := by unfold serF; rw [if_pos (by omega)]
    rw [hser] at h52
    have hk := keepK_succ l m i
    unfold recK at hk
    rw [hk] at h52
    repeat refine seq_on ?_
    refine Eng.get_at i rfl (getInts hi') ?_
    refine call_by h52 ?_
    refine ⟨draw_ok (by kernel_rfl), ?_⟩
    repeat refine seq_on ?_
    have hkl : ((keepK l m (i + 1)).map recD).length = min (i + 1) m := by rw [List.length_map, keepK_len]
    refine ar ⟨by omega, by omega⟩ ?_
    refine cmp_no (fun h => h (by rw [hkl]; omega)) ?_
    refine ar ⟨by omega, by omega⟩ ?_
    refine cmp_no (fun h => h rfl) ?_
    repeat refine seq_on ?_
    apply loop_inv (fun k => k ≤ min (i + 1) m) (g14s l m i) (fun k => min (i + 1) m - k) 0 (Nat.zero_le _) [(16, _)]
    · ((repeat' constructor) <;> refine hold ?_ <;> first | with_reducible rfl | (congr 1 <;> omega) | (congr 1 <;> simp; done) | (simp; done) | exact encB_snoc _ _ | skip)
    intro k hk
    repeat refine seq_on ?_
    refine cmp_dec (fun h => ?_) (fun h => ?_)
    · have hk' : k < min (i + 1) m := by rw [hkl] at h; omega
      have hlt : k < (keepK l m (i + 1)).length := by rw [keepK_len]; exact hk'
      have hg := keepK_get l m (i + 1) k hk'
      have hidx : i + 1 - min (i + 1) m + k < l.length := by omega
      have hgl : ((keepK l m (i + 1)).map recD)[k]? = some (recD (recK l (i + 1 - min (i + 1) m + k))) := by
        rw [List.getElem?_map, List.getElem?_eq_getElem hlt, hg]; rfl
      repeat refine seq_on ?_
      refine ar ⟨by omega, by omega⟩ ?_
      refine ar ⟨by rw [hkl]; omega, by rw [hkl]; omega⟩ ?_
      refine ar ⟨by rw [hkl]; omega, by rw [hkl]; omega⟩ ?_
      repeat refine seq_on ?_
      refine Eng.get_at k rfl hgl ?_
      refine ar ⟨by rw [hkl]; omega, by rw [hkl]; omega⟩ ?_
      refine cmp_no (fun h => h (by rw [hkl]; show ((i + 1 - min (i + 1) m + k : Nat) : Int) + 1 = _; omega)) ?_
      refine Eng.get_at k rfl hgl ?_
      refine Eng.get_at (i + 1 - min (i + 1) m + k) (by rw [hkl]; omega) (getInts hidx) ?_
      refine cmp_no (fun h => h rfl) ?_
      refine ⟨draw_ok (by kernel_rfl), ?_⟩
      repeat refine seq_on ?_
      refine ar ⟨by omega, by omega⟩ ?_
      apply again (k + 1) [(16, _)] (by omega) (by omega)
      ((repeat' constructor) <;> refine hold ?_ <;> first | with_reducible rfl | (congr 1 <;> omega) | (congr 1 <;> simp; done) | (simp; done) | exact encB_snoc _ _ | skip)
    · repeat refine seq_on ?_
      refine ar ⟨by omega, by omega⟩ ?_
      apply again (i + 1) [(16, _)] (by omega) (by omega)
      ((repeat' constructor) <;> refine hold ?_ <;> first | with_reducible rfl | (congr 1 <;> omega) | (congr 1 <;> simp; done) | (simp; done) | exact encB_snoc _ _ | skip)
  · repeat refine seq_on ?_
    refine call_by awake42 ?_
    rfl
end Go.Proofs.YtpogmmcfkdofhaaDoor

