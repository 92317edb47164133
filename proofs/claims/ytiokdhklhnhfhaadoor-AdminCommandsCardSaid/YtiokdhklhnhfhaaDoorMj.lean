import Derived.Test.YtiokdhklhnhfhaaDoorMi
namespace Go.Proofs.YtiokdhklhnhfhaaDoor
variable {G : List Go.Eng.Gl}
open Go.Eng
attribute [local irreducible] Hold
set_option maxRecDepth 100000

def recK (l : List Int) (k : Nat) : Rec := ⟨(k : Int) + 1, l.getD k 0, 3, false, false, []⟩
/-- What is kept of the first i. -/
def keepK (l : List Int) (m i : Nat) : List Rec := ((List.range i).map (recK l)).drop (i - m)
theorem keepK_len (l : List Int) (m i : Nat) : (keepK l m i).length = min i m := by unfold keepK; simp; omega
theorem keepK_succ (l : List Int) (m i : Nat) : lastF m (keepK l m i ++ [recK l i]) = keepK l m (i + 1) := by
  unfold lastF
  have h1 : (keepK l m i ++ [recK l i]).length - (max (m : Int) 0).toNat = min i m + 1 - m := by simp [keepK_len]
  rw [h1]
  unfold keepK
  rw [List.range_succ, List.map_append]
  rcases Nat.lt_or_ge i m with h | h
  · rw [show i - m = 0 by omega, show i + 1 - m = 0 by omega, show min i m + 1 - m = 0 by omega]; rfl
  · have e1 : i - m + (min i m + 1 - m) = i + 1 - m := by omega
    have e2 : min i m + 1 - m - (((List.range i).map (recK l)).drop (i - m)).length = i + 1 - m - ((List.range i).map (recK l)).length := by simp; omega
    rw [List.drop_append, List.drop_append, List.drop_drop, e1, e2]; rfl
theorem keepK_get (l : List Int) (m i k : Nat) (h : k < min i m) : (keepK l m i)[k]'(by rw [keepK_len]; exact h) = recK l (i - min i m + k) := by
  have e : i - m = i - min i m := by omega
  simp only [keepK, List.getElem_drop, List.getElem_map, List.getElem_range, e]
theorem keepK_fl (l : List Int) (m i : Nat) : ∀ x, x ∈ keepK l m i → x.fl = [] := by
  intro x hx
  have := List.mem_of_mem_drop hx
  obtain ⟨k, _, rfl⟩ := List.mem_map.1 this
  rfl

def f14s (l : List Int) (m i : Nat) : AS := ⟨[(0, .d (ints l)), (1, .d (.i .i64 (m : Int))), (5, .op 16 0 0), (6, .d (.i .i64 (i : Int)))], [(16, some (.box [.d (.i .i64 (m : Int)), .d (.i .i64 (i : Int)), .d (recs (keepK l m i))]))], 2⟩
def g14s (l : List Int) (m i k : Nat) : AS := ⟨[(0, .d (ints l)), (1, .d (.i .i64 (m : Int))), (5, .op 16 0 0), (6, .d (.i .i64 (i : Int))), (7, .d (.i .i64 (k : Int)))], [(16, some (.box [.d (.i .i64 (m : Int)), .d (.i .i64 ((i : Int) + 1)), .d (recs (keepK l m (i + 1)))]))], 2⟩

end Go.Proofs.YtiokdhklhnhfhaaDoor

