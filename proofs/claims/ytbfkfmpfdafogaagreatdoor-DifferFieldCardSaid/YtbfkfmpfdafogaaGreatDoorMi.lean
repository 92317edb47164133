import Derived.Test.YtbfkfmpfdafogaaGreatDoorMg
namespace Go.Proofs.YtbfkfmpfdafogaaGreatDoor
variable {G : List Go.Eng.Gl}
open Go.Eng
attribute [local irreducible] Hold
set_option maxRecDepth 100000

structure Rec where
  ser : Int
  exc : Int
  rea : Int
  st : Bool
  bo : Bool
  fl : List (List UInt8)
def Rec.cells (x : Rec) : List D := [.i .i64 x.ser, .i .i64 x.exc, .i .i64 x.rea, .b x.st, .b x.bo, strs x.fl]
def recD (x : Rec) : D := .agg [.i .i64 x.ser, .i .i64 x.exc, .i .i64 x.rea, .b x.st, .b x.bo, strs x.fl]
def difD (s b : Bool) (f : List (List UInt8)) : D := .agg [.b s, .b b, strs f]
def recs (l : List Rec) : D := .sl 6 (l.map recD)
def repD (cap ser : Int) (l : List Rec) : D := .agg [.i .i64 cap, .i .i64 ser, recs l]

/-- How many the list is cut by: as New does. -/
def capOf (n : Int) : Int := min (max n 0) 10000
end Go.Proofs.YtbfkfmpfdafogaaGreatDoor

namespace Go.Proofs.YtbfkfmpfdafogaaGreatDoor
variable {G : List Go.Eng.Gl}
open Go.Eng
attribute [local irreducible] Hold
set_option maxRecDepth 100000

def nxt (l : List Int) (i : Nat) : Nat := if i < l.length then i + 1 else i
def srcB (l : List Int) (i : Nat) : List (Nat × Option Ent) := [(0, some (.box [.d (ints l), .d (.i .i64 (i : Int))]))]

theorem next67 (l : List Int) (i : Nat) (n : Int) (hi : i ≤ l.length) (hl : l.length ≤ 1000000) (hn : 1 ≤ n ∧ n ≤ 4611686018427387904) : ∃ r : Nat, (r : Int) < n ∧ DoesH (CG G) 44 [.op 0 0 0, .d (.i .i64 n)] (srcB l i) [.d (.i .i64 (r : Int))] (srcB l (nxt l i)) := by
  have hlen : (l.map (D.i .i64)).length = l.length := by simp
  by_cases h : i < l.length
  · obtain ⟨r, hr, hw⟩ := within38 (l.getD i 0) n hn
    refine ⟨r, hr, ?_⟩
    refine DoesH.mk (n := 35) Tryz.func44 rfl rfl rfl (Nat.le_of_ble_eq_true rfl) rfl ?_
    repeat refine seq_on ?_
    refine cmp_no (by omega) ?_
    refine ⟨draw_ok (by kernel_rfl), ?_⟩
    repeat refine seq_on ?_
    refine ar ⟨by omega, by omega⟩ ?_
    refine ar ⟨by omega, by omega⟩ ?_
    refine Eng.get_at i (by omega) (getInts h) ?_
    refine call_by hw ?_
    refine ⟨draw_ok (by kernel_rfl), ?_⟩
    refine end_ok [] ?_
    simp only [nxt, if_pos h]
    ((repeat' constructor) <;> (first | refine hold ?_ | rfl) <;> first | with_reducible rfl | (congr 1 <;> omega) | (congr 1 <;> simp; done) | (simp; done) | exact encB_snoc _ _ | skip)
  · refine ⟨0, by omega, ?_⟩
    refine DoesH.mk (n := 35) Tryz.func44 rfl rfl rfl (Nat.le_of_ble_eq_true rfl) rfl ?_
    repeat refine seq_on ?_
    refine cmp_yes (by omega) ?_
    refine ⟨draw_ok (by kernel_rfl), ?_⟩
    repeat refine seq_on ?_
    refine end_ok [] ?_
    simp only [nxt, if_neg h]
    ((repeat' constructor) <;> (first | refine hold ?_ | rfl) <;> first | with_reducible rfl | (congr 1 <;> omega) | (congr 1 <;> simp; done) | (simp; done) | exact encB_snoc _ _ | skip)

theorem of86 (l : List Int) (i : Nat) (m : List (List UInt8)) (hi : i ≤ l.length) (hl : l.length ≤ 1000000) (hm : 1 ≤ m.length ∧ m.length ≤ 1000000) : ∃ x, x ∈ m ∧ DoesH (CG G) 75 [.op 0 0 0, .d (strs m)] (srcB l i) [.d (.s x)] (srcB l (nxt l i)) := by
  have hlen : (m.map D.s).length = m.length := by simp
  obtain ⟨r, hr, hx⟩ := next67 l i ((m.map D.s).length : Int) hi hl (by omega)
  have hr' : r < m.length := by omega
  refine ⟨m[r], List.getElem_mem hr', ?_⟩
  refine DoesH.mk (n := 12) Tryz.func75 rfl rfl rfl (Nat.le_of_ble_eq_true rfl) rfl ?_
  refine callh [(0, 0)] hx ?_ ?_
  · ((repeat' constructor) <;> (first | refine hold ?_ | rfl) <;> first | with_reducible rfl | (congr 1 <;> omega) | (congr 1 <;> simp; done) | (simp; done) | exact encB_snoc _ _ | skip)
  refine Eng.get_at r rfl (x := D.s m[r]) (by simp [hr']) ?_
  refine end_ok [] ?_
  ((repeat' constructor) <;> (first | refine hold ?_ | rfl) <;> first | with_reducible rfl | (congr 1 <;> omega) | (congr 1 <;> simp; done) | (simp; done) | exact encB_snoc _ _ | skip)
end Go.Proofs.YtbfkfmpfdafogaaGreatDoor

