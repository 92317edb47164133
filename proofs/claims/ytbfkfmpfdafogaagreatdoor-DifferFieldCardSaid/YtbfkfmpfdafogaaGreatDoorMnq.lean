import Derived.Test.YtbfkfmpfdafogaaGreatDoorMnp
import Derived.Test.YtbfkfmpfdafogaaGreatDoorMh
namespace Go.Proofs.YtbfkfmpfdafogaaGreatDoor
open Go.Eng

theorem fsz_size (l : List Fld) : fsz l ≤ (tSl (tPair tStr (tLast tStr))).size l := by
  show fsz l ≤ (l.map fun p => (p.1.length + 1) + (p.2.length + 1 + 1)).sum + 1
  induction l with
  | nil => simp [fsz]
  | cons f r ih =>
    rw [fsz_cons]
    simp only [List.map_cons, List.sum_cons]
    omega
theorem nms_size {l : List (List UInt8)} {n : List UInt8} (h : n ∈ l) : n.length ≤ (tSl tStr).size l := by
  have h : (n.length + 1) + 1 ≤ (tSl tStr).size l := sl_mem (T := tStr) h
  omega
end Go.Proofs.YtbfkfmpfdafogaaGreatDoor

