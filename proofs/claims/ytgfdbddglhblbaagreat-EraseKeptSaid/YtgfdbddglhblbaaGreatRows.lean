/-
  No cell of these rows narrows 'for every input' (looked for: loops, veiled, ifaces, maps, wideKeys, modest, calm, conditions, laid).
  DERIVED. THE GIVEN ROWS OF THIS SEAT. 2 by the template 'for every input the law returns true; each argument reads behind the call as it read before'; 0 by the template 'total and deterministic' (their statements: YtgfdbddglhblbaaGreatTotals.lean).
  GIVEN WITH THE SEED: the statements are not yours to turn. If you find one false, say at which input.
  Laid BY PROGRAM, IN A SANDBOX (cutbox-rows.mjs): the forced cells as the released guide's own fill.sh prints them over the translation ed9878f40106700d… (all of the seat's roots in one cut). By AI agents, Wed Nov 11 2026. No macro, syntax, notation, axiom, sorry.
-/
import Derived.Test.YtgfdbddglhblbaaGreatChecked
import GoSem.Claim
import GoSem.ClaimJoined
import GoSem.ClaimMapViews
import Derived.JoinedTies
import Derived.KernelRfl
namespace Go.Proofs.YtgfdbddglhblbaaGreat
/- THE CELL 'sum', in the pinned program and in every row, IS THE sha256 OF THE DUMP (.gsa) THAT YtgfdbddglhblbaaGreatProg.lean LOADS. Nothing in Lean hashes anything: it is a label: what it is worth is what the hold of that sum in a sandbox is worth. -/
noncomputable def Tryz.pinned : Pinned := { name := "ytgfdbddglhblbaagreat", sum := "ed9878f40106700de0f4fb11be05d7c34a4c6d81aa5b0f7a96835e79519e64ec", checked := Tryz.checked }
namespace Rows
def none {H : Type} : Left H := { results := [], args := [] }

/-- 'canarylaw32.EraseKept': WHATEVER THE INPUT: true; the input reads as it did. -/
def eraseKeptSpec : ChangeSpec := { name := "eraseKept", fn := fun _ => fun
  | [d1, d2, d3, d4, d5, d6] => { results := [.lit (.bool true)], args := [d1, d2, d3, d4, d5, d6] }
  | _ => none }
def eraseKeptRow : OpenClaim := { program := "ytgfdbddglhblbaagreat", sum := "ed9878f40106700de0f4fb11be05d7c34a4c6d81aa5b0f7a96835e79519e64ec", func := "canary/canarylaw32.EraseKept", spec := "eraseKept", unfollowed := true, recurses := true, apart := false }
def EraseKeptSaid : Prop := eraseKeptRow.holds Tryz.pinned (OpenSpec.ofChange eraseKeptSpec)

/-- ITS FALSE NEIGHBOUR: 'it returns false'. Refute it at one input. -/
def eraseKeptWrong : ChangeSpec := { name := "eraseKept", fn := fun _ => fun
  | [d1, d2, d3, d4, d5, d6] => { results := [.lit (.bool false)], args := [d1, d2, d3, d4, d5, d6] }
  | _ => none }
def EraseKeptWrongFalsely : Prop := eraseKeptRow.holds Tryz.pinned (OpenSpec.ofChange eraseKeptWrong)

/-- 'canarylaw32.EraseTwice': WHATEVER THE INPUT: true; the input reads as it did. -/
def eraseTwiceSpec : ChangeSpec := { name := "eraseTwice", fn := fun _ => fun
  | [d] => { results := [.lit (.bool true)], args := [d] }
  | _ => none }
def eraseTwiceRow : OpenClaim := { program := "ytgfdbddglhblbaagreat", sum := "ed9878f40106700de0f4fb11be05d7c34a4c6d81aa5b0f7a96835e79519e64ec", func := "canary/canarylaw32.EraseTwice", spec := "eraseTwice", unfollowed := true, recurses := true, apart := false }
def EraseTwiceSaid : Prop := eraseTwiceRow.holds Tryz.pinned (OpenSpec.ofChange eraseTwiceSpec)

/-- ITS FALSE NEIGHBOUR: 'it returns false'. Refute it at one input. -/
def eraseTwiceWrong : ChangeSpec := { name := "eraseTwice", fn := fun _ => fun
  | [d] => { results := [.lit (.bool false)], args := [d] }
  | _ => none }
def EraseTwiceWrongFalsely : Prop := eraseTwiceRow.holds Tryz.pinned (OpenSpec.ofChange eraseTwiceWrong)

/- THE SECOND FORM. 'bulk': how many values and letters a reading holds, each counted each time it is reached (what is shared counts as often as it is met; a slice's spare places count too). A statement '..UptoSaid' is the law's where the arguments, and the package variables that the reading takes, are together of bulk at most 1048576: NARROWER than '..Said'. Prove '..Said' where nothing that the law and all that it calls make is longer than what came in: it says more and counts as full. Else prove '..UptoSaid'. A law counts once. -/
mutual
def uptoBulk {H : Type} : DataW H → Nat
  | .lit (.string bytes) => bytes.length + 1
  | .lit _ => 1
  | .nil => 1
  | .ptr d => uptoBulk d + 1
  | .slice elems spare => uptoBulkAll elems + uptoBulkAll spare + 1
  | .agg parts => uptoBulkAll parts + 1
  | .iface _ d => uptoBulk d + 1
  | .map entries => uptoBulkEntries entries + 1
  | .held _ => 1
def uptoBulkAll {H : Type} : List (DataW H) → Nat
  | [] => 0
  | d :: r => uptoBulk d + uptoBulkAll r
def uptoBulkEntries {H : Type} : List (Lit × DataW H) → Nat
  | [] => 0
  | x :: r => uptoBulkEntry x + uptoBulkEntries r
def uptoBulkEntry {H : Type} : Lit × DataW H → Nat
  | (.string bytes, d) => bytes.length + uptoBulk d + 1
  | (_, d) => uptoBulk d + 1
 end
def uptoSmall : (H : Type) → List (DataW H) → Bool := fun _ ds => decide (uptoBulkAll ds ≤ 1048576)
def OpenSpec.upto (s : _root_.Go.ChangeSpec) : _root_.Go.OpenSpec := { _root_.Go.OpenSpec.ofChange s with cond := some uptoSmall }

/-- 'canarylaw32.EraseKept', WHERE WHAT IT READS IS OF BULK AT MOST 1048576: true; the input reads as it did. -/
def eraseKeptUptoRow : OpenClaim := { program := "ytgfdbddglhblbaagreat", sum := "ed9878f40106700de0f4fb11be05d7c34a4c6d81aa5b0f7a96835e79519e64ec", func := "canary/canarylaw32.EraseKept", spec := "eraseKept", unfollowed := true, recurses := true, apart := false, narrowed := true }
def EraseKeptUptoSaid : Prop := eraseKeptUptoRow.holds Tryz.pinned (OpenSpec.upto eraseKeptSpec)

/-- 'canarylaw32.EraseTwice', WHERE WHAT IT READS IS OF BULK AT MOST 1048576: true; the input reads as it did. -/
def eraseTwiceUptoRow : OpenClaim := { program := "ytgfdbddglhblbaagreat", sum := "ed9878f40106700de0f4fb11be05d7c34a4c6d81aa5b0f7a96835e79519e64ec", func := "canary/canarylaw32.EraseTwice", spec := "eraseTwice", unfollowed := true, recurses := true, apart := false, narrowed := true }
def EraseTwiceUptoSaid : Prop := eraseTwiceUptoRow.holds Tryz.pinned (OpenSpec.upto eraseTwiceSpec)

end Rows
end Go.Proofs.YtgfdbddglhblbaaGreat
