/-
  From a row's conditions to the reckoning's: the listed tables, the arguments.
-/
import Derived.Test.YtpogmmcfkdofhaaDoorCtx
import Derived.Test.YtpogmmcfkdofhaaDoorRows
import Derived.WalkKit
import Derived.ProofKit
import Derived.OpenShut
import Derived.ShutString
import Derived.ChangeOld
import Derived.Below
import Derived.Carry
import Derived.Deep.DeepHandedRow
import Derived.Lib.LaidTab
import Derived.Stop.LaidErr
namespace Go.Proofs.YtpogmmcfkdofhaaDoor
open Go.Eng Go.ChangeShapes Go.WideShapes Go.ChangeAt Go.RowKit

theorem own : ownKnob Tryd.prog.godebug = none := by kernel_rfl
theorem laidOut : laidOutB Tryd.prog = true := by kernel_rfl

theorem glob_of_tab {P : Program} {W : World} {X : Nat → Prop} {name : String} {k : IntKind} {zs : List Int} {g : Nat} {x : Gl} (h : Lib.TabIs P W name k zs) (hg : P.globalNamed name = some g)
    (hx : x = ⟨g, 1, zs.map (D.i k)⟩) : x.g < W.heap.size ∧ GlobAt W X x := by
  subst hx
  unfold Lib.TabIs World.var? at h
  simp only [hg, Option.bind_some] at h
  split at h
  · rename_i cs t fz hh
    simp only [Option.some.injEq] at h
    subst h
    refine ⟨?_, _, t, fz, hh, by simp, fun j d hd => ?_, fun j m d c hd hc => ?_⟩
    · rcases Nat.lt_or_ge g W.heap.size with h | h
      · exact h
      · rw [Array.getElem?_eq_none h] at hh; cases hh
    · simp only [List.getElem?_map, Option.map_eq_some_iff] at hd
      obtain ⟨z, _, rfl⟩ := hd
      exact ⟨rfl, fun c hc => by simp [D.cells] at hc; subst hc; rfl⟩
    · simp only [List.getElem?_map, Option.map_eq_some_iff] at hd
      obtain ⟨z, hz, rfl⟩ := hd
      have hm : m = 0 := by
        cases m with
        | zero => rfl
        | succ m => simp [D.cells] at hc
      subst hm
      have : c = .i k z := by simpa [D.cells] using hc.symm
      subst this
      exact ⟨.int k z, by simp [hz], .i k z⟩
  · cases h

def laid : List (String × DataW Unit) := [("math/bits.deBruijn32tab", Rows.laid_math_bits_deBruijn32tab), ("math/bits.deBruijn64tab", Rows.laid_math_bits_deBruijn64tab), ("internal/strconv.uint64pow10", Rows.laid_internal_strconv_uint64pow10)]
def nums (x : Gl) : List Int := x.xs.map fun d => match d with | .i _ n => n | _ => 0

theorem globs {W : World} (h : laidMetH Tryd.prog laid W) (X : Nat → Prop) (hX : ∀ b, ¬ X b) : ∀ x, x ∈ C.G → x.g < W.heap.size ∧ ¬ X x.g ∧ GlobAt W X x := by
  have h0 : laidMet Tryd.prog laid W := h
  have t32 : Lib.TabIs Tryd.prog W "math/bits.deBruijn32tab" .u8 (nums gl32) :=
    Lib.tabIs_of_head (g := 2) (t := 121) (e := 5) (n := 32) (by kernel_rfl) (by kernel_rfl) (by kernel_rfl) (by kernel_rfl) (by kernel_rfl) (by kernel_rfl) h0
  have t64 : Lib.TabIs Tryd.prog W "math/bits.deBruijn64tab" .u8 (nums gl64) :=
    Lib.tabIs_of_head (g := 3) (t := 122) (e := 5) (n := 64) (by kernel_rfl) (by kernel_rfl) (by kernel_rfl) (by kernel_rfl) (by kernel_rfl) (by kernel_rfl) h0.tail
  have tp : Lib.TabIs Tryd.prog W "internal/strconv.uint64pow10" .u64 (nums glPow) :=
    Lib.tabIs_of_head (g := 0) (t := 115) (e := 108) (n := 20) (by kernel_rfl) (by kernel_rfl) (by kernel_rfl) (by kernel_rfl) (by kernel_rfl) (by kernel_rfl) h0.tail.tail
  intro x hx
  simp only [C, List.mem_cons, List.not_mem_nil, or_false] at hx
  rcases hx with rfl | rfl | rfl
  · obtain ⟨h1, h2⟩ := glob_of_tab (X := X) (x := glPow) tp (g := 0) (by kernel_rfl) rfl
    exact ⟨h1, hX _, h2⟩
  · obtain ⟨h1, h2⟩ := glob_of_tab (X := X) (x := gl32) t32 (g := 2) (by kernel_rfl) rfl
    exact ⟨h1, hX _, h2⟩
  · obtain ⟨h1, h2⟩ := glob_of_tab (X := X) (x := gl64) t64 (g := 3) (by kernel_rfl) rfl
    exact ⟨h1, hX _, h2⟩

/-- A law's contract, at a world that holds the tables. -/
theorem run {f : FuncId} {ds : List D} {W : World} {vs : Array Value} (h : Does C f ds [.b true]) (hL : laidMetH Tryd.prog laid W) (hl : ds.length = vs.size)
    (hr : ∀ (j : Nat) (d : D) (v : Value), ds[j]? = some d → vs[j]? = some v → Rd W (fun _ => False) d v) :
    Calls Tryd.prog f vs W fun e W' => e = .returned (.bool true) ∧ Below W.heap.size W W' := by
  refine (h.2 W (fun _ => False) vs (fun b h => h.elim) (globs hL _ fun _ h => h) hl hr).mono fun e W' hh => ?_
  obtain ⟨v, rfl, hr, hb⟩ := hh
  exact ⟨by rw [hr.dinv.binv], hb⟩

theorem wf64 {n : Int} (h : (Lit.int .i64 n).wf = true) : I64 n := by
  have h : (decide (IntKind.i64.min ≤ n) && decide (n ≤ IntKind.i64.max)) = true := h
  have e1 : IntKind.i64.min = -9223372036854775808 := by decide
  have e2 : IntKind.i64.max = 9223372036854775807 := by decide
  simp only [e1, e2, Bool.and_eq_true, decide_eq_true_eq] at h
  exact h

/-- A world for the witness: the tables hold what their initialisers lay. -/
def fillBlock (x : Gl) (k : IntKind) : Obj → Obj
  | .cells _ t frozen => .cells ((nums x).map (Value.int k)).toArray t frozen
  | o => o
noncomputable def laidWorld (os : Os) : World :=
  { World.holding Tryd.prog os ⟨#[], #[], []⟩ with heap := (((World.holding Tryd.prog os ⟨#[], #[], []⟩).heap.modify 0 (fillBlock glPow .u64)).modify 2 (fillBlock gl32 .u8)).modify 3 (fillBlock gl64 .u8) }
theorem laid_met (os : Os) (args : Array Value) : laidMet Tryd.prog laid ((laidWorld os).forCall (fun _ _ => 0) ⟨#[], args, []⟩).memory :=
  laidMet_of_run' 70 (by kernel_rfl) (by kernel_rfl)
end Go.Proofs.YtpogmmcfkdofhaaDoor
