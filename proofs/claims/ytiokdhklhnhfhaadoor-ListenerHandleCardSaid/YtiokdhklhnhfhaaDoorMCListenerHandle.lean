import Derived.Test.YtiokdhklhnhfhaaDoorMh
import Derived.Test.YtiokdhklhnhfhaaDoorMwr
import Derived.Test.YtiokdhklhnhfhaaDoorCards
import Derived.Test.YtiokdhklhnhfhaaDoorTie
namespace Go.Proofs.YtiokdhklhnhfhaaDoor.listenerHandle
open Go.Eng Go.ChangeShapes Go.WideShapes Go.ChangeAt Go.RowKit

theorem reads (os : Os) {H : Type} (enc : TypeId × Value → H) : ∃ places, DataW.whole enc Tryd.prog ((laidWorldR os).forCall (fun _ _ => 0) ⟨#[], #[Value.slice none 0 0, Value.agg #[.string ⟨#[]⟩, .string ⟨#[]⟩, .int .i64 0, .slice none 0 0, .bool false, .slice none 0 0], Value.int .i64 0, Value.int .i64 0, Value.bool false], []⟩).memory Tryd.f3.params.toList Rows.listenerHandleSpec.vars false #[Value.slice none 0 0, Value.agg #[.string ⟨#[]⟩, .string ⟨#[]⟩, .int .i64 0, .slice none 0 0, .bool false, .slice none 0 0], Value.int .i64 0, Value.int .i64 0, Value.bool false].toList 8 = some ([.nil, .agg [.lit (.string []), .lit (.string []), .lit (.int .i64 0), .nil, .lit (.bool false), .nil], .lit (.int .i64 0), .lit (.int .i64 0), .lit (.bool false)], [], places) :=
  ⟨[], by kernel_rfl⟩

theorem fact0 : (Rows.listenerHandleRow.inPlace == Tryd.prog.inPlace 3) = true := by kernel_rfl
theorem fact1 : (Rows.listenerHandleRow.unfollowed == Tryd.prog.unfollowed 3) = true := by kernel_rfl
theorem fact2 : (Rows.listenerHandleRow.recurses == Tryd.prog.recurses 3) = true := by kernel_rfl
theorem fact3 : (Rows.listenerHandleRow.named == Tryd.prog.varsNamed 3) = true := by kernel_rfl
theorem fact4 : (Rows.listenerHandleRow.lifted == Tryd.prog.liftsFinal) = true := by rw [liftsFinal]; kernel_rfl
theorem fact5 : (Tryd.prog.make == some Rows.listenerHandleRow.make) = true := by rw [makeIs]; kernel_rfl
theorem fact6 : (Rows.listenerHandleRow.plainKeys == Tryd.prog.plainKeys) = true := by rw [plainK]; kernel_rfl
theorem closed : joinedFacts Tryd.prog 3 Tryd.f3 (OpenSpec.ofChange Rows.listenerHandleSpec).bare Rows.listenerHandleRow = true := joined_of mayEnter stopsHeard laidOut mapsRow fact4 fact5 fact6 fact0 fact1 fact2 fact3 (by kernel_rfl)
theorem plain (f : FuncId) (fn : Func) (hf : Tryd.pinned.checked.prog.funcNamed "canary/canarylaw26.ListenerHandle" = some f) (hfn : Tryd.pinned.checked.prog.funcs[f]? = some fn) :
    false = Tryd.pinned.checked.prog.looks [] ∧ ∀ (j : Nat) t, fn.params[j]? = some t → Tryd.pinned.checked.prog.wantsStandIn t = false := by
  obtain rfl : f = 3 := Option.some.inj ((show Tryd.prog.funcNamed "canary/canarylaw26.ListenerHandle" = some 3 by kernel_rfl).symm.trans hf) |>.symm
  obtain rfl : fn = Tryd.f3 := (Option.some.inj (Tryd.func3.symm.trans hfn)).symm
  refine ⟨by kernel_rfl, fun j t ht => ?_⟩
  rw [Tryd.params3] at ht
  match j with
  | 0 => cases ht; exact (show Tryd.prog.wantsStandIn 22 = false by kernel_rfl)
  | 1 => cases ht; exact (show Tryd.prog.wantsStandIn 26 = false by kernel_rfl)
  | 2 => cases ht; exact (show Tryd.prog.wantsStandIn 3 = false by kernel_rfl)
  | 3 => cases ht; exact (show Tryd.prog.wantsStandIn 3 = false by kernel_rfl)
  | 4 => cases ht; exact (show Tryd.prog.wantsStandIn 4 = false by kernel_rfl)
  | j + 5 => simp at ht

end Go.Proofs.YtiokdhklhnhfhaaDoor.listenerHandle
