/- A part of the proof of what is stated of the erasing of a mirror. -/
import Derived.Test.YtgfdbddglhblbaaGreatQam
set_option maxHeartbeats 64000000
namespace Go.Proofs.YtgfdbddglhblbaaGreat
open Go.Eng Go.ChangeShapes Go.WideShapes Go.ChangeAt Go.RowKit
theorem runP {f:FuncId}{ds:List D}{W:World}{vs:Array Value}(h:ay (CG []) f ds [.b true])(_:laidMetH Tryz.prog [] W)(hl:ds.length=vs.size)(hr:∀(j:Nat)(d:D)(v:Value),ds[j]?=some d→vs[j]?=some v→Rd W (fun _=>False) d v):Calls Tryz.prog f vs W fun e W'=>e=.returned (.bool true)∧Below W.heap.size W W':=by refine(h.2 W (fun _=>False) vs (fun b h=>h.elim) (fun x hx=>by cases hx) hl hr).mono fun e W' hh=>?_;obtain⟨v,rfl,hr,hb⟩:=hh;exact⟨by rw[hr.dinv.binv],hb⟩
noncomputable def lL (os:Os):World:=World.holding Tryz.prog os ⟨#[],#[],[]⟩
theorem C3 (os:Os)(args:Array Value):laidMet Tryz.prog [] ((lL os).forCall (fun _ _=>0) ⟨#[],args,[]⟩).memory:=laidMet_of_run' 70 (by kernel_rfl) (by kernel_rfl)
end Go.Proofs.YtgfdbddglhblbaaGreat
