import Derived.Test.YtiokdhklhnhfhaaDoorMh
import Derived.Test.YtiokdhklhnhfhaaDoorMad
import Derived.Test.YtiokdhklhnhfhaaDoorCards
import Derived.Test.YtiokdhklhnhfhaaDoorTie
namespace Go.Proofs.YtiokdhklhnhfhaaDoor.adminLength
open Go.Eng Go.ChangeShapes Go.WideShapes Go.ChangeAt Go.RowKit

set_option maxRecDepth 100000 in
theorem contract (H : Type) (enc : TypeId × Value → H) (W : World) (base : Nat) (args : Array Value) (ds gs : List (DataW H)) (before : List MemPlace)
    (hval : ∀ (j : Nat) t v, Tryd.f12.params[j]? = some t → args[j]? = some v → Value.okWide Tryd.prog W .any base t v)
    (hW : DataW.Whole enc Tryd.prog Tryd.f12.params.toList Rows.adminLengthSpec.vars false W args.toList ds gs before) (hL : laidMetH Tryd.prog Rows.adminLengthRow.laid W) :
    Calls Tryd.prog 12 args W fun e W' => ∃ v, e = .returned v ∧ Rows.adminLengthSpec.post enc Tryd.prog Tryd.f12 false true false false W args v W' := by
  have hW' := hW
  obtain ⟨p, q, hA0, hV, rfl, hfz, hnd⟩ := hW'
  have hA : DataW.TrodAll enc Tryd.prog W 0 (fun _ => true) true Tryd.f12.params.toList args.toList ds p := hA0
  rw [Tryd.params12] at hA hval
  obtain ⟨v0, vs0, d0, ds0, p0, q0, hargs, rfl, rfl, h0, r0⟩ := trodAll_cons hA
  obtain ⟨v1, vs1, d1, ds1, p1, q1, rfl, rfl, rfl, h1, r1⟩ := trodAll_cons r0
  obtain ⟨v2, vs2, d2, ds2, p2, q2, rfl, rfl, rfl, h2, r2⟩ := trodAll_cons r1
  obtain ⟨v3, vs3, d3, ds3, p3, q3, rfl, rfl, rfl, h3, r3⟩ := trodAll_cons r2
  obtain ⟨rfl, rfl, rfl⟩ := trodAll_nil r3
  obtain rfl : args = #[v0, v1, v2, v3] := by cases args; simp_all
  obtain ⟨rfl, rfl⟩ := trodVars_none hV
  have lt0 : ∀ x ∈ p0, x.block < W.heap.size := by obtain ⟨m, hm⟩ := h0; exact DataW.trod_lt m _ _ _ hm
  obtain ⟨a0, o0, s0, x0⟩ := top_sl (T := (tSl (tInt .i64))) (reads_sl (reads_int Tryd.underlying3 (by kernel_rfl)) Tryd.underlying22 (by kernel_rfl) (by decide)) (fun _ => rfl) Tryd.underlying22 (hval 0 22 v0 rfl rfl) h0
  have lt1 : ∀ x ∈ p1, x.block < W.heap.size := by obtain ⟨m, hm⟩ := h1; exact DataW.trod_lt m _ _ _ hm
  obtain ⟨a1, o1, s1, x1⟩ := top_sl (T := (tSl (tInt .i64))) (reads_sl (reads_int Tryd.underlying3 (by kernel_rfl)) Tryd.underlying22 (by kernel_rfl) (by decide)) (fun _ => rfl) Tryd.underlying22 (hval 1 22 v1 rfl rfl) h1
  have lt2 : ∀ x ∈ p2, x.block < W.heap.size := by obtain ⟨m, hm⟩ := h2; exact DataW.trod_lt m _ _ _ hm
  obtain ⟨a2, o2, s2, x2⟩ := top_int (T := (tInt .i64)) (reads_int Tryd.underlying3 (by kernel_rfl)) (fun _ => rfl) Tryd.underlying3 (hval 2 3 v2 rfl rfl) h2
  have lt3 : ∀ x ∈ p3, x.block < W.heap.size := by obtain ⟨m, hm⟩ := h3; exact DataW.trod_lt m _ _ _ hm
  obtain ⟨a3, o3, s3, x3⟩ := top_int (T := (tInt .i64)) (reads_int Tryd.underlying3 (by kernel_rfl)) (fun _ => rfl) Tryd.underlying3 (hval 3 3 v3 rfl rfl) h3
  have hr : ∀ (j : Nat) (d : D) (v : Value), [(tSl (tInt .i64)).el a0, (tSl (tInt .i64)).el a1, (tInt .i64).el a2, (tInt .i64).el a3][j]? = some d → (#[v0, v1, v2, v3] : Array Value)[j]? = some v → Rd W (fun _ => False) d v := by
    intro j d v h1 h2
    match j with
    | 0 => cases h1; cases h2; exact x0
    | 1 => cases h1; cases h2; exact x1
    | 2 => cases h1; cases h2; exact x2
    | 3 => cases h1; cases h2; exact x3
    | j + 4 => cases h1
  refine (runA (lawAdmLength a0 a1 a2 a3 o0.1) hL rfl hr).mono fun e W' hh => ?_
  obtain ⟨rfl, bel⟩ := hh
  exact ⟨_, rfl, _, _, _, [], _, [], hW, trodAll_mk1 (shut_bool Tryd.underlying4 _), (trodAll_cons_mk (Below.trod laidOut (by kernel_rfl) (of_decide_eq_true (by kernel_rfl)) h0 bel lt0) (trodAll_cons_mk (Below.trod laidOut (by kernel_rfl) (of_decide_eq_true (by kernel_rfl)) h1 bel lt1) (trodAll_cons_mk (Below.trod laidOut (by kernel_rfl) (of_decide_eq_true (by kernel_rfl)) h2 bel lt2) (trodAll_cons_mk (Below.trod laidOut (by kernel_rfl) (of_decide_eq_true (by kernel_rfl)) h3 bel lt3) trodAll_mk0)))), rfl, bel.frame _, fun h => by cases h⟩

theorem reads (os : Os) {H : Type} (enc : TypeId × Value → H) : ∃ places, DataW.whole enc Tryd.prog ((laidWorldA os).forCall (fun _ _ => 0) ⟨#[], #[Value.slice none 0 0, Value.slice none 0 0, Value.int .i64 0, Value.int .i64 0], []⟩).memory Tryd.f12.params.toList Rows.adminLengthSpec.vars false #[Value.slice none 0 0, Value.slice none 0 0, Value.int .i64 0, Value.int .i64 0].toList 8 = some ([.nil, .nil, .lit (.int .i64 0), .lit (.int .i64 0)], [], places) :=
  ⟨[], by kernel_rfl⟩

set_option maxRecDepth 100000 in
theorem lifted (os : Os) (started : os.Started) (H : Type) (enc : TypeId × Value → H) (F : Stop.Interp) :
    ReturnsInHanded {} Tryd.checked os 12 .any ((OpenSpec.ofChange Rows.adminLengthSpec).preRow enc Tryd.prog Tryd.f12 Rows.adminLengthRow.domain false Rows.adminLengthRow.laid) (((OpenSpec.ofChange Rows.adminLengthSpec).at F).post enc Tryd.prog Tryd.f12 false true false false) := by
  obtain ⟨places, hx⟩ := reads os enc
  refine returnsInHanded_of_row (C := Tryd.checked) (s := OpenSpec.ofChange Rows.adminLengthSpec) own started (by kernel_rfl) Tryd.func12
    (witness_row_at (enc := enc) (C := Tryd.checked) false (laidWorldA os) #[Value.slice none 0 0, Value.slice none 0 0, Value.int .i64 0, Value.int .i64 0] rfl (by kernel_rfl) (by kernel_rfl) (by kernel_rfl)
      (OpenSpec.preRow_of_cond 8 hx (by kernel_rfl) (fun k hk => by cases hk) (by kernel_rfl) (laid_metA os _))) ?_
  intro W base args ds gs before hval hW _ _ _ hL _ _
  exact contract H enc W base args ds gs before hval hW hL

theorem fact0 : (Rows.adminLengthRow.inPlace == Tryd.prog.inPlace 12) = true := by kernel_rfl
theorem fact1 : (Rows.adminLengthRow.unfollowed == Tryd.prog.unfollowed 12) = true := by kernel_rfl
theorem fact2 : (Rows.adminLengthRow.recurses == Tryd.prog.recurses 12) = true := by kernel_rfl
theorem fact3 : (Rows.adminLengthRow.named == Tryd.prog.varsNamed 12) = true := by kernel_rfl
theorem fact4 : (Rows.adminLengthRow.lifted == Tryd.prog.liftsFinal) = true := by rw [liftsFinal]; kernel_rfl
theorem fact5 : (Tryd.prog.make == some Rows.adminLengthRow.make) = true := by rw [makeIs]; kernel_rfl
theorem fact6 : (Rows.adminLengthRow.plainKeys == Tryd.prog.plainKeys) = true := by rw [plainK]; kernel_rfl
theorem closed : joinedFacts Tryd.prog 12 Tryd.f12 (OpenSpec.ofChange Rows.adminLengthSpec).bare Rows.adminLengthRow = true := joined_of mayEnter stopsHeard laidOut mapsRow fact4 fact5 fact6 fact0 fact1 fact2 fact3 (by kernel_rfl)
theorem said : Rows.AdminLengthSaid :=
  OpenClaim.holds_of_cond 12 Tryd.f12 rfl rfl rfl rfl rfl rfl rfl ⟨rfl, rfl, rfl, rfl, rfl⟩ rfl rfl rfl rfl rfl (by kernel_rfl) Tryd.func12 closed
    (of_decide_eq_true (by kernel_rfl)) (by unfold Func.isWrapper; first | (rw [if_pos (by decide +kernel)]; kernel_rfl) | (rw [if_neg (by decide +kernel)]; exact ⟨rfl, rfl⟩))
    (fun os started H enc _ F => by rw [OpenClaim.pre_eq_preRow]; exact lifted os started H enc F)

theorem plain (f : FuncId) (fn : Func) (hf : Tryd.pinned.checked.prog.funcNamed "canary/canarylaw25.AdminLength" = some f) (hfn : Tryd.pinned.checked.prog.funcs[f]? = some fn) :
    false = Tryd.pinned.checked.prog.looks [] ∧ ∀ (j : Nat) t, fn.params[j]? = some t → Tryd.pinned.checked.prog.wantsStandIn t = false := by
  obtain rfl : f = 12 := Option.some.inj ((show Tryd.prog.funcNamed "canary/canarylaw25.AdminLength" = some 12 by kernel_rfl).symm.trans hf) |>.symm
  obtain rfl : fn = Tryd.f12 := (Option.some.inj (Tryd.func12.symm.trans hfn)).symm
  refine ⟨by kernel_rfl, fun j t ht => ?_⟩
  rw [Tryd.params12] at ht
  match j with
  | 0 => cases ht; exact (show Tryd.prog.wantsStandIn 22 = false by kernel_rfl)
  | 1 => cases ht; exact (show Tryd.prog.wantsStandIn 22 = false by kernel_rfl)
  | 2 => cases ht; exact (show Tryd.prog.wantsStandIn 3 = false by kernel_rfl)
  | 3 => cases ht; exact (show Tryd.prog.wantsStandIn 3 = false by kernel_rfl)
  | j + 4 => simp at ht

theorem card : Rows.AdminLengthCardSaid :=
  Claim7.holds_tied_plain_at .later [] _ _ _ _ said (fun _ h => by cases h) (by kernel_rfl) (fun _ h => by cases h) adminLength_row_tie rfl ⟨rfl, rfl⟩ (by kernel_rfl) rfl plain (by kernel_rfl)
#print axioms card
end Go.Proofs.YtiokdhklhnhfhaaDoor.adminLength
