import Derived.Test.YtbfkfmpfdafogaaGreatDoorMh
import Derived.Test.YtbfkfmpfdafogaaGreatDoorMnq
import Derived.Test.YtbfkfmpfdafogaaGreatDoorMdf4
import Derived.Test.YtbfkfmpfdafogaaGreatDoorCards
import Derived.Test.YtbfkfmpfdafogaaGreatDoorTie
namespace Go.Proofs.YtbfkfmpfdafogaaGreatDoor.differCompare
open Go.Eng Go.ChangeShapes Go.WideShapes Go.ChangeAt Go.RowKit

set_option maxRecDepth 100000 in
theorem contract (H : Type) (enc : TypeId × Value → H) (W : World) (base : Nat) (args : Array Value) (ds gs : List (DataW H)) (before : List MemPlace)
    (hval : ∀ (j : Nat) t v, Tryz.f5.params[j]? = some t → args[j]? = some v → Value.okWide Tryz.prog W .any base t v)
    (hW : DataW.Whole enc Tryz.prog Tryz.f5.params.toList Rows.differCompareSpec.vars false W args.toList ds gs before) (hL : laidMetH Tryz.prog Rows.differCompareRow.laid W) :
    Calls Tryz.prog 5 args W fun e W' => ∃ v, e = .returned v ∧ Rows.differCompareSpec.post enc Tryz.prog Tryz.f5 false true false false W args v W' := by
  have hW' := hW
  obtain ⟨p, q, hA0, hV, rfl, hfz, hnd⟩ := hW'
  have hA : DataW.TrodAll enc Tryz.prog W 0 (fun _ => true) true Tryz.f5.params.toList args.toList ds p := hA0
  rw [Tryz.params5] at hA hval
  obtain ⟨v0, vs0, d0, ds0, p0, q0, hargs, rfl, rfl, h0, r0⟩ := trodAll_cons hA
  obtain ⟨v1, vs1, d1, ds1, p1, q1, rfl, rfl, rfl, h1, r1⟩ := trodAll_cons r0
  obtain ⟨v2, vs2, d2, ds2, p2, q2, rfl, rfl, rfl, h2, r2⟩ := trodAll_cons r1
  obtain ⟨v3, vs3, d3, ds3, p3, q3, rfl, rfl, rfl, h3, r3⟩ := trodAll_cons r2
  obtain ⟨v4, vs4, d4, ds4, p4, q4, rfl, rfl, rfl, h4, r4⟩ := trodAll_cons r3
  obtain ⟨v5, vs5, d5, ds5, p5, q5, rfl, rfl, rfl, h5, r5⟩ := trodAll_cons r4
  obtain ⟨rfl, rfl, rfl⟩ := trodAll_nil r5
  obtain rfl : args = #[v0, v1, v2, v3, v4, v5] := by cases args; simp_all
  obtain ⟨rfl, rfl⟩ := trodVars_none hV
  have lt0 : ∀ x ∈ p0, x.block < W.heap.size := by obtain ⟨m, hm⟩ := h0; exact DataW.trod_lt m _ _ _ hm
  obtain ⟨a0, o0, s0, x0⟩ := top_sl (T := (tSl (tInt .i64))) (reads_sl (reads_int Tryz.underlying3 (by kernel_rfl)) Tryz.underlying22 (by kernel_rfl) (by decide)) (fun _ => rfl) Tryz.underlying22 (hval 0 22 v0 rfl rfl) h0
  have lt1 : ∀ x ∈ p1, x.block < W.heap.size := by obtain ⟨m, hm⟩ := h1; exact DataW.trod_lt m _ _ _ hm
  obtain ⟨a1, o1, s1, x1⟩ := top_sl (T := (tSl (tInt .i64))) (reads_sl (reads_int Tryz.underlying3 (by kernel_rfl)) Tryz.underlying22 (by kernel_rfl) (by decide)) (fun _ => rfl) Tryz.underlying22 (hval 1 22 v1 rfl rfl) h1
  have lt2 : ∀ x ∈ p2, x.block < W.heap.size := by obtain ⟨m, hm⟩ := h2; exact DataW.trod_lt m _ _ _ hm
  obtain ⟨a2, o2, s2, x2⟩ := top_struct (T := (tPair (tInt .i64) (tPair (tSl (tPair tStr (tLast tStr))) (tPair (tInt .i64) (tLast (tSl tU8)))))) (reads_struct (readsF_cons (reads_int Tryz.underlying3 (by kernel_rfl)) rfl (readsF_cons (reads_sl (reads_struct (readsF_cons (reads_str Tryz.underlying9 (by kernel_rfl)) rfl (readsF_last (reads_str Tryz.underlying9 (by kernel_rfl)) rfl)) Tryz.underlying53 (by kernel_rfl)) Tryz.underlying23 (by kernel_rfl) (by decide)) rfl (readsF_cons (reads_int Tryz.underlying3 (by kernel_rfl)) rfl (readsF_last (reads_sl (reads_u8 Tryz.underlying5 (by kernel_rfl)) Tryz.underlying33 (by kernel_rfl) (by decide)) rfl)))) Tryz.underlying39 (by kernel_rfl)) (fun _ => rfl) Tryz.underlying39 (hval 2 39 v2 rfl rfl) h2
  have lt3 : ∀ x ∈ p3, x.block < W.heap.size := by obtain ⟨m, hm⟩ := h3; exact DataW.trod_lt m _ _ _ hm
  obtain ⟨a3, o3, s3, x3⟩ := top_struct (T := (tPair (tInt .i64) (tPair (tSl (tPair tStr (tLast tStr))) (tPair (tInt .i64) (tLast (tSl tU8)))))) (reads_struct (readsF_cons (reads_int Tryz.underlying3 (by kernel_rfl)) rfl (readsF_cons (reads_sl (reads_struct (readsF_cons (reads_str Tryz.underlying9 (by kernel_rfl)) rfl (readsF_last (reads_str Tryz.underlying9 (by kernel_rfl)) rfl)) Tryz.underlying53 (by kernel_rfl)) Tryz.underlying23 (by kernel_rfl) (by decide)) rfl (readsF_cons (reads_int Tryz.underlying3 (by kernel_rfl)) rfl (readsF_last (reads_sl (reads_u8 Tryz.underlying5 (by kernel_rfl)) Tryz.underlying33 (by kernel_rfl) (by decide)) rfl)))) Tryz.underlying39 (by kernel_rfl)) (fun _ => rfl) Tryz.underlying39 (hval 3 39 v3 rfl rfl) h3
  have lt4 : ∀ x ∈ p4, x.block < W.heap.size := by obtain ⟨m, hm⟩ := h4; exact DataW.trod_lt m _ _ _ hm
  obtain ⟨a4, o4, s4, x4⟩ := top_struct (T := (tPair tBool (tPair tBool (tLast (tSl tStr))))) (reads_struct (readsF_cons (reads_bool Tryz.underlying4 (by kernel_rfl)) rfl (readsF_cons (reads_bool Tryz.underlying4 (by kernel_rfl)) rfl (readsF_last (reads_sl (reads_str Tryz.underlying9 (by kernel_rfl)) Tryz.underlying24 (by kernel_rfl) (by decide)) rfl))) Tryz.underlying44 (by kernel_rfl)) (fun _ => rfl) Tryz.underlying44 (hval 4 44 v4 rfl rfl) h4
  have lt5 : ∀ x ∈ p5, x.block < W.heap.size := by obtain ⟨m, hm⟩ := h5; exact DataW.trod_lt m _ _ _ hm
  obtain ⟨a5, o5, s5, x5⟩ := top_bool (T := tBool) (reads_bool Tryz.underlying4 (by kernel_rfl)) (fun _ => rfl) Tryz.underlying4 (hval 5 4 v5 rfl rfl) h5
  have hr : ∀ (j : Nat) (d : D) (v : Value), [(tSl (tInt .i64)).el a0, (tSl (tInt .i64)).el a1, (tPair (tInt .i64) (tPair (tSl (tPair tStr (tLast tStr))) (tPair (tInt .i64) (tLast (tSl tU8))))).el a2, (tPair (tInt .i64) (tPair (tSl (tPair tStr (tLast tStr))) (tPair (tInt .i64) (tLast (tSl tU8))))).el a3, (tPair tBool (tPair tBool (tLast (tSl tStr)))).el a4, tBool.el a5][j]? = some d → (#[v0, v1, v2, v3, v4, v5] : Array Value)[j]? = some v → Rd W (fun _ => False) d v := by
    intro j d v h1 h2
    match j with
    | 0 => cases h1; cases h2; exact x0
    | 1 => cases h1; cases h2; exact x1
    | 2 => cases h1; cases h2; exact x2
    | 3 => cases h1; cases h2; exact x3
    | 4 => cases h1; cases h2; exact x4
    | 5 => cases h1; cases h2; exact x5
    | j + 6 => cases h1
  refine (runV (lawDifferCompare (G := []) a0 a1 ⟨a2.1, a2.2.1, a2.2.2.1, a2.2.2.2⟩ ⟨a3.1, a3.2.1, a3.2.2.1, a3.2.2.2⟩ a4.1 a4.2.1 a4.2.2 a5 (Nat.le_trans o0.1 (by decide)) (Nat.le_trans o1.1 (by decide)) (Nat.le_trans o2.2.2.2.1 (by decide)) (Nat.le_trans o3.2.2.2.1 (by decide)) (Nat.le_trans o4.2.2.1 (by decide))) hL rfl hr).mono fun e W' hh => ?_
  obtain ⟨rfl, bel⟩ := hh
  exact ⟨_, rfl, _, _, _, [], _, [], hW, trodAll_mk1 (shut_bool Tryz.underlying4 _), (trodAll_cons_mk (Below.trod laidOut (by kernel_rfl) (of_decide_eq_true (by kernel_rfl)) h0 bel lt0) (trodAll_cons_mk (Below.trod laidOut (by kernel_rfl) (of_decide_eq_true (by kernel_rfl)) h1 bel lt1) (trodAll_cons_mk (Below.trod laidOut (by kernel_rfl) (of_decide_eq_true (by kernel_rfl)) h2 bel lt2) (trodAll_cons_mk (Below.trod laidOut (by kernel_rfl) (of_decide_eq_true (by kernel_rfl)) h3 bel lt3) (trodAll_cons_mk (Below.trod laidOut (by kernel_rfl) (of_decide_eq_true (by kernel_rfl)) h4 bel lt4) (trodAll_cons_mk (Below.trod laidOut (by kernel_rfl) (of_decide_eq_true (by kernel_rfl)) h5 bel lt5) trodAll_mk0)))))), rfl, bel.frame _, fun h => by cases h⟩

theorem reads (os : Os) {H : Type} (enc : TypeId × Value → H) : ∃ places, DataW.whole enc Tryz.prog ((laidWorldV os).forCall (fun _ _ => 0) ⟨#[], #[Value.slice none 0 0, Value.slice none 0 0, Value.agg #[.int .i64 0, .slice none 0 0, .int .i64 0, .slice none 0 0], Value.agg #[.int .i64 0, .slice none 0 0, .int .i64 0, .slice none 0 0], Value.agg #[.bool false, .bool false, .slice none 0 0], Value.bool false], []⟩).memory Tryz.f5.params.toList Rows.differCompareSpec.vars false #[Value.slice none 0 0, Value.slice none 0 0, Value.agg #[.int .i64 0, .slice none 0 0, .int .i64 0, .slice none 0 0], Value.agg #[.int .i64 0, .slice none 0 0, .int .i64 0, .slice none 0 0], Value.agg #[.bool false, .bool false, .slice none 0 0], Value.bool false].toList 8 = some ([.nil, .nil, .agg [.lit (.int .i64 0), .nil, .lit (.int .i64 0), .nil], .agg [.lit (.int .i64 0), .nil, .lit (.int .i64 0), .nil], .agg [.lit (.bool false), .lit (.bool false), .nil], .lit (.bool false)], [], places) :=
  ⟨[], by kernel_rfl⟩

set_option maxRecDepth 100000 in
theorem lifted (os : Os) (started : os.Started) (H : Type) (enc : TypeId × Value → H) (F : Stop.Interp) :
    ReturnsInHanded {} Tryz.checked os 5 .any ((OpenSpec.ofChange Rows.differCompareSpec).preRow enc Tryz.prog Tryz.f5 Rows.differCompareRow.domain false Rows.differCompareRow.laid) (((OpenSpec.ofChange Rows.differCompareSpec).at F).post enc Tryz.prog Tryz.f5 false true false false) := by
  obtain ⟨places, hx⟩ := reads os enc
  refine returnsInHanded_of_row (C := Tryz.checked) (s := OpenSpec.ofChange Rows.differCompareSpec) own started (by kernel_rfl) Tryz.func5
    (witness_row_at (enc := enc) (C := Tryz.checked) false (laidWorldV os) #[Value.slice none 0 0, Value.slice none 0 0, Value.agg #[.int .i64 0, .slice none 0 0, .int .i64 0, .slice none 0 0], Value.agg #[.int .i64 0, .slice none 0 0, .int .i64 0, .slice none 0 0], Value.agg #[.bool false, .bool false, .slice none 0 0], Value.bool false] rfl (by kernel_rfl) (by kernel_rfl) (by kernel_rfl)
      (OpenSpec.preRow_of_cond 8 hx (by kernel_rfl) (fun k hk => by cases hk) (by kernel_rfl) (laid_metV os _))) ?_
  intro W base args ds gs before hval hW _ _ _ hL _ _
  exact contract H enc W base args ds gs before hval hW hL

theorem fact0 : (Rows.differCompareRow.inPlace == Tryz.prog.inPlace 5) = true := by kernel_rfl
theorem fact1 : (Rows.differCompareRow.unfollowed == Tryz.prog.unfollowed 5) = true := by kernel_rfl
theorem fact2 : (Rows.differCompareRow.recurses == Tryz.prog.recurses 5) = true := by kernel_rfl
theorem fact3 : (Rows.differCompareRow.named == Tryz.prog.varsNamed 5) = true := by kernel_rfl
theorem fact4 : (Rows.differCompareRow.lifted == Tryz.prog.liftsFinal) = true := by rw [liftsFinal]; kernel_rfl
theorem fact5 : (Tryz.prog.make == some Rows.differCompareRow.make) = true := by rw [makeIs]; kernel_rfl
theorem fact6 : (Rows.differCompareRow.plainKeys == Tryz.prog.plainKeys) = true := by rw [plainK]; kernel_rfl
theorem closed : joinedFacts Tryz.prog 5 Tryz.f5 (OpenSpec.ofChange Rows.differCompareSpec).bare Rows.differCompareRow = true := joined_of mayEnter stopsHeard laidOut mapsRow fact4 fact5 fact6 fact0 fact1 fact2 fact3 (by kernel_rfl)
theorem said : Rows.DifferCompareSaid :=
  OpenClaim.holds_of_cond 5 Tryz.f5 rfl rfl rfl rfl rfl rfl rfl ⟨rfl, rfl, rfl, rfl, rfl⟩ rfl rfl rfl rfl rfl (by kernel_rfl) Tryz.func5 closed
    (of_decide_eq_true (by kernel_rfl)) (by unfold Func.isWrapper; first | (rw [if_pos (by decide +kernel)]; kernel_rfl) | (rw [if_neg (by decide +kernel)]; exact ⟨rfl, rfl⟩))
    (fun os started H enc _ F => by rw [OpenClaim.pre_eq_preRow]; exact lifted os started H enc F)

theorem plain (f : FuncId) (fn : Func) (hf : Tryz.pinned.checked.prog.funcNamed "canary/canarylaw20.DifferCompare" = some f) (hfn : Tryz.pinned.checked.prog.funcs[f]? = some fn) :
    false = Tryz.pinned.checked.prog.looks [] ∧ ∀ (j : Nat) t, fn.params[j]? = some t → Tryz.pinned.checked.prog.wantsStandIn t = false := by
  obtain rfl : f = 5 := Option.some.inj ((show Tryz.prog.funcNamed "canary/canarylaw20.DifferCompare" = some 5 by kernel_rfl).symm.trans hf) |>.symm
  obtain rfl : fn = Tryz.f5 := (Option.some.inj (Tryz.func5.symm.trans hfn)).symm
  refine ⟨by kernel_rfl, fun j t ht => ?_⟩
  rw [Tryz.params5] at ht
  match j with
  | 0 => cases ht; exact (show Tryz.prog.wantsStandIn 22 = false by kernel_rfl)
  | 1 => cases ht; exact (show Tryz.prog.wantsStandIn 22 = false by kernel_rfl)
  | 2 => cases ht; exact (show Tryz.prog.wantsStandIn 39 = false by kernel_rfl)
  | 3 => cases ht; exact (show Tryz.prog.wantsStandIn 39 = false by kernel_rfl)
  | 4 => cases ht; exact (show Tryz.prog.wantsStandIn 44 = false by kernel_rfl)
  | 5 => cases ht; exact (show Tryz.prog.wantsStandIn 4 = false by kernel_rfl)
  | j + 6 => simp at ht

theorem card : Rows.DifferCompareCardSaid :=
  Claim7.holds_tied_plain_at .later [] _ _ _ _ said (fun _ h => by cases h) (by kernel_rfl) (fun _ h => by cases h) differCompare_row_tie rfl ⟨rfl, rfl⟩ (by kernel_rfl) rfl plain (by kernel_rfl)
#print axioms card
end Go.Proofs.YtbfkfmpfdafogaaGreatDoor.differCompare
