import Derived.Test.YtbfkfmpfdafogaaGreatDoorMh
import Derived.Test.YtbfkfmpfdafogaaGreatDoorMnq
import Derived.Test.YtbfkfmpfdafogaaGreatDoorMdf4
import Derived.Test.YtbfkfmpfdafogaaGreatDoorCards
import Derived.Test.YtbfkfmpfdafogaaGreatDoorTie
namespace Go.Proofs.YtbfkfmpfdafogaaGreatDoor.differSee
open Go.Eng Go.ChangeShapes Go.WideShapes Go.ChangeAt Go.RowKit

set_option maxRecDepth 100000 in
theorem contract (H : Type) (enc : TypeId × Value → H) (W : World) (base : Nat) (args : Array Value) (ds gs : List (DataW H)) (before : List MemPlace)
    (hval : ∀ (j : Nat) t v, Tryz.f4.params[j]? = some t → args[j]? = some v → Value.okWide Tryz.prog W .any base t v)
    (hW : DataW.Whole enc Tryz.prog Tryz.f4.params.toList Rows.differSeeSpec.vars false W args.toList ds gs before) (hL : laidMetH Tryz.prog Rows.differSeeUptoRow.laid W) (hk : Rows.uptoSmall H (ds ++ gs) = true) :
    Calls Tryz.prog 4 args W fun e W' => ∃ v, e = .returned v ∧ Rows.differSeeSpec.post enc Tryz.prog Tryz.f4 false true false false W args v W' := by
  have hW' := hW
  obtain ⟨p, q, hA0, hV, rfl, hfz, hnd⟩ := hW'
  have hA : DataW.TrodAll enc Tryz.prog W 0 (fun _ => true) true Tryz.f4.params.toList args.toList ds p := hA0
  rw [Tryz.params4] at hA hval
  obtain ⟨v0, vs0, d0, ds0, p0, q0, hargs, rfl, rfl, h0, r0⟩ := trodAll_cons hA
  obtain ⟨v1, vs1, d1, ds1, p1, q1, rfl, rfl, rfl, h1, r1⟩ := trodAll_cons r0
  obtain ⟨v2, vs2, d2, ds2, p2, q2, rfl, rfl, rfl, h2, r2⟩ := trodAll_cons r1
  obtain ⟨v3, vs3, d3, ds3, p3, q3, rfl, rfl, rfl, h3, r3⟩ := trodAll_cons r2
  obtain ⟨rfl, rfl, rfl⟩ := trodAll_nil r3
  obtain rfl : args = #[v0, v1, v2, v3] := by cases args; simp_all
  obtain ⟨rfl, rfl⟩ := trodVars_none hV
  have hb : Rows.uptoBulkAll [d0, d1, d2, d3] ≤ 1048576 := of_decide_eq_true hk
  simp only [Rows.uptoBulkAll] at hb
  have lt0 : ∀ x ∈ p0, x.block < W.heap.size := by obtain ⟨m, hm⟩ := h0; exact DataW.trod_lt m _ _ _ hm
  obtain ⟨a0, o0, s0, x0⟩ := top_sl (T := (tSl (tInt .i64))) (reads_sl (reads_int Tryz.underlying3 (by kernel_rfl)) Tryz.underlying22 (by kernel_rfl) (by decide)) (fun _ => rfl) Tryz.underlying22 (hval 0 22 v0 rfl rfl) h0
  have b0 : (tSl (tInt .i64)).size a0 ≤ 1048576 := by omega
  have lt1 : ∀ x ∈ p1, x.block < W.heap.size := by obtain ⟨m, hm⟩ := h1; exact DataW.trod_lt m _ _ _ hm
  obtain ⟨a1, o1, s1, x1⟩ := top_struct (T := (tPair (tInt .i64) (tPair tStr (tPair (tInt .i64) (tPair (tSl (tPair tStr (tLast tStr))) (tLast (tSl tU8))))))) (reads_struct (readsF_cons (reads_int Tryz.underlying3 (by kernel_rfl)) rfl (readsF_cons (reads_str Tryz.underlying9 (by kernel_rfl)) rfl (readsF_cons (reads_int Tryz.underlying3 (by kernel_rfl)) rfl (readsF_cons (reads_sl (reads_struct (readsF_cons (reads_str Tryz.underlying9 (by kernel_rfl)) rfl (readsF_last (reads_str Tryz.underlying9 (by kernel_rfl)) rfl)) Tryz.underlying53 (by kernel_rfl)) Tryz.underlying23 (by kernel_rfl) (by decide)) rfl (readsF_last (reads_sl (reads_u8 Tryz.underlying5 (by kernel_rfl)) Tryz.underlying33 (by kernel_rfl) (by decide)) rfl))))) Tryz.underlying35 (by kernel_rfl)) (fun _ => rfl) Tryz.underlying35 (hval 1 35 v1 rfl rfl) h1
  have b1 : (tPair (tInt .i64) (tPair tStr (tPair (tInt .i64) (tPair (tSl (tPair tStr (tLast tStr))) (tLast (tSl tU8)))))).size a1 ≤ 1048576 := by omega
  have lt2 : ∀ x ∈ p2, x.block < W.heap.size := by obtain ⟨m, hm⟩ := h2; exact DataW.trod_lt m _ _ _ hm
  obtain ⟨a2, o2, s2, x2⟩ := top_sl (T := (tSl tStr)) (reads_sl (reads_str Tryz.underlying9 (by kernel_rfl)) Tryz.underlying24 (by kernel_rfl) (by decide)) (fun _ => rfl) Tryz.underlying24 (hval 2 24 v2 rfl rfl) h2
  have b2 : (tSl tStr).size a2 ≤ 1048576 := by omega
  have lt3 : ∀ x ∈ p3, x.block < W.heap.size := by obtain ⟨m, hm⟩ := h3; exact DataW.trod_lt m _ _ _ hm
  obtain ⟨a3, o3, s3, x3⟩ := top_bool (T := tBool) (reads_bool Tryz.underlying4 (by kernel_rfl)) (fun _ => rfl) Tryz.underlying4 (hval 3 4 v3 rfl rfl) h3
  have b3 : tBool.size a3 ≤ 1048576 := by omega
  have hr : ∀ (j : Nat) (d : D) (v : Value), [(tSl (tInt .i64)).el a0, (tPair (tInt .i64) (tPair tStr (tPair (tInt .i64) (tPair (tSl (tPair tStr (tLast tStr))) (tLast (tSl tU8)))))).el a1, (tSl tStr).el a2, tBool.el a3][j]? = some d → (#[v0, v1, v2, v3] : Array Value)[j]? = some v → Rd W (fun _ => False) d v := by
    intro j d v h1 h2
    match j with
    | 0 => cases h1; cases h2; exact x0
    | 1 => cases h1; cases h2; exact x1
    | 2 => cases h1; cases h2; exact x2
    | 3 => cases h1; cases h2; exact x3
    | j + 4 => cases h1
  refine (runV (lawDifferSee (G := []) a0 a1.1 a1.2.1 a1.2.2.1 a1.2.2.2.1 a1.2.2.2.2 a2 a3 (Nat.le_trans o0.1 (by decide)) (by have h := fsz_size a1.2.2.2.1; have hb : 1 + ((a1.2.1.length + 1) + (1 + ((tSl (tPair tStr (tLast tStr))).size a1.2.2.2.1 + ((tSl tU8).size a1.2.2.2.2 + 1)))) ≤ 1048576 := b1; omega) (by have h := sl_len (T := tU8) (fun _ => Nat.le_refl 1) a1.2.2.2.2; have hb : 1 + ((a1.2.1.length + 1) + (1 + ((tSl (tPair tStr (tLast tStr))).size a1.2.2.2.1 + ((tSl tU8).size a1.2.2.2.2 + 1)))) ≤ 1048576 := b1; omega) (fun n hn => by have h := nms_size hn; have hb : (tSl tStr).size a2 ≤ 1048576 := b2; omega) (Nat.le_trans o2.1 (by decide))) hL rfl hr).mono fun e W' hh => ?_
  obtain ⟨rfl, bel⟩ := hh
  exact ⟨_, rfl, _, _, _, [], _, [], hW, trodAll_mk1 (shut_bool Tryz.underlying4 _), (trodAll_cons_mk (Below.trod laidOut (by kernel_rfl) (of_decide_eq_true (by kernel_rfl)) h0 bel lt0) (trodAll_cons_mk (Below.trod laidOut (by kernel_rfl) (of_decide_eq_true (by kernel_rfl)) h1 bel lt1) (trodAll_cons_mk (Below.trod laidOut (by kernel_rfl) (of_decide_eq_true (by kernel_rfl)) h2 bel lt2) (trodAll_cons_mk (Below.trod laidOut (by kernel_rfl) (of_decide_eq_true (by kernel_rfl)) h3 bel lt3) trodAll_mk0)))), rfl, bel.frame _, fun h => by cases h⟩

theorem reads (os : Os) {H : Type} (enc : TypeId × Value → H) : ∃ places, DataW.whole enc Tryz.prog ((laidWorldV os).forCall (fun _ _ => 0) ⟨#[], #[Value.slice none 0 0, Value.agg #[.int .i64 0, .string ⟨#[]⟩, .int .i64 0, .slice none 0 0, .slice none 0 0], Value.slice none 0 0, Value.bool false], []⟩).memory Tryz.f4.params.toList Rows.differSeeSpec.vars false #[Value.slice none 0 0, Value.agg #[.int .i64 0, .string ⟨#[]⟩, .int .i64 0, .slice none 0 0, .slice none 0 0], Value.slice none 0 0, Value.bool false].toList 8 = some ([.nil, .agg [.lit (.int .i64 0), .lit (.string []), .lit (.int .i64 0), .nil, .nil], .nil, .lit (.bool false)], [], places) :=
  ⟨[], by kernel_rfl⟩

set_option maxRecDepth 100000 in
theorem lifted (os : Os) (started : os.Started) (H : Type) (enc : TypeId × Value → H) (F : Stop.Interp) :
    ReturnsInHanded {} Tryz.checked os 4 .any ((Rows.OpenSpec.upto Rows.differSeeSpec).preRow enc Tryz.prog Tryz.f4 Rows.differSeeUptoRow.domain false Rows.differSeeUptoRow.laid) (((Rows.OpenSpec.upto Rows.differSeeSpec).at F).post enc Tryz.prog Tryz.f4 false true false false) := by
  obtain ⟨places, hx⟩ := reads os enc
  refine returnsInHanded_of_row (C := Tryz.checked) (s := Rows.OpenSpec.upto Rows.differSeeSpec) own started (by kernel_rfl) Tryz.func4
    (witness_row_at (enc := enc) (C := Tryz.checked) false (laidWorldV os) #[Value.slice none 0 0, Value.agg #[.int .i64 0, .string ⟨#[]⟩, .int .i64 0, .slice none 0 0, .slice none 0 0], Value.slice none 0 0, Value.bool false] rfl (by kernel_rfl) (by kernel_rfl) (by kernel_rfl)
      (OpenSpec.preRow_of_cond 8 hx (by kernel_rfl) (fun k hk => by cases hk; kernel_rfl) (by kernel_rfl) (laid_metV os _))) ?_
  intro W base args ds gs before hval hW _ hcond _ hL _ _
  exact contract H enc W base args ds gs before hval hW hL (hcond _ rfl)

theorem fact0 : (Rows.differSeeUptoRow.inPlace == Tryz.prog.inPlace 4) = true := by kernel_rfl
theorem fact1 : (Rows.differSeeUptoRow.unfollowed == Tryz.prog.unfollowed 4) = true := by kernel_rfl
theorem fact2 : (Rows.differSeeUptoRow.recurses == Tryz.prog.recurses 4) = true := by kernel_rfl
theorem fact3 : (Rows.differSeeUptoRow.named == Tryz.prog.varsNamed 4) = true := by kernel_rfl
theorem fact4 : (Rows.differSeeUptoRow.lifted == Tryz.prog.liftsFinal) = true := by rw [liftsFinal]; kernel_rfl
theorem fact5 : (Tryz.prog.make == some Rows.differSeeUptoRow.make) = true := by rw [makeIs]; kernel_rfl
theorem fact6 : (Rows.differSeeUptoRow.plainKeys == Tryz.prog.plainKeys) = true := by rw [plainK]; kernel_rfl
theorem closed : joinedFacts Tryz.prog 4 Tryz.f4 (Rows.OpenSpec.upto Rows.differSeeSpec).bare Rows.differSeeUptoRow = true := joined_of mayEnter stopsHeard laidOut mapsRow fact4 fact5 fact6 fact0 fact1 fact2 fact3 (by kernel_rfl)
theorem said : Rows.DifferSeeUptoSaid :=
  OpenClaim.holds_of_cond 4 Tryz.f4 rfl rfl rfl rfl rfl rfl rfl ⟨rfl, rfl, rfl, rfl, rfl⟩ rfl rfl rfl rfl rfl (by kernel_rfl) Tryz.func4 closed
    (of_decide_eq_true (by kernel_rfl)) (by unfold Func.isWrapper; first | (rw [if_pos (by decide +kernel)]; kernel_rfl) | (rw [if_neg (by decide +kernel)]; exact ⟨rfl, rfl⟩))
    (fun os started H enc _ F => by rw [OpenClaim.pre_eq_preRow]; exact lifted os started H enc F)

theorem plain (f : FuncId) (fn : Func) (hf : Tryz.pinned.checked.prog.funcNamed "canary/canarylaw20.DifferSee" = some f) (hfn : Tryz.pinned.checked.prog.funcs[f]? = some fn) :
    false = Tryz.pinned.checked.prog.looks [] ∧ ∀ (j : Nat) t, fn.params[j]? = some t → Tryz.pinned.checked.prog.wantsStandIn t = false := by
  obtain rfl : f = 4 := Option.some.inj ((show Tryz.prog.funcNamed "canary/canarylaw20.DifferSee" = some 4 by kernel_rfl).symm.trans hf) |>.symm
  obtain rfl : fn = Tryz.f4 := (Option.some.inj (Tryz.func4.symm.trans hfn)).symm
  refine ⟨by kernel_rfl, fun j t ht => ?_⟩
  rw [Tryz.params4] at ht
  match j with
  | 0 => cases ht; exact (show Tryz.prog.wantsStandIn 22 = false by kernel_rfl)
  | 1 => cases ht; exact (show Tryz.prog.wantsStandIn 35 = false by kernel_rfl)
  | 2 => cases ht; exact (show Tryz.prog.wantsStandIn 24 = false by kernel_rfl)
  | 3 => cases ht; exact (show Tryz.prog.wantsStandIn 4 = false by kernel_rfl)
  | j + 4 => simp at ht

theorem card : Rows.DifferSeeUptoCardSaid :=
  Claim7.holds_tied_plain_at .later [] _ _ _ _ said (fun _ h => by cases h) (by kernel_rfl) (fun _ h => by cases h) differSeeUpto_row_tie rfl ⟨rfl, rfl⟩ (by kernel_rfl) rfl plain (by kernel_rfl)
#print axioms card
end Go.Proofs.YtbfkfmpfdafogaaGreatDoor.differSee
