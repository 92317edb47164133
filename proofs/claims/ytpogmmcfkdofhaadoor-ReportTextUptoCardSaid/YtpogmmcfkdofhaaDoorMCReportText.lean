import Derived.Test.YtpogmmcfkdofhaaDoorMh
import Derived.Test.YtpogmmcfkdofhaaDoorMl
import Derived.Test.YtpogmmcfkdofhaaDoorCards
import Derived.Test.YtpogmmcfkdofhaaDoorTie
namespace Go.Proofs.YtpogmmcfkdofhaaDoor.reportText
open Go.Eng Go.ChangeShapes Go.WideShapes Go.ChangeAt Go.RowKit

set_option maxRecDepth 100000 in
theorem contract (H : Type) (enc : TypeId × Value → H) (W : World) (base : Nat) (args : Array Value) (ds gs : List (DataW H)) (before : List MemPlace)
    (hval : ∀ (j : Nat) t v, Tryd.f13.params[j]? = some t → args[j]? = some v → Value.okWide Tryd.prog W .any base t v)
    (hW : DataW.Whole enc Tryd.prog Tryd.f13.params.toList Rows.reportTextSpec.vars false W args.toList ds gs before) (hL : laidMetH Tryd.prog Rows.reportTextUptoRow.laid W) (hk : Rows.uptoSmall H (ds ++ gs) = true) :
    Calls Tryd.prog 13 args W fun e W' => ∃ v, e = .returned v ∧ Rows.reportTextSpec.post enc Tryd.prog Tryd.f13 false true false false W args v W' := by
  have hW' := hW
  obtain ⟨p, q, hA0, hV, rfl, hfz, hnd⟩ := hW'
  have hA : DataW.TrodAll enc Tryd.prog W 0 (fun _ => true) true Tryd.f13.params.toList args.toList ds p := hA0
  rw [Tryd.params13] at hA hval
  obtain ⟨v0, vs0, d0, ds0, p0, q0, hargs, rfl, rfl, h0, r0⟩ := trodAll_cons hA
  obtain ⟨v1, vs1, d1, ds1, p1, q1, rfl, rfl, rfl, h1, r1⟩ := trodAll_cons r0
  obtain ⟨v2, vs2, d2, ds2, p2, q2, rfl, rfl, rfl, h2, r2⟩ := trodAll_cons r1
  obtain ⟨v3, vs3, d3, ds3, p3, q3, rfl, rfl, rfl, h3, r3⟩ := trodAll_cons r2
  obtain ⟨rfl, rfl, rfl⟩ := trodAll_nil r3
  obtain rfl : args = #[v0, v1, v2, v3] := by cases args; simp_all
  obtain ⟨rfl, rfl⟩ := trodVars_none hV
  have hb : Rows.uptoBulkAll [d0, d1, d2, d3] ≤ 1048576 := of_decide_eq_true hk
  simp only [Rows.uptoBulkAll] at hb
  have lt0 : ∀ x ∈ p0, x.block < W.heap.size := by obtain ⟨m, hm⟩ := h0; exact DataW.trod_lt m _ _ _ hm
  obtain ⟨a0, o0, s0, x0⟩ := top_sl (T := (tSl (tInt .i64))) (reads_sl (reads_int Tryd.underlying3 (by kernel_rfl)) Tryd.underlying31 (by kernel_rfl) (by decide)) (fun _ => rfl) Tryd.underlying31 (hval 0 31 v0 rfl rfl) h0
  have b0 : (tSl (tInt .i64)).size a0 ≤ 1048576 := by omega
  have lt1 : ∀ x ∈ p1, x.block < W.heap.size := by obtain ⟨m, hm⟩ := h1; exact DataW.trod_lt m _ _ _ hm
  obtain ⟨a1, o1, s1, x1⟩ := top_struct (T := (tPair (tInt .i64) (tPair (tInt .i64) (tPair (tInt .i64) (tLast (tPair tBool (tPair tBool (tLast (tSl tStr))))))))) (reads_struct (readsF_cons (reads_int Tryd.underlying3 (by kernel_rfl)) rfl (readsF_cons (reads_int Tryd.underlying3 (by kernel_rfl)) rfl (readsF_cons (reads_int Tryd.underlying3 (by kernel_rfl)) rfl (readsF_last (reads_struct (readsF_cons (reads_bool Tryd.underlying4 (by kernel_rfl)) rfl (readsF_cons (reads_bool Tryd.underlying4 (by kernel_rfl)) rfl (readsF_last (reads_sl (reads_str Tryd.underlying9 (by kernel_rfl)) Tryd.underlying37 (by kernel_rfl) (by decide)) rfl))) Tryd.underlying59 (by kernel_rfl)) rfl)))) Tryd.underlying61 (by kernel_rfl)) (fun _ => rfl) Tryd.underlying61 (hval 1 61 v1 rfl rfl) h1
  have b1 : (tPair (tInt .i64) (tPair (tInt .i64) (tPair (tInt .i64) (tLast (tPair tBool (tPair tBool (tLast (tSl tStr)))))))).size a1 ≤ 1048576 := by omega
  have lt2 : ∀ x ∈ p2, x.block < W.heap.size := by obtain ⟨m, hm⟩ := h2; exact DataW.trod_lt m _ _ _ hm
  obtain ⟨a2, o2, s2, x2⟩ := top_struct (T := (tPair tBool (tPair tBool (tLast (tSl tStr))))) (reads_struct (readsF_cons (reads_bool Tryd.underlying4 (by kernel_rfl)) rfl (readsF_cons (reads_bool Tryd.underlying4 (by kernel_rfl)) rfl (readsF_last (reads_sl (reads_str Tryd.underlying9 (by kernel_rfl)) Tryd.underlying37 (by kernel_rfl) (by decide)) rfl))) Tryd.underlying59 (by kernel_rfl)) (fun _ => rfl) Tryd.underlying59 (hval 2 59 v2 rfl rfl) h2
  have b2 : (tPair tBool (tPair tBool (tLast (tSl tStr)))).size a2 ≤ 1048576 := by omega
  have lt3 : ∀ x ∈ p3, x.block < W.heap.size := by obtain ⟨m, hm⟩ := h3; exact DataW.trod_lt m _ _ _ hm
  obtain ⟨a3, o3, s3, x3⟩ := top_bool (T := tBool) (reads_bool Tryd.underlying4 (by kernel_rfl)) (fun _ => rfl) Tryd.underlying4 (hval 3 4 v3 rfl rfl) h3
  have b3 : tBool.size a3 ≤ 1048576 := by omega
  have hr : ∀ (j : Nat) (d : D) (v : Value), [(tSl (tInt .i64)).el a0, (tPair (tInt .i64) (tPair (tInt .i64) (tPair (tInt .i64) (tLast (tPair tBool (tPair tBool (tLast (tSl tStr)))))))).el a1, (tPair tBool (tPair tBool (tLast (tSl tStr)))).el a2, tBool.el a3][j]? = some d → (#[v0, v1, v2, v3] : Array Value)[j]? = some v → Rd W (fun _ => False) d v := by
    intro j d v h1 h2
    match j with
    | 0 => cases h1; cases h2; exact x0
    | 1 => cases h1; cases h2; exact x1
    | 2 => cases h1; cases h2; exact x2
    | 3 => cases h1; cases h2; exact x3
    | j + 4 => cases h1
  refine (run (law13 a0 ⟨a1.1, a1.2.1, a1.2.2.1, a1.2.2.2.1, a1.2.2.2.2.1, a1.2.2.2.2.2⟩ a2.1 a2.2.1 a2.2.2 a3 ⟨wf64 o1.1, wf64 o1.2.1, wf64 o1.2.2.1, by have h : 1 + (1 + (1 + ((1 + (1 + ((sumL a1.2.2.2.2.2 + 1) + 1))) + 1))) ≤ 1048576 := b1; simp only; omega⟩ (by have h : 1 + (1 + ((sumL a2.2.2 + 1) + 1)) ≤ 1048576 := b2; omega)) hL rfl hr).mono fun e W' hh => ?_
  obtain ⟨rfl, bel⟩ := hh
  exact ⟨_, rfl, _, _, _, [], _, [], hW, trodAll_mk1 (shut_bool Tryd.underlying4 _), (trodAll_cons_mk (Below.trod laidOut (by kernel_rfl) (of_decide_eq_true (by kernel_rfl)) h0 bel lt0) (trodAll_cons_mk (Below.trod laidOut (by kernel_rfl) (of_decide_eq_true (by kernel_rfl)) h1 bel lt1) (trodAll_cons_mk (Below.trod laidOut (by kernel_rfl) (of_decide_eq_true (by kernel_rfl)) h2 bel lt2) (trodAll_cons_mk (Below.trod laidOut (by kernel_rfl) (of_decide_eq_true (by kernel_rfl)) h3 bel lt3) trodAll_mk0)))), rfl, bel.frame _, fun h => by cases h⟩

theorem reads (os : Os) {H : Type} (enc : TypeId × Value → H) : ∃ places, DataW.whole enc Tryd.prog ((laidWorld os).forCall (fun _ _ => 0) ⟨#[], #[Value.slice none 0 0, Value.agg #[.int .i64 0, .int .i64 0, .int .i64 0, .bool false, .bool false, .slice none 0 0], Value.agg #[.bool false, .bool false, .slice none 0 0], Value.bool false], []⟩).memory Tryd.f13.params.toList Rows.reportTextSpec.vars false #[Value.slice none 0 0, Value.agg #[.int .i64 0, .int .i64 0, .int .i64 0, .bool false, .bool false, .slice none 0 0], Value.agg #[.bool false, .bool false, .slice none 0 0], Value.bool false].toList 8 = some ([.nil, .agg [.lit (.int .i64 0), .lit (.int .i64 0), .lit (.int .i64 0), .agg [.lit (.bool false), .lit (.bool false), .nil]], .agg [.lit (.bool false), .lit (.bool false), .nil], .lit (.bool false)], [], places) :=
  ⟨[], by kernel_rfl⟩

set_option maxRecDepth 100000 in
theorem lifted (os : Os) (started : os.Started) (H : Type) (enc : TypeId × Value → H) (F : Stop.Interp) :
    ReturnsInHanded {} Tryd.checked os 13 .any ((Rows.OpenSpec.upto Rows.reportTextSpec).preRow enc Tryd.prog Tryd.f13 Rows.reportTextUptoRow.domain false Rows.reportTextUptoRow.laid) (((Rows.OpenSpec.upto Rows.reportTextSpec).at F).post enc Tryd.prog Tryd.f13 false true false false) := by
  obtain ⟨places, hx⟩ := reads os enc
  refine returnsInHanded_of_row (C := Tryd.checked) (s := Rows.OpenSpec.upto Rows.reportTextSpec) own started (by kernel_rfl) Tryd.func13
    (witness_row_at (enc := enc) (C := Tryd.checked) false (laidWorld os) #[Value.slice none 0 0, Value.agg #[.int .i64 0, .int .i64 0, .int .i64 0, .bool false, .bool false, .slice none 0 0], Value.agg #[.bool false, .bool false, .slice none 0 0], Value.bool false] rfl (by kernel_rfl) (by kernel_rfl) (by kernel_rfl)
      (OpenSpec.preRow_of_cond 8 hx (by kernel_rfl) (fun k hk => by cases hk; kernel_rfl) (by kernel_rfl) (laid_met os _))) ?_
  intro W base args ds gs before hval hW _ hcond _ hL _ _
  exact contract H enc W base args ds gs before hval hW hL (hcond _ rfl)

theorem said : Rows.ReportTextUptoSaid :=
  OpenClaim.holds_of_cond 13 Tryd.f13 rfl rfl rfl rfl rfl rfl rfl ⟨rfl, rfl, rfl, rfl, rfl⟩ rfl rfl rfl rfl rfl (by kernel_rfl) Tryd.func13 (by kernel_rfl)
    (of_decide_eq_true (by kernel_rfl)) (by unfold Func.isWrapper; first | (rw [if_pos (by decide +kernel)]; kernel_rfl) | (rw [if_neg (by decide +kernel)]; exact ⟨rfl, rfl⟩))
    (fun os started H enc _ F => by rw [OpenClaim.pre_eq_preRow]; exact lifted os started H enc F)

theorem plain (f : FuncId) (fn : Func) (hf : Tryd.pinned.checked.prog.funcNamed "canary/canarylaw22.ReportText" = some f) (hfn : Tryd.pinned.checked.prog.funcs[f]? = some fn) :
    false = Tryd.pinned.checked.prog.looks [] ∧ ∀ (j : Nat) t, fn.params[j]? = some t → Tryd.pinned.checked.prog.wantsStandIn t = false := by
  obtain rfl : f = 13 := Option.some.inj ((show Tryd.prog.funcNamed "canary/canarylaw22.ReportText" = some 13 by kernel_rfl).symm.trans hf) |>.symm
  obtain rfl : fn = Tryd.f13 := (Option.some.inj (Tryd.func13.symm.trans hfn)).symm
  refine ⟨by kernel_rfl, fun j t ht => ?_⟩
  rw [Tryd.params13] at ht
  match j with
  | 0 => cases ht; exact (show Tryd.prog.wantsStandIn 31 = false by kernel_rfl)
  | 1 => cases ht; exact (show Tryd.prog.wantsStandIn 61 = false by kernel_rfl)
  | 2 => cases ht; exact (show Tryd.prog.wantsStandIn 59 = false by kernel_rfl)
  | 3 => cases ht; exact (show Tryd.prog.wantsStandIn 4 = false by kernel_rfl)
  | j + 4 => simp at ht

theorem card : Rows.ReportTextUptoCardSaid :=
  Claim7.holds_tied_plain_at .later [] _ _ _ _ said (fun _ h => by cases h) (by kernel_rfl) (fun _ h => by cases h) reportTextUpto_row_tie rfl ⟨rfl, rfl⟩ (by kernel_rfl) rfl plain (by kernel_rfl)
#print axioms card
end Go.Proofs.YtpogmmcfkdofhaaDoor.reportText
