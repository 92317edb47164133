import Derived.Test.YtpogmmcfkdofhaaDoorTy
import Derived.Test.YtpogmmcfkdofhaaDoorJsM
import Derived.Test.YtpogmmcfkdofhaaDoorCards
import Derived.Test.YtpogmmcfkdofhaaDoorTie
namespace Go.Proofs.YtpogmmcfkdofhaaDoor.jsonWrite
open Go.Eng Go.ChangeShapes Go.WideShapes Go.ChangeAt Go.RowKit

set_option maxRecDepth 100000 in
theorem contract (H : Type) (enc : TypeId × Value → H) (W : World) (base : Nat) (args : Array Value) (ds gs : List (DataW H)) (before : List MemPlace)
    (hval : ∀ (j : Nat) t v, Tryd.f8.params[j]? = some t → args[j]? = some v → Value.okWide Tryd.prog W .any base t v)
    (hW : DataW.Whole enc Tryd.prog Tryd.f8.params.toList Rows.jsonWriteSpec.vars false W args.toList ds gs before) (hL : laidMetH Tryd.prog Rows.jsonWriteUptoRow.laid W) (hk : Rows.uptoSmall H (ds ++ gs) = true) :
    Calls Tryd.prog 8 args W fun e W' => ∃ v, e = .returned v ∧ Rows.jsonWriteSpec.post enc Tryd.prog Tryd.f8 false true false false W args v W' := by
  have hW' := hW
  obtain ⟨p, q, hA0, hV, rfl, hfz, hnd⟩ := hW'
  have hA : DataW.TrodAll enc Tryd.prog W 0 (fun _ => true) true Tryd.f8.params.toList args.toList ds p := hA0
  rw [Tryd.params8] at hA hval
  obtain ⟨v0, vs0, d0, ds0, p0, q0, hargs, rfl, rfl, h0, r0⟩ := trodAll_cons hA
  obtain ⟨v1, vs1, d1, ds1, p1, q1, rfl, rfl, rfl, h1, r1⟩ := trodAll_cons r0
  obtain ⟨v2, vs2, d2, ds2, p2, q2, rfl, rfl, rfl, h2, r2⟩ := trodAll_cons r1
  obtain ⟨rfl, rfl, rfl⟩ := trodAll_nil r2
  obtain rfl : args = #[v0, v1, v2] := by cases args; simp_all
  obtain ⟨rfl, rfl⟩ := trodVars_none hV
  have hb : Rows.uptoBulkAll [d0, d1, d2] ≤ 1048576 := of_decide_eq_true hk
  simp only [Rows.uptoBulkAll] at hb
  have lt0 : ∀ x ∈ p0, x.block < W.heap.size := by obtain ⟨m, hm⟩ := h0; exact DataW.trod_lt m _ _ _ hm
  obtain ⟨a0, o0, s0, x0⟩ := top_int (T := (tInt .i64)) (reads_int Tryd.underlying3 (by kernel_rfl)) (fun _ => rfl) Tryd.underlying3 (hval 0 3 v0 rfl rfl) h0
  have b0 : (tInt .i64).size a0 ≤ 1048576 := by omega
  have lt1 : ∀ x ∈ p1, x.block < W.heap.size := by obtain ⟨m, hm⟩ := h1; exact DataW.trod_lt m _ _ _ hm
  obtain ⟨a1, o1, s1, x1⟩ := top_sl (T := (tSl (tPair tStr (tLast tStr)))) (reads_sl (reads_struct (readsF_cons (reads_str Tryd.underlying9 (by kernel_rfl)) rfl (readsF_last (reads_str Tryd.underlying9 (by kernel_rfl)) rfl)) Tryd.underlying72 (by kernel_rfl)) Tryd.underlying36 (by kernel_rfl) (by decide)) (fun _ => rfl) Tryd.underlying36 (hval 1 36 v1 rfl rfl) h1
  have b1 : (tSl (tPair tStr (tLast tStr))).size a1 ≤ 1048576 := by omega
  have lt2 : ∀ x ∈ p2, x.block < W.heap.size := by obtain ⟨m, hm⟩ := h2; exact DataW.trod_lt m _ _ _ hm
  obtain ⟨a2, o2, s2, x2⟩ := top_sl (T := (tSl tStr)) (reads_sl (reads_str Tryd.underlying9 (by kernel_rfl)) Tryd.underlying37 (by kernel_rfl) (by decide)) (fun _ => rfl) Tryd.underlying37 (hval 2 37 v2 rfl rfl) h2
  have b2 : (tSl tStr).size a2 ≤ 1048576 := by omega
  have hr : ∀ (j : Nat) (d : D) (v : Value), [(tInt .i64).el a0, (tSl (tPair tStr (tLast tStr))).el a1, (tSl tStr).el a2][j]? = some d → (#[v0, v1, v2] : Array Value)[j]? = some v → Rd W (fun _ => False) d v := by
    intro j d v h1 h2
    match j with
    | 0 => cases h1; cases h2; exact x0
    | 1 => cases h1; cases h2; exact x1
    | 2 => cases h1; cases h2; exact x2
    | j + 3 => cases h1
  refine (run (law8 a0 a1 a2 (wf64 o0) (fun p hp => by have h : ((p.1.length + 1) + (p.2.length + 1 + 1)) + 1 ≤ (tSl (tPair tStr (tLast tStr))).size a1 := sl_mem (T := tPair tStr (tLast tStr)) hp; omega) (fun p hp => by have h : (p.length + 1) + 1 ≤ (tSl tStr).size a2 := sl_mem (T := tStr) hp; omega)) hL rfl hr).mono fun e W' hh => ?_
  obtain ⟨rfl, bel⟩ := hh
  exact ⟨_, rfl, _, _, _, [], _, [], hW, trodAll_mk1 (shut_bool Tryd.underlying4 _), (trodAll_cons_mk (Below.trod laidOut (by kernel_rfl) (of_decide_eq_true (by kernel_rfl)) h0 bel lt0) (trodAll_cons_mk (Below.trod laidOut (by kernel_rfl) (of_decide_eq_true (by kernel_rfl)) h1 bel lt1) (trodAll_cons_mk (Below.trod laidOut (by kernel_rfl) (of_decide_eq_true (by kernel_rfl)) h2 bel lt2) trodAll_mk0))), rfl, bel.frame _, fun h => by cases h⟩

theorem reads (os : Os) {H : Type} (enc : TypeId × Value → H) : ∃ places, DataW.whole enc Tryd.prog ((laidWorld os).forCall (fun _ _ => 0) ⟨#[], #[Value.int .i64 0, Value.slice none 0 0, Value.slice none 0 0], []⟩).memory Tryd.f8.params.toList Rows.jsonWriteSpec.vars false #[Value.int .i64 0, Value.slice none 0 0, Value.slice none 0 0].toList 8 = some ([.lit (.int .i64 0), .nil, .nil], [], places) :=
  ⟨[], by kernel_rfl⟩

set_option maxRecDepth 100000 in
theorem lifted (os : Os) (started : os.Started) (H : Type) (enc : TypeId × Value → H) (F : Stop.Interp) :
    ReturnsInHanded {} Tryd.checked os 8 .any ((Rows.OpenSpec.upto Rows.jsonWriteSpec).preRow enc Tryd.prog Tryd.f8 Rows.jsonWriteUptoRow.domain false Rows.jsonWriteUptoRow.laid) (((Rows.OpenSpec.upto Rows.jsonWriteSpec).at F).post enc Tryd.prog Tryd.f8 false true false false) := by
  obtain ⟨places, hx⟩ := reads os enc
  refine returnsInHanded_of_row (C := Tryd.checked) (s := Rows.OpenSpec.upto Rows.jsonWriteSpec) own started (by kernel_rfl) Tryd.func8
    (witness_row_at (enc := enc) (C := Tryd.checked) false (laidWorld os) #[Value.int .i64 0, Value.slice none 0 0, Value.slice none 0 0] rfl (by kernel_rfl) (by kernel_rfl) (by kernel_rfl)
      (OpenSpec.preRow_of_cond 8 hx (by kernel_rfl) (fun k hk => by cases hk; kernel_rfl) (by kernel_rfl) (laid_met os _))) ?_
  intro W base args ds gs before hval hW _ hcond _ hL _ _
  exact contract H enc W base args ds gs before hval hW hL (hcond _ rfl)

theorem said : Rows.JsonWriteUptoSaid :=
  OpenClaim.holds_of_cond 8 Tryd.f8 rfl rfl rfl rfl rfl rfl rfl ⟨rfl, rfl, rfl, rfl, rfl⟩ rfl rfl rfl rfl rfl (by kernel_rfl) Tryd.func8 (by kernel_rfl)
    (of_decide_eq_true (by kernel_rfl)) (by unfold Func.isWrapper; first | (rw [if_pos (by decide +kernel)]; kernel_rfl) | (rw [if_neg (by decide +kernel)]; exact ⟨rfl, rfl⟩))
    (fun os started H enc _ F => by rw [OpenClaim.pre_eq_preRow]; exact lifted os started H enc F)

theorem plain (f : FuncId) (fn : Func) (hf : Tryd.pinned.checked.prog.funcNamed "canary/canarylaw21.JsonWrite" = some f) (hfn : Tryd.pinned.checked.prog.funcs[f]? = some fn) :
    false = Tryd.pinned.checked.prog.looks [] ∧ ∀ (j : Nat) t, fn.params[j]? = some t → Tryd.pinned.checked.prog.wantsStandIn t = false := by
  obtain rfl : f = 8 := Option.some.inj ((show Tryd.prog.funcNamed "canary/canarylaw21.JsonWrite" = some 8 by kernel_rfl).symm.trans hf) |>.symm
  obtain rfl : fn = Tryd.f8 := (Option.some.inj (Tryd.func8.symm.trans hfn)).symm
  refine ⟨by kernel_rfl, fun j t ht => ?_⟩
  rw [Tryd.params8] at ht
  match j with
  | 0 => cases ht; exact (show Tryd.prog.wantsStandIn 3 = false by kernel_rfl)
  | 1 => cases ht; exact (show Tryd.prog.wantsStandIn 36 = false by kernel_rfl)
  | 2 => cases ht; exact (show Tryd.prog.wantsStandIn 37 = false by kernel_rfl)
  | j + 3 => simp at ht

theorem card : Rows.JsonWriteUptoCardSaid :=
  Claim7.holds_tied_plain_at .later [] _ _ _ _ said (fun _ h => by cases h) (by kernel_rfl) (fun _ h => by cases h) jsonWriteUpto_row_tie rfl ⟨rfl, rfl⟩ (by kernel_rfl) rfl plain (by kernel_rfl)
#print axioms card
end Go.Proofs.YtpogmmcfkdofhaaDoor.jsonWrite
