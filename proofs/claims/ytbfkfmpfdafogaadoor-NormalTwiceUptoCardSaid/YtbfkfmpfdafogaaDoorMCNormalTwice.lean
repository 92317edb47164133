import Derived.Test.YtbfkfmpfdafogaaDoorMh
import Derived.Test.YtbfkfmpfdafogaaDoorMnq
import Derived.Test.YtbfkfmpfdafogaaDoorMnp
import Derived.Test.YtbfkfmpfdafogaaDoorCards
import Derived.Test.YtbfkfmpfdafogaaDoorTie
namespace Go.Proofs.YtbfkfmpfdafogaaDoor.normalTwice
open Go.Eng Go.ChangeShapes Go.WideShapes Go.ChangeAt Go.RowKit

set_option maxRecDepth 100000 in
theorem contract (H : Type) (enc : TypeId × Value → H) (W : World) (base : Nat) (args : Array Value) (ds gs : List (DataW H)) (before : List MemPlace)
    (hval : ∀ (j : Nat) t v, Tryd.f4.params[j]? = some t → args[j]? = some v → Value.okWide Tryd.prog W .any base t v)
    (hW : DataW.Whole enc Tryd.prog Tryd.f4.params.toList Rows.normalTwiceSpec.vars false W args.toList ds gs before) (hL : laidMetH Tryd.prog Rows.normalTwiceUptoRow.laid W) (hk : Rows.uptoSmall H (ds ++ gs) = true) :
    Calls Tryd.prog 4 args W fun e W' => ∃ v, e = .returned v ∧ Rows.normalTwiceSpec.post enc Tryd.prog Tryd.f4 false true false false W args v W' := by
  have hW' := hW
  obtain ⟨p, q, hA0, hV, rfl, hfz, hnd⟩ := hW'
  have hA : DataW.TrodAll enc Tryd.prog W 0 (fun _ => true) true Tryd.f4.params.toList args.toList ds p := hA0
  rw [Tryd.params4] at hA hval
  obtain ⟨v0, vs0, d0, ds0, p0, q0, hargs, rfl, rfl, h0, r0⟩ := trodAll_cons hA
  obtain ⟨v1, vs1, d1, ds1, p1, q1, rfl, rfl, rfl, h1, r1⟩ := trodAll_cons r0
  obtain ⟨v2, vs2, d2, ds2, p2, q2, rfl, rfl, rfl, h2, r2⟩ := trodAll_cons r1
  obtain ⟨rfl, rfl, rfl⟩ := trodAll_nil r2
  obtain rfl : args = #[v0, v1, v2] := by cases args; simp_all
  obtain ⟨rfl, rfl⟩ := trodVars_none hV
  have hb : Rows.uptoBulkAll [d0, d1, d2] ≤ 1048576 := of_decide_eq_true hk
  simp only [Rows.uptoBulkAll] at hb
  have lt0 : ∀ x ∈ p0, x.block < W.heap.size := by obtain ⟨m, hm⟩ := h0; exact DataW.trod_lt m _ _ _ hm
  obtain ⟨a0, o0, s0, x0⟩ := top_sl (T := (tSl (tInt .i64))) (reads_sl (reads_int Tryd.underlying3 (by kernel_rfl)) Tryd.underlying22 (by kernel_rfl) (by decide)) (fun _ => rfl) Tryd.underlying22 (hval 0 22 v0 rfl rfl) h0
  have b0 : (tSl (tInt .i64)).size a0 ≤ 1048576 := by omega
  have lt1 : ∀ x ∈ p1, x.block < W.heap.size := by obtain ⟨m, hm⟩ := h1; exact DataW.trod_lt m _ _ _ hm
  obtain ⟨a1, o1, s1, x1⟩ := top_sl (T := (tSl (tPair tStr (tLast tStr)))) (reads_sl (reads_struct (readsF_cons (reads_str Tryd.underlying9 (by kernel_rfl)) rfl (readsF_last (reads_str Tryd.underlying9 (by kernel_rfl)) rfl)) Tryd.underlying27 (by kernel_rfl)) Tryd.underlying23 (by kernel_rfl) (by decide)) (fun _ => rfl) Tryd.underlying23 (hval 1 23 v1 rfl rfl) h1
  have b1 : (tSl (tPair tStr (tLast tStr))).size a1 ≤ 1048576 := by omega
  have lt2 : ∀ x ∈ p2, x.block < W.heap.size := by obtain ⟨m, hm⟩ := h2; exact DataW.trod_lt m _ _ _ hm
  obtain ⟨a2, o2, s2, x2⟩ := top_bool (T := tBool) (reads_bool Tryd.underlying4 (by kernel_rfl)) (fun _ => rfl) Tryd.underlying4 (hval 2 4 v2 rfl rfl) h2
  have b2 : tBool.size a2 ≤ 1048576 := by omega
  have hr : ∀ (j : Nat) (d : D) (v : Value), [(tSl (tInt .i64)).el a0, (tSl (tPair tStr (tLast tStr))).el a1, tBool.el a2][j]? = some d → (#[v0, v1, v2] : Array Value)[j]? = some v → Rd W (fun _ => False) d v := by
    intro j d v h1 h2
    match j with
    | 0 => cases h1; cases h2; exact x0
    | 1 => cases h1; cases h2; exact x1
    | 2 => cases h1; cases h2; exact x2
    | j + 3 => cases h1
  refine (runU (lawNormTwice a0 a1 a2 (Nat.le_trans o0.1 (by decide)) (by have h := fsz_size a1; have hb : (tSl (tPair tStr (tLast tStr))).size a1 ≤ 1048576 := b1; omega)) hL rfl hr).mono fun e W' hh => ?_
  obtain ⟨rfl, bel⟩ := hh
  exact ⟨_, rfl, _, _, _, [], _, [], hW, trodAll_mk1 (shut_bool Tryd.underlying4 _), (trodAll_cons_mk (Below.trod laidOut (by kernel_rfl) (of_decide_eq_true (by kernel_rfl)) h0 bel lt0) (trodAll_cons_mk (Below.trod laidOut (by kernel_rfl) (of_decide_eq_true (by kernel_rfl)) h1 bel lt1) (trodAll_cons_mk (Below.trod laidOut (by kernel_rfl) (of_decide_eq_true (by kernel_rfl)) h2 bel lt2) trodAll_mk0))), rfl, bel.frame _, fun h => by cases h⟩

theorem reads (os : Os) {H : Type} (enc : TypeId × Value → H) : ∃ places, DataW.whole enc Tryd.prog ((laidWorldU os).forCall (fun _ _ => 0) ⟨#[], #[Value.slice none 0 0, Value.slice none 0 0, Value.bool false], []⟩).memory Tryd.f4.params.toList Rows.normalTwiceSpec.vars false #[Value.slice none 0 0, Value.slice none 0 0, Value.bool false].toList 8 = some ([.nil, .nil, .lit (.bool false)], [], places) :=
  ⟨[], by kernel_rfl⟩

set_option maxRecDepth 100000 in
theorem lifted (os : Os) (started : os.Started) (H : Type) (enc : TypeId × Value → H) (F : Stop.Interp) :
    ReturnsInHanded {} Tryd.checked os 4 .any ((Rows.OpenSpec.upto Rows.normalTwiceSpec).preRow enc Tryd.prog Tryd.f4 Rows.normalTwiceUptoRow.domain false Rows.normalTwiceUptoRow.laid) (((Rows.OpenSpec.upto Rows.normalTwiceSpec).at F).post enc Tryd.prog Tryd.f4 false true false false) := by
  obtain ⟨places, hx⟩ := reads os enc
  refine returnsInHanded_of_row (C := Tryd.checked) (s := Rows.OpenSpec.upto Rows.normalTwiceSpec) own started (by kernel_rfl) Tryd.func4
    (witness_row_at (enc := enc) (C := Tryd.checked) false (laidWorldU os) #[Value.slice none 0 0, Value.slice none 0 0, Value.bool false] rfl (by kernel_rfl) (by kernel_rfl) (by kernel_rfl)
      (OpenSpec.preRow_of_cond 8 hx (by kernel_rfl) (fun k hk => by cases hk; kernel_rfl) (by kernel_rfl) (laid_metU os _))) ?_
  intro W base args ds gs before hval hW _ hcond _ hL _ _
  exact contract H enc W base args ds gs before hval hW hL (hcond _ rfl)

theorem fact0 : (Rows.normalTwiceUptoRow.inPlace == Tryd.prog.inPlace 4) = true := by kernel_rfl
theorem fact1 : (Rows.normalTwiceUptoRow.unfollowed == Tryd.prog.unfollowed 4) = true := by kernel_rfl
theorem fact2 : (Rows.normalTwiceUptoRow.recurses == Tryd.prog.recurses 4) = true := by kernel_rfl
theorem fact3 : (Rows.normalTwiceUptoRow.named == Tryd.prog.varsNamed 4) = true := by kernel_rfl
theorem fact4 : (Rows.normalTwiceUptoRow.lifted == Tryd.prog.liftsFinal) = true := by rw [liftsFinal]; kernel_rfl
theorem fact5 : (Tryd.prog.make == some Rows.normalTwiceUptoRow.make) = true := by rw [makeIs]; kernel_rfl
theorem fact6 : (Rows.normalTwiceUptoRow.plainKeys == Tryd.prog.plainKeys) = true := by rw [plainK]; kernel_rfl
theorem closed : joinedFacts Tryd.prog 4 Tryd.f4 (Rows.OpenSpec.upto Rows.normalTwiceSpec).bare Rows.normalTwiceUptoRow = true := joined_of mayEnter stopsHeard laidOut mapsRow fact4 fact5 fact6 fact0 fact1 fact2 fact3 (by kernel_rfl)
theorem said : Rows.NormalTwiceUptoSaid :=
  OpenClaim.holds_of_cond 4 Tryd.f4 rfl rfl rfl rfl rfl rfl rfl ⟨rfl, rfl, rfl, rfl, rfl⟩ rfl rfl rfl rfl rfl (by kernel_rfl) Tryd.func4 closed
    (of_decide_eq_true (by kernel_rfl)) (by unfold Func.isWrapper; first | (rw [if_pos (by decide +kernel)]; kernel_rfl) | (rw [if_neg (by decide +kernel)]; exact ⟨rfl, rfl⟩))
    (fun os started H enc _ F => by rw [OpenClaim.pre_eq_preRow]; exact lifted os started H enc F)

theorem plain (f : FuncId) (fn : Func) (hf : Tryd.pinned.checked.prog.funcNamed "canary/canarylaw19.NormalTwice" = some f) (hfn : Tryd.pinned.checked.prog.funcs[f]? = some fn) :
    false = Tryd.pinned.checked.prog.looks [] ∧ ∀ (j : Nat) t, fn.params[j]? = some t → Tryd.pinned.checked.prog.wantsStandIn t = false := by
  obtain rfl : f = 4 := Option.some.inj ((show Tryd.prog.funcNamed "canary/canarylaw19.NormalTwice" = some 4 by kernel_rfl).symm.trans hf) |>.symm
  obtain rfl : fn = Tryd.f4 := (Option.some.inj (Tryd.func4.symm.trans hfn)).symm
  refine ⟨by kernel_rfl, fun j t ht => ?_⟩
  rw [Tryd.params4] at ht
  match j with
  | 0 => cases ht; exact (show Tryd.prog.wantsStandIn 22 = false by kernel_rfl)
  | 1 => cases ht; exact (show Tryd.prog.wantsStandIn 23 = false by kernel_rfl)
  | 2 => cases ht; exact (show Tryd.prog.wantsStandIn 4 = false by kernel_rfl)
  | j + 3 => simp at ht

theorem card : Rows.NormalTwiceUptoCardSaid :=
  Claim7.holds_tied_plain_at .later [] _ _ _ _ said (fun _ h => by cases h) (by kernel_rfl) (fun _ h => by cases h) normalTwiceUpto_row_tie rfl ⟨rfl, rfl⟩ (by kernel_rfl) rfl plain (by kernel_rfl)
#print axioms card
end Go.Proofs.YtbfkfmpfdafogaaDoor.normalTwice
