import Derived.Test.YtiokdhklhnhfhaaMh
import Derived.Test.YtiokdhklhnhfhaaMpc
namespace Go.Proofs.Ytiokdhklhnhfhaa.poolValid
open Go.Eng Go.ChangeShapes Go.WideShapes Go.ChangeAt Go.RowKit

set_option maxRecDepth 100000 in
theorem contract (H : Type) (enc : TypeId × Value → H) (W : World) (base : Nat) (args : Array Value) (ds gs : List (DataW H)) (before : List MemPlace)
    (hval : ∀ (j : Nat) t v, Try.f5.params[j]? = some t → args[j]? = some v → Value.okWide Try.prog W .any base t v)
    (hW : DataW.Whole enc Try.prog Try.f5.params.toList Rows.poolValidSpec.vars false W args.toList ds gs before) (hL : laidMetH Try.prog Rows.poolValidUptoRow.laid W) (hk : Rows.uptoSmall H (ds ++ gs) = true) :
    Calls Try.prog 5 args W fun e W' => ∃ v, e = .returned v ∧ Rows.poolValidSpec.post enc Try.prog Try.f5 false true false false W args v W' := by
  have hW' := hW
  obtain ⟨p, q, hA0, hV, rfl, hfz, hnd⟩ := hW'
  have hA : DataW.TrodAll enc Try.prog W 0 (fun _ => true) true Try.f5.params.toList args.toList ds p := hA0
  rw [Try.params5] at hA hval
  obtain ⟨v0, vs0, d0, ds0, p0, q0, hargs, rfl, rfl, h0, r0⟩ := trodAll_cons hA
  obtain ⟨v1, vs1, d1, ds1, p1, q1, rfl, rfl, rfl, h1, r1⟩ := trodAll_cons r0
  obtain ⟨v2, vs2, d2, ds2, p2, q2, rfl, rfl, rfl, h2, r2⟩ := trodAll_cons r1
  obtain ⟨v3, vs3, d3, ds3, p3, q3, rfl, rfl, rfl, h3, r3⟩ := trodAll_cons r2
  obtain ⟨v4, vs4, d4, ds4, p4, q4, rfl, rfl, rfl, h4, r4⟩ := trodAll_cons r3
  obtain ⟨rfl, rfl, rfl⟩ := trodAll_nil r4
  obtain rfl : args = #[v0, v1, v2, v3, v4] := by cases args; simp_all
  obtain ⟨rfl, rfl⟩ := trodVars_none hV
  have hb : Rows.uptoBulkAll [d0, d1, d2, d3, d4] ≤ 1048576 := of_decide_eq_true hk
  simp only [Rows.uptoBulkAll] at hb
  have lt0 : ∀ x ∈ p0, x.block < W.heap.size := by obtain ⟨m, hm⟩ := h0; exact DataW.trod_lt m _ _ _ hm
  obtain ⟨a0, o0, s0, x0⟩ := top_sl (T := (tSl (tInt .i64))) (reads_sl (reads_int Try.underlying3 (by kernel_rfl)) Try.underlying22 (by kernel_rfl) (by decide)) (fun _ => rfl) Try.underlying22 (hval 0 22 v0 rfl rfl) h0
  have b0 : (tSl (tInt .i64)).size a0 ≤ 1048576 := by omega
  have lt1 : ∀ x ∈ p1, x.block < W.heap.size := by obtain ⟨m, hm⟩ := h1; exact DataW.trod_lt m _ _ _ hm
  obtain ⟨a1, o1, s1, x1⟩ := top_struct (T := (tPair (tInt .i64) (tPair (tInt .i64) (tPair (tInt .i64) (tPair (tSl (tInt .i64)) (tLast (tSl (tInt .i64)))))))) (reads_struct (readsF_cons (reads_int Try.underlying3 (by kernel_rfl)) rfl (readsF_cons (reads_int Try.underlying3 (by kernel_rfl)) rfl (readsF_cons (reads_int Try.underlying3 (by kernel_rfl)) rfl (readsF_cons (reads_sl (reads_int Try.underlying3 (by kernel_rfl)) Try.underlying22 (by kernel_rfl) (by decide)) rfl (readsF_last (reads_sl (reads_int Try.underlying3 (by kernel_rfl)) Try.underlying22 (by kernel_rfl) (by decide)) rfl))))) Try.underlying28 (by kernel_rfl)) (fun _ => rfl) Try.underlying28 (hval 1 28 v1 rfl rfl) h1
  have b1 : (tPair (tInt .i64) (tPair (tInt .i64) (tPair (tInt .i64) (tPair (tSl (tInt .i64)) (tLast (tSl (tInt .i64))))))).size a1 ≤ 1048576 := by omega
  have lt2 : ∀ x ∈ p2, x.block < W.heap.size := by obtain ⟨m, hm⟩ := h2; exact DataW.trod_lt m _ _ _ hm
  obtain ⟨a2, o2, s2, x2⟩ := top_int (T := (tInt .i64)) (reads_int Try.underlying3 (by kernel_rfl)) (fun _ => rfl) Try.underlying3 (hval 2 3 v2 rfl rfl) h2
  have b2 : (tInt .i64).size a2 ≤ 1048576 := by omega
  have lt3 : ∀ x ∈ p3, x.block < W.heap.size := by obtain ⟨m, hm⟩ := h3; exact DataW.trod_lt m _ _ _ hm
  obtain ⟨a3, o3, s3, x3⟩ := top_int (T := (tInt .i64)) (reads_int Try.underlying3 (by kernel_rfl)) (fun _ => rfl) Try.underlying3 (hval 3 3 v3 rfl rfl) h3
  have b3 : (tInt .i64).size a3 ≤ 1048576 := by omega
  have lt4 : ∀ x ∈ p4, x.block < W.heap.size := by obtain ⟨m, hm⟩ := h4; exact DataW.trod_lt m _ _ _ hm
  obtain ⟨a4, o4, s4, x4⟩ := top_bool (T := tBool) (reads_bool Try.underlying4 (by kernel_rfl)) (fun _ => rfl) Try.underlying4 (hval 4 4 v4 rfl rfl) h4
  have b4 : tBool.size a4 ≤ 1048576 := by omega
  have hr : ∀ (j : Nat) (d : D) (v : Value), [(tSl (tInt .i64)).el a0, (tPair (tInt .i64) (tPair (tInt .i64) (tPair (tInt .i64) (tPair (tSl (tInt .i64)) (tLast (tSl (tInt .i64))))))).el a1, (tInt .i64).el a2, (tInt .i64).el a3, tBool.el a4][j]? = some d → (#[v0, v1, v2, v3, v4] : Array Value)[j]? = some v → Rd W (fun _ => False) d v := by
    intro j d v h1 h2
    match j with
    | 0 => cases h1; cases h2; exact x0
    | 1 => cases h1; cases h2; exact x1
    | 2 => cases h1; cases h2; exact x2
    | 3 => cases h1; cases h2; exact x3
    | 4 => cases h1; cases h2; exact x4
    | j + 5 => cases h1
  refine (runP (poolValid5 a0 ⟨a1.1, a1.2.1, a1.2.2.1, a1.2.2.2.1, a1.2.2.2.2⟩ a2 a3 a4 (by have h : 1 + (1 + (1 + ((tSl (tInt .i64)).size a1.2.2.2.1 + ((tSl (tInt .i64)).size a1.2.2.2.2 + 1)))) ≤ 1048576 := b1; have h1 := sl_len (T := tInt .i64) (fun _ => Nat.le_refl 1) a1.2.2.2.1; have h2 := sl_len (T := tInt .i64) (fun _ => Nat.le_refl 1) a1.2.2.2.2; simp only; omega)) hL rfl hr).mono fun e W' hh => ?_
  obtain ⟨rfl, bel⟩ := hh
  exact ⟨_, rfl, _, _, _, [], _, [], hW, trodAll_mk1 (shut_bool Try.underlying4 _), (trodAll_cons_mk (Below.trod laidOut (by kernel_rfl) (of_decide_eq_true (by kernel_rfl)) h0 bel lt0) (trodAll_cons_mk (Below.trod laidOut (by kernel_rfl) (of_decide_eq_true (by kernel_rfl)) h1 bel lt1) (trodAll_cons_mk (Below.trod laidOut (by kernel_rfl) (of_decide_eq_true (by kernel_rfl)) h2 bel lt2) (trodAll_cons_mk (Below.trod laidOut (by kernel_rfl) (of_decide_eq_true (by kernel_rfl)) h3 bel lt3) (trodAll_cons_mk (Below.trod laidOut (by kernel_rfl) (of_decide_eq_true (by kernel_rfl)) h4 bel lt4) trodAll_mk0))))), rfl, bel.frame _, fun h => by cases h⟩

theorem reads (os : Os) {H : Type} (enc : TypeId × Value → H) : ∃ places, DataW.whole enc Try.prog ((laidWorldP os).forCall (fun _ _ => 0) ⟨#[], #[Value.slice none 0 0, Value.agg #[.int .i64 0, .int .i64 0, .int .i64 0, .slice none 0 0, .slice none 0 0], Value.int .i64 0, Value.int .i64 0, Value.bool false], []⟩).memory Try.f5.params.toList Rows.poolValidSpec.vars false #[Value.slice none 0 0, Value.agg #[.int .i64 0, .int .i64 0, .int .i64 0, .slice none 0 0, .slice none 0 0], Value.int .i64 0, Value.int .i64 0, Value.bool false].toList 8 = some ([.nil, .agg [.lit (.int .i64 0), .lit (.int .i64 0), .lit (.int .i64 0), .nil, .nil], .lit (.int .i64 0), .lit (.int .i64 0), .lit (.bool false)], [], places) :=
  ⟨[], by kernel_rfl⟩

set_option maxRecDepth 100000 in
theorem lifted (os : Os) (started : os.Started) (H : Type) (enc : TypeId × Value → H) (F : Stop.Interp) :
    ReturnsInHanded {} Try.checked os 5 .any ((Rows.OpenSpec.upto Rows.poolValidSpec).preRow enc Try.prog Try.f5 Rows.poolValidUptoRow.domain false Rows.poolValidUptoRow.laid) (((Rows.OpenSpec.upto Rows.poolValidSpec).at F).post enc Try.prog Try.f5 false true false false) := by
  obtain ⟨places, hx⟩ := reads os enc
  refine returnsInHanded_of_row (C := Try.checked) (s := Rows.OpenSpec.upto Rows.poolValidSpec) own started (by kernel_rfl) Try.func5
    (witness_row_at (enc := enc) (C := Try.checked) false (laidWorldP os) #[Value.slice none 0 0, Value.agg #[.int .i64 0, .int .i64 0, .int .i64 0, .slice none 0 0, .slice none 0 0], Value.int .i64 0, Value.int .i64 0, Value.bool false] rfl (by kernel_rfl) (by kernel_rfl) (by kernel_rfl)
      (OpenSpec.preRow_of_cond 8 hx (by kernel_rfl) (fun k hk => by cases hk; kernel_rfl) (by kernel_rfl) (laid_metP os _))) ?_
  intro W base args ds gs before hval hW _ hcond _ hL _ _
  exact contract H enc W base args ds gs before hval hW hL (hcond _ rfl)

theorem fact0 : (Rows.poolValidUptoRow.inPlace == Try.prog.inPlace 5) = true := by kernel_rfl
theorem fact1 : (Rows.poolValidUptoRow.unfollowed == Try.prog.unfollowed 5) = true := by kernel_rfl
theorem fact2 : (Rows.poolValidUptoRow.recurses == Try.prog.recurses 5) = true := by kernel_rfl
theorem fact3 : (Rows.poolValidUptoRow.named == Try.prog.varsNamed 5) = true := by kernel_rfl
theorem fact4 : (Rows.poolValidUptoRow.lifted == Try.prog.liftsFinal) = true := by rw [liftsFinal]; kernel_rfl
theorem fact5 : (Try.prog.make == some Rows.poolValidUptoRow.make) = true := by rw [makeIs]; kernel_rfl
theorem fact6 : (Rows.poolValidUptoRow.plainKeys == Try.prog.plainKeys) = true := by rw [plainK]; kernel_rfl
theorem closed : joinedFacts Try.prog 5 Try.f5 (Rows.OpenSpec.upto Rows.poolValidSpec).bare Rows.poolValidUptoRow = true := joined_of mayEnter stopsHeard laidOut mapsRow fact4 fact5 fact6 fact0 fact1 fact2 fact3 (by kernel_rfl)
theorem said : Rows.PoolValidUptoSaid :=
  OpenClaim.holds_of_cond 5 Try.f5 rfl rfl rfl rfl rfl rfl rfl ⟨rfl, rfl, rfl, rfl, rfl⟩ rfl rfl rfl rfl rfl (by kernel_rfl) Try.func5 closed
    (of_decide_eq_true (by kernel_rfl)) (by unfold Func.isWrapper; first | (rw [if_pos (by decide +kernel)]; kernel_rfl) | (rw [if_neg (by decide +kernel)]; exact ⟨rfl, rfl⟩))
    (fun os started H enc _ F => by rw [OpenClaim.pre_eq_preRow]; exact lifted os started H enc F)
#print axioms said
end Go.Proofs.Ytiokdhklhnhfhaa.poolValid
