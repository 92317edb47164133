import Derived.Test.YtbfkfmpfdafogaaGreatDoorMn
import Derived.Test.YtbfkfmpfdafogaaGreatDoorMc2
import Derived.Laws.StructEq
import Derived.WalkKit
namespace Go.Proofs.YtbfkfmpfdafogaaGreatDoor
variable {G : List Go.Eng.Gl}
open Go.Eng
attribute [local irreducible] Hold
set_option maxRecDepth 100000

theorem lowA (s : List UInt8) (hl : s.length ≤ 140737488355328) : Does (CG G) 31 [.s s] [.s (lowF s)] := by
  have hes : (encB s).length = s.length := encB_len s
  refine Does.mk (n := 30) Tryz.func31 rfl rfl rfl (Nat.le_of_ble_eq_true rfl) ?_
  repeat refine seq_on ?_
  apply loop_inv (fun i : Nat => i ≤ s.length) (fun i => ⟨[(3, .os 16), (8, .os 16), (9, .d (.i .i64 (s.length : Int))), (10, .d (.i .i64 (i : Int)))], [(16, some (.buf 1 (encB (lowU s i))))], 2⟩) (fun i => s.length - i) 0 (Nat.zero_le _) [(16, _)]
  · ((repeat' constructor) <;> (first | refine hold ?_ | rfl) <;> first | with_reducible rfl | (congr 1 <;> omega) | (congr 1 <;> simp; done) | (simp; done) | exact encB_snoc _ _ | skip)
    all_goals rw [hes]
  · intro i hi
    have hlen : (encB (lowU s i)).length = s.length := by rw [encB_len, lowU_len]
    repeat refine seq_on ?_
    refine cmp_dec (fun h1 => ?_) (fun h1 => ?_)
    · have hi' : i < s.length := by omega
      have hb := s[i].toNat_lt
      repeat refine seq_on ?_
      refine idx i rfl (by omega) ?_
      refine at_is (lowU_at hi') ?_
      repeat refine seq_on ?_
      refine cmp_dec (fun h2 => ?_) (fun h2 => ?_)
      · refine cmp_dec (fun h3 => ?_) (fun h3 => ?_)
        · ((try refine And.intro (draw_ok (by kernel_rfl)) ?_); repeat refine seq_on ?_)
          refine ar8 ⟨by omega, by omega⟩ ?_
          refine ar8 ⟨by omega, by omega⟩ ?_
          refine idx i rfl (by omega) ?_
          refine set_is (lowU_at hi') ?_
          ((try refine And.intro (draw_ok (by kernel_rfl)) ?_); repeat refine seq_on ?_)
          refine ar ⟨by omega, by omega⟩ ?_
          apply again (i + 1) [(16, _)] (by omega) (by omega)
          ((repeat' constructor) <;> (first | refine hold ?_ | rfl) <;> first | with_reducible rfl | (congr 1 <;> omega) | (congr 1 <;> simp; done) | (simp; done) | exact encB_snoc _ _ | skip)
          all_goals (rw [lowU_step hi', ← encB_set, low_up (by omega), show ((s[i].toNat : Int) + 97 - 65) = (s[i].toNat : Int) + 32 by omega])
        · ((try refine And.intro (draw_ok (by kernel_rfl)) ?_); repeat refine seq_on ?_)
          refine ar ⟨by omega, by omega⟩ ?_
          apply again (i + 1) [(16, _)] (by omega) (by omega)
          ((repeat' constructor) <;> (first | refine hold ?_ | rfl) <;> first | with_reducible rfl | (congr 1 <;> omega) | (congr 1 <;> simp; done) | (simp; done) | exact encB_snoc _ _ | skip)
          all_goals rw [lowU_keep hi' (by omega)]
      · ((try refine And.intro (draw_ok (by kernel_rfl)) ?_); repeat refine seq_on ?_)
        refine ar ⟨by omega, by omega⟩ ?_
        apply again (i + 1) [(16, _)] (by omega) (by omega)
        ((repeat' constructor) <;> (first | refine hold ?_ | rfl) <;> first | with_reducible rfl | (congr 1 <;> omega) | (congr 1 <;> simp; done) | (simp; done) | exact encB_snoc _ _ | skip)
        all_goals rw [lowU_keep hi' (by omega)]
    · obtain rfl : i = s.length := by omega
      have e : lowU s s.length = lowF s := by simp [lowU, lowF]
      repeat refine seq_on ?_
      rw [e]
      refine bytes_is (lowF s) rfl ?_
      ((try refine And.intro (draw_ok (by kernel_rfl)) ?_); repeat refine seq_on ?_)
      rfl
def nmD (f : Fld) : D := .agg [.s f.1, .s f.2, .s (lowF f.1)]
theorem of136 (f : Fld) (h : f.1.length ≤ 140737488355328) : Does (CG G) 53 [fldD f] [nmD f] := by
  have c1 := lowA (G := G) f.1 h
  unfold fldD nmD
  refine Does.mk (n := 8) Tryz.func53 rfl rfl rfl (Nat.le_of_ble_eq_true rfl) ?_
  ((try refine And.intro (draw_ok (by kernel_rfl)) ?_); repeat refine seq_on ?_)
  refine call_by c1 ?_
  ((try refine And.intro (draw_ok (by kernel_rfl)) ?_); repeat refine seq_on ?_)
  rfl
theorem is138 (f : Fld) (n : List UInt8) (h : n.length ≤ 140737488355328) : Does (CG G) 55 [nmD f, .s n] [.b (isName n f)] := by
  have c1 := lowA (G := G) n h
  unfold nmD isName
  refine Does.mk (n := 10) Tryz.func55 rfl rfl rfl (Nat.le_of_ble_eq_true rfl) ?_
  ((try refine And.intro (draw_ok (by kernel_rfl)) ?_); repeat refine seq_on ?_)
  refine call_by c1 ?_
  refine cmp_keep ?_
  ((try refine And.intro (draw_ok (by kernel_rfl)) ?_); repeat refine seq_on ?_)
  rfl
end Go.Proofs.YtbfkfmpfdafogaaGreatDoor

namespace Go.Proofs.YtbfkfmpfdafogaaGreatDoor
variable {G : List Go.Eng.Gl}
open Go.Eng
attribute [local irreducible] Hold
set_option maxRecDepth 100000

def anyN (ns : List (List UInt8)) (f : Fld) : Bool := ns.any fun n => isName n f
theorem getStrs {l : List (List UInt8)} {i : Nat} (h : i < l.length) : (l.map D.s)[i]? = some (.s l[i]) := by simp [h]
theorem idx172 (ns : List (List UInt8)) (f : Fld) (hl : ns.length ≤ 9223372036854775807) (hn : ∀ n, n ∈ ns → n.length ≤ 140737488355328) :
    ∃ r : Int, (0 ≤ r ↔ anyN ns f = true) ∧ DoesH (CG G) 77 [.d (strs ns), .fn (.func 55) [.d (nmD f)] []] [] [.d (.i .i64 r)] [] := by
  have hlen : (ns.map D.s).length = ns.length := by simp
  have key : ∃ r : Int, (0 ≤ r ↔ anyN ns f = true) ∧ (∀ i (h : i < ns.length), isName ns[i] f = true → (∀ j (hj : j < i), isName ns[j] f = false) → r = i) ∧ ((∀ j (h : j < ns.length), isName ns[j] f = false) → r = -1) := by
    by_cases h : anyN ns f = true
    · refine ⟨(ns.findIdx (fun n => isName n f) : Nat), by simp [h], fun i hi h1 h2 => ?_, fun h1 => ?_⟩
      · have := (List.findIdx_eq (p := fun n => isName n f) hi).2 ⟨h1, fun j hj => h2 j hj⟩
        rw [this]
      · obtain ⟨n, hn1, hn2⟩ := List.any_eq_true.1 h
        obtain ⟨j, hj, rfl⟩ := List.getElem_of_mem hn1
        rw [h1 j hj] at hn2; cases hn2
    · refine ⟨-1, by simp [h], fun i hi h1 _ => ?_, fun _ => rfl⟩
      exact absurd (List.any_eq_true.2 ⟨ns[i], List.getElem_mem hi, h1⟩) h
  obtain ⟨r, hr, k1, k2⟩ := key
  refine ⟨r, hr, ?_⟩
  unfold strs
  refine DoesH.mk (n := 19) Tryz.func77 rfl rfl rfl (Nat.le_of_ble_eq_true rfl) rfl ?_
  repeat refine seq_on ?_
  apply loop_inv (fun i : Nat => i ≤ ns.length ∧ ∀ j (h : j < ns.length), j < i → isName ns[j] f = false) (fun i => ⟨[(0, .d (.sl 1 (ns.map .s))), (1, .fn (.func 55) [.d (nmD f)] []), (6, .d (.sl 1 (ns.map .s))), (7, .d (.i .i64 (ns.length : Int))), (8, .d (.i .i64 (i : Int)))], [], 2⟩) (fun i => ns.length - i) 0 ⟨Nat.zero_le _, fun j _ hj => by omega⟩ []
  · ((repeat' constructor) <;> (first | refine hold ?_ | rfl) <;> first | with_reducible rfl | (congr 1 <;> omega) | (congr 1 <;> simp; done) | (simp; done) | exact encB_snoc _ _ | skip)
  · rintro i ⟨hi, hp⟩
    repeat refine seq_on ?_
    refine cmp_dec (fun h1 => ?_) (fun h1 => ?_)
    · have hi' : i < ns.length := by omega
      repeat refine seq_on ?_
      refine Eng.get_at i rfl (getStrs hi') ?_
      have c1 := is138 (G := G) f ns[i] (hn _ (List.getElem_mem hi'))
      cases hb : isName ns[i] f with
      | true =>
        rw [hb] at c1
        refine call_by c1 ?_
        repeat refine seq_on ?_
        refine end_ok [] ?_
        rw [← k1 i hi' hb (fun j hj => hp j (by omega) hj)]
        ((repeat' constructor) <;> (first | refine hold ?_ | rfl) <;> first | with_reducible rfl | (congr 1 <;> omega) | (congr 1 <;> simp; done) | (simp; done) | exact encB_snoc _ _ | skip)
      | false =>
        rw [hb] at c1
        refine call_by c1 ?_
        repeat refine seq_on ?_
        refine ar ⟨by omega, by omega⟩ ?_
        apply again (i + 1) [] ⟨by omega, fun j h hj => by
          by_cases hji : j < i
          · exact hp j h hji
          · obtain rfl : j = i := by omega
            exact hb⟩ (by omega)
        ((repeat' constructor) <;> (first | refine hold ?_ | rfl) <;> first | with_reducible rfl | (congr 1 <;> omega) | (congr 1 <;> simp; done) | (simp; done) | exact encB_snoc _ _ | skip)
    · obtain rfl : i = ns.length := by omega
      repeat refine seq_on ?_
      refine end_ok [] ?_
      rw [k2 (fun j h => hp j h h)]
      ((repeat' constructor) <;> (first | refine hold ?_ | rfl) <;> first | with_reducible rfl | (congr 1 <;> omega) | (congr 1 <;> simp; done) | (simp; done) | exact encB_snoc _ _ | skip)
theorem cont137 (ns : List (List UInt8)) (f : Fld) (hl : ns.length ≤ 9223372036854775807) (hn : ∀ n, n ∈ ns → n.length ≤ 140737488355328) :
    DoesH (CG G) 54 [.d (strs ns), .fn (.func 55) [.d (nmD f)] []] [] [.d (.b (anyN ns f))] [] := by
  obtain ⟨r, hr, c1⟩ := idx172 (G := G) ns f hl hn
  refine DoesH.mk (n := 9) Tryz.func54 rfl rfl rfl (Nat.le_of_ble_eq_true rfl) rfl ?_
  repeat refine seq_on ?_
  refine callh [] c1 ?_ ?_
  · ((repeat' constructor) <;> (first | refine hold ?_ | rfl) <;> first | with_reducible rfl | (congr 1 <;> omega) | (congr 1 <;> simp; done) | (simp; done) | exact encB_snoc _ _ | skip)
  refine cmp_is (anyN ns f) (by cases h : anyN ns f <;> simp [h] at hr ⊢ <;> omega) ?_
  repeat refine seq_on ?_
  refine end_ok [] ?_
  ((repeat' constructor) <;> (first | refine hold ?_ | rfl) <;> first | with_reducible rfl | (congr 1 <;> omega) | (congr 1 <;> simp; done) | (simp; done) | exact encB_snoc _ _ | skip)
end Go.Proofs.YtbfkfmpfdafogaaGreatDoor

namespace Go.Proofs.YtbfkfmpfdafogaaGreatDoor
variable {G : List Go.Eng.Gl}
open Go.Eng
attribute [local irreducible] Hold
set_option maxRecDepth 100000

def woF (ns : List (List UInt8)) (l : List Fld) : List Fld := l.filter fun f => !anyN ns f
theorem woF_snoc (ns : List (List UInt8)) (l : List Fld) (f : Fld) : woF ns (l ++ [f]) = if anyN ns f then woF ns l else woF ns l ++ [f] := by
  unfold woF
  rw [List.filter_append]
  by_cases h : anyN ns f <;> simp [h, List.filter]
theorem woF_len (ns : List (List UInt8)) (l : List Fld) : (woF ns l).length ≤ l.length := List.length_filter_le _ _
theorem getFld {l : List Fld} {i : Nat} (h : i < l.length) : (l.map fldD)[i]? = some (.agg [.s l[i].1, .s l[i].2]) := by simp [h, fldD]
theorem wo88 (l : List Fld) (ns : List (List UInt8)) (hl : l.length ≤ 68719476736) (hf : ∀ f, f ∈ l → f.1.length ≤ 140737488355328) (hns : ns.length ≤ 9223372036854775807) (hn : ∀ n, n ∈ ns → n.length ≤ 140737488355328) :
    Does (CG G) 29 [.sl 2 (l.map fldD), strs ns] [.sl 2 ((woF ns l).map fldD)] := by
  have hlen : (l.map fldD).length = l.length := by simp
  refine Does.mk (n := 29) Tryz.func29 rfl rfl rfl (Nat.le_of_ble_eq_true rfl) ?_
  repeat refine seq_on ?_
  apply loop_inv (fun i : Nat => i ≤ l.length) (fun i => ⟨[(1, .d (strs ns)), (5, .os 16), (9, .d (.sl 2 (l.map fldD))), (10, .d (.i .i64 (l.length : Int))), (11, .d (.i .i64 (i : Int)))], [(16, some (.buf 2 ((woF ns (l.take i)).map fldD)))], 2⟩) (fun i => l.length - i) 0 (Nat.zero_le _) [(16, _)]
  · ((repeat' constructor) <;> (first | refine hold ?_ | rfl) <;> first | with_reducible rfl | (congr 1 <;> omega) | (congr 1 <;> simp; done) | (simp; done) | exact encB_snoc _ _ | skip)
  · intro i hi
    repeat refine seq_on ?_
    refine cmp_dec (fun h1 => ?_) (fun h1 => ?_)
    · have hi' : i < l.length := by omega
      have hb : (woF ns (l.take i)).length ≤ i := Nat.le_trans (woF_len _ _) (by simp; omega)
      have hs : woF ns (l.take (i + 1)) = if anyN ns l[i] then woF ns (l.take i) else woF ns (l.take i) ++ [l[i]] := by
        rw [List.take_succ_eq_append_getElem hi', woF_snoc]
      have c1 := of136 (G := G) l[i] (hf _ (List.getElem_mem hi'))
      have c2 := cont137 (G := G) ns l[i] hns hn
      unfold fldD nmD at c1
      unfold nmD at c2
      repeat refine seq_on ?_
      refine Eng.get_at i rfl (getFld hi') ?_
      repeat refine seq_on ?_
      refine call_by c1 ?_
      repeat refine seq_on ?_
      cases hb2 : anyN ns l[i] with
      | true =>
        rw [hb2] at c2 hs
        rw [if_pos rfl] at hs
        refine callh [] c2 ?_ ?_
        · ((repeat' constructor) <;> (first | refine hold ?_ | rfl) <;> first | with_reducible rfl | (congr 1 <;> omega) | (congr 1 <;> simp; done) | (simp; done) | exact encB_snoc _ _ | skip)
        repeat refine seq_on ?_
        refine ar ⟨by omega, by omega⟩ ?_
        apply again (i + 1) [(16, _)] (by omega) (by omega)
        ((repeat' constructor) <;> (first | refine hold ?_ | rfl) <;> first | with_reducible rfl | (congr 1 <;> omega) | (congr 1 <;> simp; done) | (simp; done) | exact encB_snoc _ _ | skip)
        all_goals rw [hs]
      | false =>
        rw [hb2] at c2 hs
        rw [if_neg (by decide)] at hs
        refine callh [] c2 ?_ ?_
        · ((repeat' constructor) <;> (first | refine hold ?_ | rfl) <;> first | with_reducible rfl | (congr 1 <;> omega) | (congr 1 <;> simp; done) | (simp; done) | exact encB_snoc _ _ | skip)
        repeat refine seq_on ?_
        refine app_ok (by simp; omega) ?_
        repeat refine seq_on ?_
        refine ar ⟨by omega, by omega⟩ ?_
        apply again (i + 1) [(16, _)] (by omega) (by omega)
        ((repeat' constructor) <;> (first | refine hold ?_ | rfl) <;> first | with_reducible rfl | (congr 1 <;> omega) | (congr 1 <;> simp; done) | (simp; done) | exact encB_snoc _ _ | skip)
        all_goals (rw [hs]; simp [fldD])
    · obtain rfl : i = l.length := by omega
      rw [List.take_of_length_le (Nat.le_refl _)]
      ((try refine And.intro (draw_ok (by kernel_rfl)) ?_); repeat refine seq_on ?_)
      rfl
theorem vals174 (l : List Fld) (n : List UInt8) (hl : l.length ≤ 68719476736) (hf : ∀ f, f ∈ l → f.1.length ≤ 140737488355328) (hn : n.length ≤ 140737488355328) :
    Does (CG G) 79 [.sl 2 (l.map fldD), .s n] [strs (valsF n l)] := by
  have hlen : (l.map fldD).length = l.length := by simp
  refine Does.mk (n := 28) Tryz.func79 rfl rfl rfl (Nat.le_of_ble_eq_true rfl) ?_
  repeat refine seq_on ?_
  apply loop_inv (fun i : Nat => i ≤ l.length) (fun i => ⟨[(1, .d (.s n)), (5, .os 16), (9, .d (.sl 2 (l.map fldD))), (10, .d (.i .i64 (l.length : Int))), (11, .d (.i .i64 (i : Int)))], [(16, some (.buf 1 ((valsF n (l.take i)).map .s)))], 2⟩) (fun i => l.length - i) 0 (Nat.zero_le _) [(16, _)]
  · ((repeat' constructor) <;> (first | refine hold ?_ | rfl) <;> first | with_reducible rfl | (congr 1 <;> omega) | (congr 1 <;> simp; done) | (simp; done) | exact encB_snoc _ _ | skip)
  · intro i hi
    repeat refine seq_on ?_
    refine cmp_dec (fun h1 => ?_) (fun h1 => ?_)
    · have hi' : i < l.length := by omega
      have hb : (valsF n (l.take i)).length ≤ i := by
        unfold valsF
        rw [List.length_map]
        exact Nat.le_trans (List.length_filter_le _ _) (by simp; omega)
      have hs : valsF n (l.take (i + 1)) = if isName n l[i] then valsF n (l.take i) ++ [l[i].2] else valsF n (l.take i) := by
        rw [List.take_succ_eq_append_getElem hi', valsF_snoc]
      have c1 := of136 (G := G) l[i] (hf _ (List.getElem_mem hi'))
      have c2 := is138 (G := G) l[i] n hn
      unfold fldD nmD at c1
      unfold nmD at c2
      repeat refine seq_on ?_
      refine Eng.get_at i rfl (getFld hi') ?_
      repeat refine seq_on ?_
      refine call_by c1 ?_
      repeat refine seq_on ?_
      cases hb2 : isName n l[i] with
      | true =>
        rw [hb2] at c2 hs
        rw [if_pos rfl] at hs
        refine call_by c2 ?_
        repeat refine seq_on ?_
        refine app_ok (by simp; omega) ?_
        repeat refine seq_on ?_
        refine ar ⟨by omega, by omega⟩ ?_
        apply again (i + 1) [(16, _)] (by omega) (by omega)
        ((repeat' constructor) <;> (first | refine hold ?_ | rfl) <;> first | with_reducible rfl | (congr 1 <;> omega) | (congr 1 <;> simp; done) | (simp; done) | exact encB_snoc _ _ | skip)
        all_goals (rw [hs]; simp)
      | false =>
        rw [hb2] at c2 hs
        rw [if_neg (by decide)] at hs
        refine call_by c2 ?_
        repeat refine seq_on ?_
        refine ar ⟨by omega, by omega⟩ ?_
        apply again (i + 1) [(16, _)] (by omega) (by omega)
        ((repeat' constructor) <;> (first | refine hold ?_ | rfl) <;> first | with_reducible rfl | (congr 1 <;> omega) | (congr 1 <;> simp; done) | (simp; done) | exact encB_snoc _ _ | skip)
        all_goals rw [hs]
    · obtain rfl : i = l.length := by omega
      rw [List.take_of_length_le (Nat.le_refl _)]
      ((try refine And.intro (draw_ok (by kernel_rfl)) ?_); repeat refine seq_on ?_)
      rfl
end Go.Proofs.YtbfkfmpfdafogaaGreatDoor

namespace Go.Proofs.YtbfkfmpfdafogaaGreatDoor
variable {G : List Go.Eng.Gl}
open Go.Eng
attribute [local irreducible] Hold
set_option maxRecDepth 100000

theorem fin_eqN {α : Type} {a b : α} (h : a = b) : a = b := h
theorem ext_cnt (l : List UInt8) (c : UInt8) : ExtOk (CG G) 135 [.d (.s l), .d (.i .u8 (c.toNat : Int))] (.d (.i .i64 (l.count c : Int))) := by
  intro w α X p vs hl hr _
  obtain ⟨vl⟩ := vs
  match vl, hl, hr with
  | [a, b], _, hr =>
    have ha := (hr 0 _ a rfl rfl).dinv.sinv
    have hb := (hr 1 _ b rfl rfl).dinv.iinv
    subst ha hb
    refine ⟨_, ?_, .d _ _ (.i _ _), .d _⟩
    show (callFunc 135 #[.string ⟨l.toArray⟩, .int .u8 (c.toNat : Int)]).run Tryz.prog w = _
    rw [run_callFunc_extern Tryz.func135 (by kernel_rfl) (by kernel_rfl) (by kernel_rfl) (e := Extern.BytealgCount.count) (by kernel_rfl)]
    simp [Lib.run_countString, Result.andThen, Lib.countByte]
theorem cnt252 (l : List UInt8) (c : UInt8) : Does (CG G) 131 [.s l, .s [c]] [.i .i64 (l.count c : Int)] := by
  refine Does.mk (n := 34) Tryz.func131 rfl rfl rfl (Nat.le_of_ble_eq_true rfl) ?_
  repeat refine seq_on ?_
  refine cmp_no (show ¬ ((1 : Nat) : Int) = 0 by decide) ?_
  repeat refine seq_on ?_
  refine cmp_yes rfl ?_
  repeat refine seq_on ?_
  refine Eng.get_at 0 rfl rfl ?_
  refine call_ext _ (ext_cnt l c) ?_
  repeat refine seq_on ?_
  rfl
theorem ind253 (l : List UInt8) (c : UInt8) : Does (CG G) 132 [.s l, .s [c]] [.i .i64 (match idxO c l with | some i => (i : Int) | none => -1)] := by
  have h := index1 (G := G) l c
  rw [idxO_lib] at h
  refine Does.mk (n := 8) Tryz.func132 rfl rfl rfl (Nat.le_of_ble_eq_true rfl) ?_
  repeat refine seq_on ?_
  refine call_by h ?_
  repeat refine seq_on ?_
  rfl
theorem gen239 (l : List UInt8) (c : UInt8) (hl : l.length ≤ 68719476735) : Does (CG G) 126 [.s l, .s [c], .i .i64 0, .i .i64 (-1)] [strs (splitF c l)] := by
  have hcnt : l.count c ≤ l.length := List.count_le_length
  obtain ⟨n, hn⟩ : ∃ n, n = l.count c := ⟨_, rfl⟩
  have c1 := cnt252 (G := G) l c
  rw [← hn] at c1 hcnt
  refine Does.mk (n := 66) Tryz.func126 rfl rfl rfl (Nat.le_of_ble_eq_true rfl) ?_
  repeat refine seq_on ?_
  refine cmp_no (by decide) ?_
  repeat refine seq_on ?_
  refine cmp_no (by simp) ?_
  repeat refine seq_on ?_
  refine cmp_yes (by decide) ?_
  repeat refine seq_on ?_
  refine call_by c1 ?_
  refine ar ⟨by omega, by omega⟩ ?_
  repeat refine seq_on ?_
  refine ar ⟨by omega, by omega⟩ ?_
  repeat refine seq_on ?_
  refine mk_ok (n + 1) (by omega) (by omega) (by omega) (by show (16 : Int) * _ ≤ _; omega) ?_
  repeat refine seq_on ?_
  refine ar ⟨by omega, by omega⟩ ?_
  repeat refine seq_on ?_
  apply loop_inv (fun x : List (List UInt8) × List UInt8 => x.1 ++ splitF c x.2 = splitF c l ∧ x.1.length + x.2.count c = n ∧ x.2.length ≤ l.length) (fun x => ⟨[(0, .d (.s x.2)), (1, .d (.s [c])), (2, .d (.i .i64 0)), (3, .d (.i .i64 (n : Int))), (9, .os 16), (10, .d (.i .i64 (x.1.length : Int)))], [(16, some (.buf 1 (x.1.map .s ++ List.replicate (n + 1 - x.1.length) (.s []))))], 2⟩) (fun x => n - x.1.length) ([], l) ⟨rfl, by simp [hn], Nat.le_refl _⟩ [(16, _)]
  · ((repeat' constructor) <;> (first | refine hold ?_ | rfl) <;> first | with_reducible rfl | (congr 1 <;> omega) | (congr 1 <;> simp; done) | (simp; done) | exact encB_snoc _ _ | skip)
  · rintro ⟨d, r⟩ ⟨h1, h2, h3⟩
    simp only at h1 h2 h3
    have hbl : (d.map D.s ++ List.replicate (n + 1 - d.length) (D.s [])).length = n + 1 := by simp; omega
    have hat : (d.map D.s ++ List.replicate (n + 1 - d.length) (D.s []))[d.length]? = some (D.s []) := by
      rw [List.getElem?_append_right (by simp), List.length_map, Nat.sub_self, List.getElem?_replicate, if_pos (by omega)]
    have hset : ∀ x : List UInt8, (d.map D.s ++ List.replicate (n + 1 - d.length) (D.s [])).set d.length (D.s x) = (d ++ [x]).map D.s ++ List.replicate (n + 1 - (d.length + 1)) (D.s []) := by
      intro x
      rw [List.set_append_right _ _ (by simp), show n + 1 - d.length = (n + 1 - (d.length + 1)) + 1 by omega, List.replicate_succ]
      simp
    repeat refine seq_on ?_
    refine cmp_dec (fun g1 => ?_) (fun g1 => ?_)
    · have g1 : (d.length : Int) < (n : Int) := g1
      have hc : 0 < r.count c := by omega
      have c2 := ind253 (G := G) r c
      cases hx : idxO c r with
      | none =>
        have := idxO_none hx
        rw [List.count_eq_zero_of_not_mem this] at hc
        omega
      | some k =>
        rw [hx] at c2
        simp only at c2
        obtain ⟨q1, q2, q3⟩ := idxO_some hx
        have hnt : c ∉ r.take k := by
          intro hm
          obtain ⟨j, hj, he⟩ := List.getElem_of_mem hm
          simp only [List.length_take] at hj
          exact q3 j (by omega) (by rw [← he]; simp)
        have hr : r = r.take k ++ c :: r.drop (k + 1) := by
          conv => lhs; rw [← List.take_append_drop k r]
          rw [List.drop_eq_getElem_cons q1]
          rw [List.getElem?_eq_getElem q1] at q2
          cases q2
          first | done | rfl
        have hsp : splitF c r = r.take k :: splitF c (r.drop (k + 1)) := by
          conv => lhs; rw [hr]
          exact splitF_seg hnt
        have hco : r.count c = (r.drop (k + 1)).count c + 1 := by
          conv => lhs; rw [hr]
          rw [List.count_append, List.count_eq_zero_of_not_mem hnt, List.count_cons_self]; omega
        repeat refine seq_on ?_
        refine call_by c2 ?_
        repeat refine seq_on ?_
        refine cmp_no (by omega) ?_
        repeat refine seq_on ?_
        refine ar ⟨by omega, by omega⟩ ?_
        refine bnd k (by omega) (by simp only; omega) ?_
        refine idx d.length rfl (by rw [hbl]; omega) ?_
        refine set_is hat ?_
        repeat refine seq_on ?_
        refine ar ⟨by simp only [List.length_singleton]; omega, by simp only [List.length_singleton]; omega⟩ ?_
        refine bnd (k + 1) (by simp only [List.length_singleton]; omega) (by simp only; omega) ?_
        repeat refine seq_on ?_
        refine ar ⟨by omega, by omega⟩ ?_
        apply again (d ++ [r.take k], r.drop (k + 1)) [(16, _)] ⟨by rw [← h1, hsp]; simp, by simp; omega, by simp; omega⟩ (by simp; omega)
        ((repeat' constructor) <;> (first | refine hold ?_ | rfl) <;> first | with_reducible rfl | (congr 1 <;> omega) | (congr 1 <;> simp; done) | (simp; done) | exact encB_snoc _ _ | skip)
        all_goals (simp only [List.length_append, List.length_singleton]; exact hset (r.take k))
    · have g1 : ¬ (d.length : Int) < (n : Int) := g1
      have hc : r.count c = 0 := by omega
      have hdl : d.length = n := by omega
      have hsp : splitF c r = [r] := splitF_none (List.count_eq_zero.1 hc)
      repeat refine seq_on ?_
      refine idx d.length rfl (by rw [hbl]; omega) ?_
      refine set_is hat ?_
      repeat refine seq_on ?_
      refine ar ⟨by simp only; omega, by simp only; omega⟩ ?_
      refine bnd (d.length + 1) rfl (by rw [List.length_set, hbl]; omega) ?_
      refine keep_data ?_
      ((try refine And.intro (draw_ok (by kernel_rfl)) ?_); repeat refine seq_on ?_)
      refine fin_eqN ?_
      unfold strs
      rw [hset r, ← h1, hsp, List.take_left' (by simp)]
theorem split214 (l : List UInt8) (c : UInt8) (hl : l.length ≤ 68719476735) : Does (CG G) 109 [.s l, .s [c]] [strs (splitF c l)] := by
  have h := gen239 (G := G) l c hl
  refine Does.mk (n := 8) Tryz.func109 rfl rfl rfl (Nat.le_of_ble_eq_true rfl) ?_
  repeat refine seq_on ?_
  refine call_by h ?_
  repeat refine seq_on ?_
  rfl
end Go.Proofs.YtbfkfmpfdafogaaGreatDoor

namespace Go.Proofs.YtbfkfmpfdafogaaGreatDoor
variable {G : List Go.Eng.Gl}
open Go.Eng
attribute [local irreducible] Hold
set_option maxRecDepth 100000

def keepT (ps : List (List UInt8)) : List (List UInt8) := (ps.map trimF).filter fun x => x != []
def elF (s : List UInt8) : List (List UInt8) := keepT (splitF 44 s)
def lstF (l : List (List UInt8)) : List (List UInt8) := l.flatMap elF
def lsum (l : List (List UInt8)) : Nat := (l.map fun s => s.length + 1).sum
theorem keepT_snoc (ps : List (List UInt8)) (x : List UInt8) : keepT (ps ++ [x]) = if trimF x = [] then keepT ps else keepT ps ++ [trimF x] := by
  unfold keepT
  rw [List.map_append, List.filter_append]
  by_cases h : trimF x = [] <;> simp [h]
theorem keepT_len (ps : List (List UInt8)) : (keepT ps).length ≤ ps.length := by
  unfold keepT
  exact Nat.le_trans (List.length_filter_le _ _) (by simp)
theorem lstF_snoc (l : List (List UInt8)) (x : List UInt8) : lstF (l ++ [x]) = lstF l ++ elF x := by simp [lstF]
theorem elF_len (s : List UInt8) : (elF s).length ≤ s.length + 1 := by
  have h1 := keepT_len (splitF 44 s)
  have h2 := splitF_len 44 s
  have h3 : s.count 44 ≤ s.length := List.count_le_length
  unfold elF; omega
theorem lstF_len (l : List (List UInt8)) : (lstF l).length ≤ lsum l := by
  induction l with
  | nil => simp [lstF]
  | cons x r ih =>
    have := elF_len x
    simp only [lstF, List.flatMap_cons, List.length_append, lsum, List.map_cons, List.sum_cons] at ih ⊢
    omega
theorem lsum_take {l : List (List UInt8)} {i : Nat} (h : i < l.length) : lsum (l.take i) + (l[i].length + 1) ≤ lsum l := by
  have h1 : lsum l = lsum (l.take i) + lsum (l.drop i) := by
    unfold lsum
    conv => lhs; rw [← List.take_append_drop i l]
    rw [List.map_append, List.sum_append]
  have h2 : lsum (l.drop i) = (l[i].length + 1) + lsum (l.drop (i + 1)) := by
    rw [List.drop_eq_getElem_cons h]; rfl
  omega
theorem list173 (l : List (List UInt8)) (hl : lsum l ≤ 68719476735) : Does (CG G) 78 [strs l] [strs (lstF l)] := by
  have hlen : (l.map D.s).length = l.length := by simp
  have hll : l.length ≤ 68719476735 := by
    have : l.length ≤ lsum l := by
      unfold lsum
      clear hl hlen
      induction l with
      | nil => simp
      | cons x r ih => simp only [List.length_cons, List.map_cons, List.sum_cons]; omega
    omega
  unfold strs
  refine Does.mk (n := 32) Tryz.func78 rfl rfl rfl (Nat.le_of_ble_eq_true rfl) ?_
  repeat refine seq_on ?_
  apply loop_inv (fun i : Nat => i ≤ l.length) (fun i => ⟨[(3, .os 16), (8, .d (.sl 1 (l.map .s))), (9, .d (.i .i64 (l.length : Int))), (10, .d (.i .i64 (i : Int)))], [(16, some (.buf 1 ((lstF (l.take i)).map .s)))], 2⟩) (fun i => l.length - i) 0 (Nat.zero_le _) [(16, _)]
  · ((repeat' constructor) <;> (first | refine hold ?_ | rfl) <;> first | with_reducible rfl | (congr 1 <;> omega) | (congr 1 <;> simp; done) | (simp; done) | exact encB_snoc _ _ | skip)
  · intro i hi
    repeat refine seq_on ?_
    refine cmp_dec (fun h1 => ?_) (fun h1 => ?_)
    · have hi' : i < l.length := by omega
      have hs := lsum_take hi'
      have hb := lstF_len (l.take i)
      have hsp := split214 (G := G) l[i] 44 (by omega)
      have hpl := splitF_len 44 l[i]
      have hcl : l[i].count 44 ≤ l[i].length := List.count_le_length
      have hpm : ∀ x, x ∈ splitF 44 l[i] → x.length ≤ 9223372036854775807 := fun x hx => by have := splitF_mem hx; omega
      have hfin : lstF (l.take (i + 1)) = lstF (l.take i) ++ keepT (splitF 44 l[i]) := by
        rw [List.take_succ_eq_append_getElem hi', lstF_snoc]; rfl
      generalize splitF 44 l[i] = ps at hsp hpl hpm hfin
      unfold strs at hsp
      have hplen : (ps.map D.s).length = ps.length := by simp
      repeat refine seq_on ?_
      refine Eng.get_at i rfl (getStrs hi') ?_
      repeat refine seq_on ?_
      refine call_by hsp ?_
      repeat refine seq_on ?_
      apply loop_inv (fun j : Nat => j ≤ ps.length) (fun j => ⟨[(3, .os 16), (8, .d (.sl 1 (l.map .s))), (9, .d (.i .i64 (l.length : Int))), (10, .d (.i .i64 (i : Int))), (15, .d (.sl 1 (ps.map .s))), (16, .d (.i .i64 (ps.length : Int))), (17, .d (.i .i64 (j : Int)))], [(16, some (.buf 1 ((lstF (l.take i) ++ keepT (ps.take j)).map .s)))], 2⟩) (fun j => ps.length - j) 0 (Nat.zero_le _) [(16, _)]
      · ((repeat' constructor) <;> (first | refine hold ?_ | rfl) <;> first | with_reducible rfl | (congr 1 <;> omega) | (congr 1 <;> simp; done) | (simp; done) | exact encB_snoc _ _ | skip)
        all_goals simp [keepT]
      · intro j hj
        repeat refine seq_on ?_
        refine cmp_dec (fun k1 => ?_) (fun k1 => ?_)
        · have hj' : j < ps.length := by omega
          have hk := keepT_len (ps.take j)
          have hk2 : (ps.take j).length ≤ j := by simp; omega
          have ht := trimA (G := G) ps[j] (hpm _ (List.getElem_mem hj'))
          have hst : keepT (ps.take (j + 1)) = if trimF ps[j] = [] then keepT (ps.take j) else keepT (ps.take j) ++ [trimF ps[j]] := by
            rw [List.take_succ_eq_append_getElem hj', keepT_snoc]
          repeat refine seq_on ?_
          refine Eng.get_at j rfl (getStrs hj') ?_
          repeat refine seq_on ?_
          refine call_by ht ?_
          repeat refine seq_on ?_
          refine cmp_dec (fun g => ?_) (fun g => ?_)
          · rw [if_neg g] at hst
            repeat refine seq_on ?_
            refine app_ok (by simp; omega) ?_
            repeat refine seq_on ?_
            refine ar ⟨by omega, by omega⟩ ?_
            apply again (j + 1) [(16, _)] (by omega) (by omega)
            ((repeat' constructor) <;> (first | refine hold ?_ | rfl) <;> first | with_reducible rfl | (congr 1 <;> omega) | (congr 1 <;> simp; done) | (simp; done) | exact encB_snoc _ _ | skip)
            all_goals (rw [hst]; simp)
          · rw [if_pos (Classical.not_not.1 g)] at hst
            repeat refine seq_on ?_
            refine ar ⟨by omega, by omega⟩ ?_
            apply again (j + 1) [(16, _)] (by omega) (by omega)
            ((repeat' constructor) <;> (first | refine hold ?_ | rfl) <;> first | with_reducible rfl | (congr 1 <;> omega) | (congr 1 <;> simp; done) | (simp; done) | exact encB_snoc _ _ | skip)
            all_goals rw [hst]
        · obtain rfl : j = ps.length := by omega
          rw [List.take_of_length_le (Nat.le_refl _)]
          repeat refine seq_on ?_
          refine ar ⟨by omega, by omega⟩ ?_
          apply again (i + 1) [(16, _)] (by omega) (by omega)
          ((repeat' constructor) <;> (first | refine hold ?_ | rfl) <;> first | with_reducible rfl | (congr 1 <;> omega) | (congr 1 <;> simp; done) | (simp; done) | exact encB_snoc _ _ | skip)
          all_goals rw [hfin]
    · obtain rfl : i = l.length := by omega
      rw [List.take_of_length_le (Nat.le_refl _)]
      ((try refine And.intro (draw_ok (by kernel_rfl)) ?_); repeat refine seq_on ?_)
      rfl
end Go.Proofs.YtbfkfmpfdafogaaGreatDoor

namespace Go.Proofs.YtbfkfmpfdafogaaGreatDoor
variable {G : List Go.Eng.Gl}
open Go.Eng
attribute [local irreducible] Hold
set_option maxRecDepth 100000

def onD (s : List UInt8) : D := .agg [.s s]
theorem rd_on {w : World} {X : Nat → Prop} {s : List UInt8} {v : Value} (h : Rd w X (onD s) v) : v = .agg #[.string ⟨s.toArray⟩] := by
  unfold onD at h
  cases h with
  | agg _ vs hl hr =>
    obtain ⟨l⟩ := vs
    match l, hl, hr with
    | [a], _, hr => rw [(hr 0 _ a rfl rfl).sinv]
theorem eqF_cons {P : Program} {w : World} {d : Nat} {xs ys : Array Value} {f : Field} {fs : List Field} {a b : Value} {r s : Bool} (hn : f.name ≠ "_") (ha : (part f.type xs f.offset).run P w = .ok a w) (hb : (part f.type ys f.offset).run P w = .ok b w)
    (he : (Op.equalIn d f.type a b).run P w = .ok r w) (hs : (Op.eqFields d xs ys fs).run P w = .ok s w) : (Op.eqFields d xs ys (f :: fs)).run P w = .ok (r && s) w := by
  unfold Op.eqFields
  rw [if_pos hn]
  simp only [Sem.run_bind, ha, hb, he, Result.andThen_ok]
  cases r
  · simp
  · simp [hs]
theorem eqF_nil {P : Program} {w : World} {d : Nat} {xs ys : Array Value} : (Op.eqFields d xs ys []).run P w = .ok true w := by
  unfold Op.eqFields; rfl
theorem bytes_eq (a b : List UInt8) : (ByteArray.toList ⟨a.toArray⟩ == ByteArray.toList ⟨b.toArray⟩) = decide (a = b) := by
  rw [ByteArray.toList_mk, ByteArray.toList_mk]
  by_cases h : a = b
  · rw [decide_eq_true h, h]; simp
  · rw [decide_eq_false h, beq_eq_false_iff_ne]; exact h
theorem eqOn (a b : List UInt8) : EqTy Tryz.prog 87 (onD a) (onD b) (decide (a = b)) := by
  refine ⟨by kernel_rfl, fun w X va vb ha hb => ?_⟩
  rw [rd_on ha, rd_on hb]
  have hS : Tryz.prog.underlying 87 = some (.struct (Tryz.prog.fieldsOf 87)) := by kernel_rfl
  have hp : Tryz.prog.stoodInHeld 87 = false := by kernel_rfl
  have t9 : TyOk Tryz.prog 9 _ := Ctx.ty (C := CG []) (t := 9) rfl
  have u9 := Tryz.underlying9
  have e : decide (a = b) = ((ByteArray.toList ⟨a.toArray⟩ == ByteArray.toList ⟨b.toArray⟩) && true) := by rw [bytes_eq, Bool.and_true]
  rw [e]
  show (Op.equalIn (9999 + 1) 87 _ _).run Tryz.prog w = _
  rw [run_equalIn_agg w 9999 87 _ _ hS hp]
  simp only [Program.fieldsOf, Tryz.underlying87]
  refine eqF_cons (by decide) (run_part_one t9 w _ _ rfl rfl) (run_part_one t9 w _ _ rfl rfl) (run_equalIn_string w 9998 _ _ _ u9) ?_
  exact eqF_nil

def connN : List UInt8 := [67, 111, 110, 110, 101, 99, 116, 105, 111, 110]
def hostN : List UInt8 := [72, 111, 115, 116]
def cookN : List UInt8 := [67, 111, 111, 107, 105, 101]
theorem of141 (s : List UInt8) (h : s.length ≤ 140737488355328) : Does (CG G) 58 [.s s] [onD (lowF s)] := by
  have c1 := lowA (G := G) s h
  unfold onD
  refine Does.mk (n := 6) Tryz.func58 rfl rfl rfl (Nat.le_of_ble_eq_true rfl) ?_
  repeat refine seq_on ?_
  refine call_by c1 ?_
  repeat refine seq_on ?_
  rfl
theorem elem140 (l : List Fld) (n : List UInt8) (hl : l.length ≤ 68719476736) (hf : ∀ f, f ∈ l → f.1.length ≤ 140737488355328) (hn : n.length ≤ 140737488355328) (hs : lsum (valsF n l) ≤ 68719476735) :
    Does (CG G) 57 [.sl 2 (l.map fldD), .s n] [strs (lstF (valsF n l))] := by
  have c1 := vals174 (G := G) l n hl hf hn
  have c2 := list173 (G := G) (valsF n l) hs
  refine Does.mk (n := 9) Tryz.func57 rfl rfl rfl (Nat.le_of_ble_eq_true rfl) ?_
  repeat refine seq_on ?_
  refine call_by c1 ?_
  refine call_by c2 ?_
  repeat refine seq_on ?_
  rfl
def fixedN : List (List UInt8) := [connN, [75, 101, 101, 112, 45, 65, 108, 105, 118, 101], [80, 114, 111, 120, 121, 45, 67, 111, 110, 110, 101, 99, 116, 105, 111, 110], [84, 69], [84, 114, 97, 105, 108, 101, 114], [84, 114, 97, 110, 115, 102, 101, 114, 45, 69, 110, 99, 111, 100, 105, 110, 103], [85, 112, 103, 114, 97, 100, 101], [69, 120, 112, 101, 99, 116], [67, 111, 110, 116, 101, 110, 116, 45, 76, 101, 110, 103, 116, 104]]
theorem fixed139 : DoesH (CG G) 56 [] [] [.os 16] [(16, some (.buf 1 (fixedN.map .s)))] := by
  refine DoesH.mk (n := 2) Tryz.func56 rfl rfl rfl (Nat.le_of_ble_eq_true rfl) rfl ?_
  repeat refine seq_on ?_
  apply end_ok [(16, _)]
  ((repeat' constructor) <;> (first | refine hold ?_ | rfl) <;> first | with_reducible rfl | (congr 1 <;> omega) | (congr 1 <;> simp; done) | (simp; done) | exact encB_snoc _ _ | skip)
end Go.Proofs.YtbfkfmpfdafogaaGreatDoor

namespace Go.Proofs.YtbfkfmpfdafogaaGreatDoor
variable {G : List Go.Eng.Gl}
open Go.Eng
attribute [local irreducible] Hold
set_option maxRecDepth 100000

def keepE (e : List UInt8) : Bool := !(decide (lowF e = lowF hostN) || decide (lowF e = lowF cookN))
def stripN (l : List Fld) : List (List UInt8) := fixedN ++ (lstF (valsF connN l)).filter keepE
def stripF (l : List Fld) : List Fld := woF (stripN l) l
theorem strip89 (l : List Fld) (hl : l.length ≤ 68719476736) (hf : ∀ f, f ∈ l → f.1.length ≤ 140737488355328) (hs : lsum (valsF connN l) ≤ 68719476735 - 9) (he : ∀ e, e ∈ lstF (valsF connN l) → e.length ≤ 140737488355328) :
    Does (CG G) 30 [.sl 2 (l.map fldD)] [.sl 2 ((stripF l).map fldD)] := by
  have c0 := fixed139 (G := G)
  have c1 := elem140 (G := G) l connN hl hf (by decide) (by omega)
  have hel : (lstF (valsF connN l)).length ≤ 68719476735 - 9 := Nat.le_trans (lstF_len _) hs
  have ch := of141 (G := G) hostN (by decide)
  have cc := of141 (G := G) cookN (by decide)
  have hstrip : stripN l = fixedN ++ (lstF (valsF connN l)).filter keepE := rfl
  have c2 := wo88 (G := G) l (stripN l) hl hf (by rw [hstrip, List.length_append]; have := List.length_filter_le keepE (lstF (valsF connN l)); have : fixedN.length = 9 := rfl; omega) (fun n hn => by
    rcases List.mem_append.1 hn with h | h
    · have : ∀ x, x ∈ fixedN → x.length ≤ 140737488355328 := by decide
      exact this n h
    · exact he n (List.mem_filter.1 h).1)
  generalize lstF (valsF connN l) = es at c1 hel he hstrip
  unfold stripF
  have hlen : (es.map D.s).length = es.length := by simp
  unfold strs at *
  refine Does.mk (n := 32) Tryz.func30 rfl rfl rfl (Nat.le_of_ble_eq_true rfl) ?_
  repeat refine seq_on ?_
  refine call_alt (callh [] c0 ?_ ?_)
  · ((repeat' constructor) <;> (first | refine hold ?_ | rfl) <;> first | with_reducible rfl | (congr 1 <;> omega) | (congr 1 <;> simp; done) | (simp; done) | exact encB_snoc _ _ | skip)
  repeat refine seq_on ?_
  refine call_by c1 ?_
  repeat refine seq_on ?_
  apply loop_inv (fun i : Nat => i ≤ es.length) (fun i => ⟨[(0, .d (.sl 2 (l.map fldD))), (3, .os 16), (8, .d (.sl 1 (es.map .s))), (9, .d (.i .i64 (es.length : Int))), (10, .d (.i .i64 (i : Int)))], [(16, some (.buf 1 ((fixedN ++ (es.take i).filter keepE).map .s)))], 2⟩) (fun i => es.length - i) 0 (Nat.zero_le _) [(16, _)]
  · ((repeat' constructor) <;> (first | refine hold ?_ | rfl) <;> first | with_reducible rfl | (congr 1 <;> omega) | (congr 1 <;> simp; done) | (simp; done) | exact encB_snoc _ _ | skip)
  · intro i hi
    repeat refine seq_on ?_
    refine cmp_dec (fun h1 => ?_) (fun h1 => ?_)
    · have hi' : i < es.length := by omega
      have ce := of141 (G := G) es[i] (he _ (List.getElem_mem hi'))
      have hst : (es.take (i + 1)).filter keepE = if keepE es[i] then (es.take i).filter keepE ++ [es[i]] else (es.take i).filter keepE := by
        rw [List.take_succ_eq_append_getElem hi', List.filter_append]
        by_cases h : keepE es[i] <;> simp [h, List.filter]
      have hfl : ((es.take i).filter keepE).length ≤ i := Nat.le_trans (List.length_filter_le _ _) (by simp; omega)
      unfold onD at ce ch cc
      repeat refine seq_on ?_
      refine Eng.get_at i rfl (getStrs hi') ?_
      repeat refine seq_on ?_
      refine call_by ce ?_
      refine call_by ch ?_
      by_cases g1 : lowF es[i] = lowF hostN
      · refine eq_agg (eqOn _ _) (cmp_is true (decide_eq_true g1) ?_)
        rw [if_neg (by simp [keepE, g1])] at hst
        repeat refine seq_on ?_
        refine ar ⟨by omega, by omega⟩ ?_
        apply again (i + 1) [(16, _)] (by omega) (by omega)
        ((repeat' constructor) <;> (first | refine hold ?_ | rfl) <;> first | with_reducible rfl | (congr 1 <;> omega) | (congr 1 <;> simp; done) | (simp; done) | exact encB_snoc _ _ | skip)
        all_goals rw [hst]
      · refine eq_agg (eqOn _ _) (cmp_is false (decide_eq_false g1) ?_)
        refine call_by ce ?_
        refine call_by cc ?_
        by_cases g2 : lowF es[i] = lowF cookN
        · refine eq_agg (eqOn _ _) (cmp_is true (decide_eq_true g2) ?_)
          rw [if_neg (by simp [keepE, g2])] at hst
          repeat refine seq_on ?_
          refine ar ⟨by omega, by omega⟩ ?_
          apply again (i + 1) [(16, _)] (by omega) (by omega)
          ((repeat' constructor) <;> (first | refine hold ?_ | rfl) <;> first | with_reducible rfl | (congr 1 <;> omega) | (congr 1 <;> simp; done) | (simp; done) | exact encB_snoc _ _ | skip)
          all_goals rw [hst]
        · refine eq_agg (eqOn _ _) (cmp_is false (decide_eq_false g2) ?_)
          rw [if_pos (by simp [keepE, g1, g2])] at hst
          repeat refine seq_on ?_
          refine app_ok (by simp [fixedN]; omega) ?_
          repeat refine seq_on ?_
          refine ar ⟨by omega, by omega⟩ ?_
          apply again (i + 1) [(16, _)] (by omega) (by omega)
          ((repeat' constructor) <;> (first | refine hold ?_ | rfl) <;> first | with_reducible rfl | (congr 1 <;> omega) | (congr 1 <;> simp; done) | (simp; done) | exact encB_snoc _ _ | skip)
          all_goals (rw [hst]; simp)
    · obtain rfl : i = es.length := by omega
      rw [List.take_of_length_le (Nat.le_refl _), ← hstrip]
      repeat refine seq_on ?_
      refine call_by c2 ?_
      repeat refine seq_on ?_
      rfl
end Go.Proofs.YtbfkfmpfdafogaaGreatDoor

namespace Go.Proofs.YtbfkfmpfdafogaaGreatDoor
variable {G : List Go.Eng.Gl}
open Go.Eng
attribute [local irreducible] Hold
set_option maxRecDepth 100000

def n14 : List (List UInt8) := [[88, 45, 65], [120, 45, 97], [88, 45, 66], [65, 99, 99, 101, 112, 116], [67, 111, 110, 110, 101, 99, 116, 105, 111, 110], [86, 105, 97], [67, 111, 111, 107, 105, 101], [84, 69], [75, 101, 101, 112, 45, 65, 108, 105, 118, 101], [88, 45, 70, 111, 114, 119, 97, 114, 100, 101, 100, 45, 70, 111, 114], [68, 97, 116, 101], [69, 84, 97, 103], [85, 112, 103, 114, 97, 100, 101], [88, 45, 83, 104, 97, 100, 111, 119]]
def v11 : List (List UInt8) := [[], [49], [97, 44, 32, 98], [120, 45, 97], [99, 108, 111, 115, 101], [107, 101, 101, 112, 45, 97, 108, 105, 118, 101], [88, 45, 66, 44, 32, 116, 101], [99, 111, 104, 111, 114, 116, 61, 48, 49, 50, 51, 52, 53, 54, 55, 56, 57, 97, 98, 99, 100, 101, 102], [107, 61, 118, 59, 32, 99, 111, 104, 111, 114, 116, 61, 48, 48, 48, 48, 48, 48, 48, 48, 48, 48, 48, 48, 48, 48, 102, 102], [49, 46, 49, 32, 111, 116, 104, 101, 114], [9, 63, 128, 59, 61]]
def fldF (l : List Int) (i : Nat) : Fld := (ofF l i n14, trimF (ofF l (nxt l i) v11))
theorem fld135 (l : List Int) (i : Nat) (hi : i ≤ l.length) (hl : l.length ≤ 9223372036854775807) : DoesH (CG G) 52 [.op 0 0 0] (srcB l i) [.d (fldD (fldF l i))] (srcB l (nxt l (nxt l i))) := by
  have h1 := ofV (G := G) l i n14 hi hl (by decide)
  have hj := nxt_le' hi
  have h2 := ofV (G := G) l (nxt l i) v11 hj.2 hl (by decide)
  have hv : (ofF l (nxt l i) v11).length ≤ 9223372036854775807 := by
    have : ∀ x, x ∈ v11 → x.length ≤ 9223372036854775807 := by decide
    exact this _ (ofF_mem l (nxt l i) v11 (by decide))
  have h3 := trimR (G := G) (ofF l (nxt l i) v11) hv
  unfold fldF
  generalize ofF l i n14 = a at h1
  generalize ofF l (nxt l i) v11 = b at h2 h3
  unfold fldD
  refine DoesH.mk (n := 15) Tryz.func52 rfl rfl rfl (Nat.le_of_ble_eq_true rfl) rfl ?_
  repeat refine seq_on ?_
  refine callh [(0, 0)] h1 ?_ ?_
  · simp only [srcB]
    ((repeat' constructor) <;> (first | refine hold ?_ | rfl) <;> first | with_reducible rfl | (congr 1 <;> omega) | (congr 1 <;> simp; done) | (simp; done) | exact encB_snoc _ _ | skip)
  repeat refine seq_on ?_
  refine callh [(0, 0)] h2 ?_ ?_
  · simp only [srcB]
    ((repeat' constructor) <;> (first | refine hold ?_ | rfl) <;> first | with_reducible rfl | (congr 1 <;> omega) | (congr 1 <;> simp; done) | (simp; done) | exact encB_snoc _ _ | skip)
  repeat refine seq_on ?_
  refine call_by h3 ?_
  repeat refine seq_on ?_
  refine end_ok [] ?_
  simp only [srcB]
  ((repeat' constructor) <;> (first | refine hold ?_ | rfl) <;> first | with_reducible rfl | (congr 1 <;> omega) | (congr 1 <;> simp; done) | (simp; done) | exact encB_snoc _ _ | skip)

def fldsW (l : List Int) : Nat → Nat → List Fld → Nat × List Fld
  | 0, i, o => (i, o)
  | n + 1, i, o => fldsW l n (nxt l (nxt l i)) (o ++ [fldF l i])
def fldsF (l : List Int) (i : Nat) (most : Int) : Nat × List Fld := fldsW l (nxV l i (most + 1)) (nxt l i) []
theorem flds87 (l : List Int) (i : Nat) (most : Int) (hi : i ≤ l.length) (hl : l.length ≤ 9223372036854775807) (hm : 0 ≤ most ∧ most ≤ 1000000) : DoesH (CG G) 28 [.op 0 0 0, .d (.i .i64 most)] (srcB l i) [.d (.sl 2 ((fldsF l i most).2.map fldD))] (srcB l (fldsF l i most).1) := by
  unfold fldsF
  have hr := nxV_lt l i (most + 1) (by omega)
  have hx := nextV (G := G) l i (most + 1) hi hl (by omega)
  generalize hg : nxV l i (most + 1) = r at hx hr
  have hn := nxt_le' hi
  generalize hfin : fldsW l r (nxt l i) [] = fin
  refine DoesH.mk (n := 21) Tryz.func28 rfl rfl rfl (Nat.le_of_ble_eq_true rfl) rfl ?_
  repeat refine seq_on ?_
  refine ar ⟨by omega, by omega⟩ ?_
  refine callh [(0, 0)] hx ?_ ?_
  · ((repeat' constructor) <;> (first | refine hold ?_ | rfl) <;> first | with_reducible rfl | (congr 1 <;> omega) | (congr 1 <;> simp; done) | (simp; done) | exact encB_snoc _ _ | skip)
  repeat refine seq_on ?_
  apply loop_inv (fun x : Nat × Nat × List Fld => x.2.1 ≤ l.length ∧ x.2.2.length + x.1 ≤ 1000000 ∧ fldsW l x.1 x.2.1 x.2.2 = fin) (fun x => ⟨[(0, .op 0 0 0), (5, .os 16), (6, .d (.i .i64 (x.1 : Int)))], (16, some (.buf 2 (x.2.2.map fldD))) :: srcB l x.2.1, 2⟩) (fun x => x.1) (r, nxt l i, []) ⟨hn.2, by simp; omega, hfin⟩ [(16, _)]
  · simp only [srcB]
    ((repeat' constructor) <;> (first | refine hold ?_ | rfl) <;> first | with_reducible rfl | (congr 1 <;> omega) | (congr 1 <;> simp; done) | (simp; done) | exact encB_snoc _ _ | skip)
  · rintro ⟨k, j, o⟩ ⟨h1, h2, h3⟩
    simp only at h1 h2 h3
    repeat refine seq_on ?_
    refine cmp_dec (fun h => ?_) (fun h => ?_)
    · obtain ⟨k, rfl⟩ : ∃ q, k = q + 1 := ⟨k - 1, by omega⟩
      have h7 := fld135 (G := G) l j h1 hl
      simp only [fldsW] at h3
      generalize fldF l j = f at h7 h3
      unfold fldD at h7
      repeat refine seq_on ?_
      refine callh [(0, 0)] h7 ?_ ?_
      · ((repeat' constructor) <;> (first | refine hold ?_ | rfl) <;> first | with_reducible rfl | (congr 1 <;> omega) | (congr 1 <;> simp; done) | (simp; done) | exact encB_snoc _ _ | skip)
      refine app_ok (by simp; omega) ?_
      repeat refine seq_on ?_
      refine ar ⟨by omega, by omega⟩ ?_
      apply again (k, nxt l (nxt l j), o ++ [f]) [(16, _)] ⟨(nxt_le' (nxt_le' h1).2).2, by simp; omega, h3⟩ (by simp only; omega)
      simp only [srcB]
      ((repeat' constructor) <;> (first | refine hold ?_ | rfl) <;> first | with_reducible rfl | (congr 1 <;> omega) | (congr 1 <;> simp; done) | (simp; done) | exact encB_snoc _ _ | skip)
      all_goals (simp [fldD])
    · obtain rfl : k = 0 := by omega
      simp only [fldsW] at h3
      subst h3
      repeat refine seq_on ?_
      apply end_ok []
      simp only [srcB]
      ((repeat' constructor) <;> (first | refine hold ?_ | rfl) <;> first | with_reducible rfl | (congr 1 <;> omega) | (congr 1 <;> simp; done) | (simp; done) | exact encB_snoc _ _ | skip)
end Go.Proofs.YtbfkfmpfdafogaaGreatDoor

namespace Go.Proofs.YtbfkfmpfdafogaaGreatDoor
variable {G : List Go.Eng.Gl}
open Go.Eng
attribute [local irreducible] Hold
set_option maxRecDepth 100000

def madeF (l : List Int) (raw : List Fld) (wild : Bool) : List Fld := if wild then raw.take 30 else (fldsF l 0 9).2
theorem made44 (l : List Int) (raw : List Fld) (wild : Bool) (hl : l.length ≤ 9223372036854775807) : Does (CG G) 9 [ints l, .sl 2 (raw.map fldD), .b wild] [.sl 2 ((madeF l raw wild).map fldD)] := by
  have hlen : (raw.map fldD).length = raw.length := by simp
  cases wild with
  | true =>
    refine Does.mk (n := 18) Tryz.func9 rfl rfl rfl (Nat.le_of_ble_eq_true rfl) ?_
    repeat refine seq_on ?_
    refine cmp_dec (fun h => ?_) (fun h => ?_)
    · repeat refine seq_on ?_
      refine bnd 30 rfl (by omega) ?_
      repeat refine seq_on ?_
      refine fin_eqN ?_
      simp [madeF, List.map_take]
    · repeat refine seq_on ?_
      refine fin_eqN ?_
      simp only [madeF, if_true]
      rw [List.take_of_length_le (by omega)]
  | false =>
    have h := flds87 (G := G) l 0 9 (Nat.zero_le _) hl (by decide)
    unfold srcB at h
    refine Does.mk (n := 18) Tryz.func9 rfl rfl rfl (Nat.le_of_ble_eq_true rfl) ?_
    repeat refine seq_on ?_
    refine callh [(0, 16 * (4 + 1))] h ?_ ?_
    · ((repeat' constructor) <;> (first | refine hold ?_ | rfl) <;> first | with_reducible rfl | (congr 1 <;> omega) | (congr 1 <;> simp; done) | (simp; done) | exact encB_snoc _ _ | skip)
    repeat refine seq_on ?_
    rfl
end Go.Proofs.YtbfkfmpfdafogaaGreatDoor

namespace Go.Proofs.YtbfkfmpfdafogaaGreatDoor
variable {G : List Go.Eng.Gl}
open Go.Eng
attribute [local irreducible] Hold
set_option maxRecDepth 100000

theorem sameS48 (l : List (List UInt8)) (h : l.length ≤ 9223372036854775807) : Does (CG G) 13 [strs l, strs l] [.b true] := by
  have hl : (l.map D.s).length = l.length := by simp
  unfold strs
  refine Does.mk (n := 26) Tryz.func13 rfl rfl rfl (Nat.le_of_ble_eq_true rfl) ?_
  repeat refine seq_on ?_
  refine cmp_no (fun h => h rfl) ?_
  repeat refine seq_on ?_
  apply loop_inv (fun i : Nat => i ≤ l.length) (fun i => ⟨[(0, .d (.sl 1 (l.map .s))), (1, .d (.sl 1 (l.map .s))), (5, .d (.i .i64 (i : Int)))], [], 2⟩) (fun i => l.length - i) 0 (Nat.zero_le _) []
  · ((repeat' constructor) <;> (first | refine hold ?_ | rfl) <;> first | with_reducible rfl | (congr 1 <;> omega) | (congr 1 <;> simp; done) | (simp; done) | exact encB_snoc _ _ | skip)
  · intro i hi
    repeat refine seq_on ?_
    refine cmp_dec (fun h1 => ?_) (fun h1 => ?_)
    · have hi' : i < l.length := by omega
      repeat refine seq_on ?_
      refine Eng.get_at i rfl (getStrs hi') ?_
      refine Eng.get_at i rfl (getStrs hi') ?_
      refine cmp_no (fun h => h rfl) ?_
      ((try refine And.intro (draw_ok (by kernel_rfl)) ?_); repeat refine seq_on ?_)
      refine ar ⟨by omega, by omega⟩ ?_
      apply again (i + 1) [] (by omega) (by omega)
      ((repeat' constructor) <;> (first | refine hold ?_ | rfl) <;> first | with_reducible rfl | (congr 1 <;> omega) | (congr 1 <;> simp; done) | (simp; done) | exact encB_snoc _ _ | skip)
    · repeat refine seq_on ?_
      rfl
end Go.Proofs.YtbfkfmpfdafogaaGreatDoor

namespace Go.Proofs.YtbfkfmpfdafogaaGreatDoor
variable {G : List Go.Eng.Gl}
open Go.Eng
attribute [local irreducible] Hold
set_option maxRecDepth 100000

theorem inFold118 (ns : List (List UInt8)) (f : Fld) (hl : ns.length ≤ 9223372036854775806) (hn : ∀ n, n ∈ ns → n.length ≤ 140737488355328) (hf : f.1.length ≤ 140737488355328) : Does (CG G) 65 [strs ns, .s f.1] [.b (anyN ns f)] := by
  have hlen : (ns.map D.s).length = ns.length := by simp
  unfold strs
  refine Does.mk (n := 18) Tryz.func65 rfl rfl rfl (Nat.le_of_ble_eq_true rfl) ?_
  repeat refine seq_on ?_
  apply loop_inv (fun i : Nat => i ≤ ns.length ∧ ∀ j (h : j < ns.length), j < i → isName ns[j] f = false) (fun i => ⟨[(0, .d (.sl 1 (ns.map .s))), (1, .d (.s f.1)), (5, .d (.i .i64 (i : Int)))], [], 2⟩) (fun i => ns.length - i) 0 ⟨Nat.zero_le _, fun j _ hj => by omega⟩ []
  · ((repeat' constructor) <;> (first | refine hold ?_ | rfl) <;> first | with_reducible rfl | (congr 1 <;> omega) | (congr 1 <;> simp; done) | (simp; done) | exact encB_snoc _ _ | skip)
  · rintro i ⟨hi, hp⟩
    repeat refine seq_on ?_
    refine cmp_dec (fun h1 => ?_) (fun h1 => ?_)
    · have hi' : i < ns.length := by omega
      repeat refine seq_on ?_
      refine Eng.get_at i rfl (getStrs hi') ?_
      have c1 := foldR (G := G) ns[i] f.1 (hn _ (List.getElem_mem hi')) hf
      by_cases hb : lowF ns[i] = lowF f.1
      · rw [decide_eq_true hb] at c1
        refine call_by c1 ?_
        ((try refine And.intro (draw_ok (by kernel_rfl)) ?_); repeat refine seq_on ?_)
        refine fin_eqN ?_
        rw [show anyN ns f = true from List.any_eq_true.2 ⟨ns[i], List.getElem_mem hi', by simp [isName, hb]⟩]
      · rw [decide_eq_false hb] at c1
        refine call_by c1 ?_
        ((try refine And.intro (draw_ok (by kernel_rfl)) ?_); repeat refine seq_on ?_)
        refine ar ⟨by omega, by omega⟩ ?_
        apply again (i + 1) [] ⟨by omega, fun j h hj => by
          by_cases hji : j < i
          · exact hp j h hji
          · obtain rfl : j = i := by omega
            exact decide_eq_false (fun e => hb e.symm)⟩ (by omega)
        ((repeat' constructor) <;> (first | refine hold ?_ | rfl) <;> first | with_reducible rfl | (congr 1 <;> omega) | (congr 1 <;> simp; done) | (simp; done) | exact encB_snoc _ _ | skip)
    · obtain rfl : i = ns.length := by omega
      ((try refine And.intro (draw_ok (by kernel_rfl)) ?_); repeat refine seq_on ?_)
      refine fin_eqN ?_
      have : anyN ns f = false := by
        cases h : anyN ns f with
        | false => rfl
        | true =>
          obtain ⟨n, hn1, hn2⟩ := List.any_eq_true.1 h
          obtain ⟨j, hj, rfl⟩ := List.getElem_of_mem hn1
          rw [hp j hj hj] at hn2; cases hn2
      rw [this]
theorem wo73 (l : List Fld) (ns : List (List UInt8)) (hl : l.length ≤ 68719476736) (hf : ∀ f, f ∈ l → f.1.length ≤ 140737488355328) (hns : ns.length ≤ 9223372036854775806) (hn : ∀ n, n ∈ ns → n.length ≤ 140737488355328) :
    Does (CG G) 36 [.sl 2 (l.map fldD), strs ns] [.sl 2 ((woF ns l).map fldD)] := by
  have hlen : (l.map fldD).length = l.length := by simp
  refine Does.mk (n := 29) Tryz.func36 rfl rfl rfl (Nat.le_of_ble_eq_true rfl) ?_
  repeat refine seq_on ?_
  apply loop_inv (fun i : Nat => i ≤ l.length) (fun i => ⟨[(0, .d (.sl 2 (l.map fldD))), (1, .d (strs ns)), (5, .os 16), (6, .d (.i .i64 (i : Int)))], [(16, some (.buf 2 ((woF ns (l.take i)).map fldD)))], 2⟩) (fun i => l.length - i) 0 (Nat.zero_le _) [(16, _)]
  · ((repeat' constructor) <;> (first | refine hold ?_ | rfl) <;> first | with_reducible rfl | (congr 1 <;> omega) | (congr 1 <;> simp; done) | (simp; done) | exact encB_snoc _ _ | skip)
  · intro i hi
    repeat refine seq_on ?_
    refine cmp_dec (fun h1 => ?_) (fun h1 => ?_)
    · have hi' : i < l.length := by omega
      have hb : (woF ns (l.take i)).length ≤ i := Nat.le_trans (woF_len _ _) (by simp; omega)
      have hs : woF ns (l.take (i + 1)) = if anyN ns l[i] then woF ns (l.take i) else woF ns (l.take i) ++ [l[i]] := by
        rw [List.take_succ_eq_append_getElem hi', woF_snoc]
      have c2 := inFold118 (G := G) ns l[i] hns hn (hf _ (List.getElem_mem hi'))
      repeat refine seq_on ?_
      refine Eng.get_at i rfl (getFld hi') ?_
      cases hb2 : anyN ns l[i] with
      | true =>
        rw [hb2] at c2 hs
        rw [if_pos rfl] at hs
        refine call_by c2 ?_
        repeat refine seq_on ?_
        refine ar ⟨by omega, by omega⟩ ?_
        apply again (i + 1) [(16, _)] (by omega) (by omega)
        ((repeat' constructor) <;> (first | refine hold ?_ | rfl) <;> first | with_reducible rfl | (congr 1 <;> omega) | (congr 1 <;> simp; done) | (simp; done) | exact encB_snoc _ _ | skip)
        all_goals rw [hs]
      | false =>
        rw [hb2] at c2 hs
        rw [if_neg (by decide)] at hs
        refine call_by c2 ?_
        repeat refine seq_on ?_
        refine Eng.get_at i rfl (getFld hi') ?_
        refine app_ok (by simp; omega) ?_
        repeat refine seq_on ?_
        refine ar ⟨by omega, by omega⟩ ?_
        apply again (i + 1) [(16, _)] (by omega) (by omega)
        ((repeat' constructor) <;> (first | refine hold ?_ | rfl) <;> first | with_reducible rfl | (congr 1 <;> omega) | (congr 1 <;> simp; done) | (simp; done) | exact encB_snoc _ _ | skip)
        all_goals (rw [hs]; simp [fldD])
    · obtain rfl : i = l.length := by omega
      rw [List.take_of_length_le (Nat.le_refl _)]
      ((try refine And.intro (draw_ok (by kernel_rfl)) ?_); repeat refine seq_on ?_)
      rfl
end Go.Proofs.YtbfkfmpfdafogaaGreatDoor

namespace Go.Proofs.YtbfkfmpfdafogaaGreatDoor
variable {G : List Go.Eng.Gl}
open Go.Eng
attribute [local irreducible] Hold
set_option maxRecDepth 100000

theorem listR160 (l : List (List UInt8)) (hl : lsum l ≤ 4294967295) : Does (CG G) 93 [strs l] [strs (lstF l)] := by
  have hlen : (l.map D.s).length = l.length := by simp
  have hll : l.length ≤ 4294967295 := by
    have : l.length ≤ lsum l := by
      unfold lsum
      clear hl hlen
      induction l with
      | nil => simp
      | cons x r ih => simp only [List.length_cons, List.map_cons, List.sum_cons]; omega
    omega
  unfold strs
  refine Does.mk (n := 37) Tryz.func93 rfl rfl rfl (Nat.le_of_ble_eq_true rfl) ?_
  repeat refine seq_on ?_
  apply loop_inv (fun i : Nat => i ≤ l.length) (fun i => ⟨[(0, .d (.sl 1 (l.map .s))), (3, .os 16), (4, .d (.i .i64 (i : Int)))], [(16, some (.buf 1 ((lstF (l.take i)).map .s)))], 2⟩) (fun i => l.length - i) 0 (Nat.zero_le _) [(16, _)]
  · ((repeat' constructor) <;> (first | refine hold ?_ | rfl) <;> first | with_reducible rfl | (congr 1 <;> omega) | (congr 1 <;> simp; done) | (simp; done) | exact encB_snoc _ _ | skip)
  · intro i hi
    repeat refine seq_on ?_
    refine cmp_dec (fun h1 => ?_) (fun h1 => ?_)
    · have hi' : i < l.length := by omega
      have hs := lsum_take hi'
      have hb := lstF_len (l.take i)
      have hsp := splitR (G := G) l[i] 44 (by omega)
      have hpl := splitF_len 44 l[i]
      have hcl : l[i].count 44 ≤ l[i].length := List.count_le_length
      have hpm : ∀ x, x ∈ splitF 44 l[i] → x.length ≤ 9223372036854775807 := fun x hx => by have := splitF_mem hx; omega
      have hfin : lstF (l.take (i + 1)) = lstF (l.take i) ++ keepT (splitF 44 l[i]) := by
        rw [List.take_succ_eq_append_getElem hi', lstF_snoc]; rfl
      generalize splitF 44 l[i] = ps at hsp hpl hpm hfin
      unfold strs at hsp
      have hplen : (ps.map D.s).length = ps.length := by simp
      repeat refine seq_on ?_
      refine Eng.get_at i rfl (getStrs hi') ?_
      repeat refine seq_on ?_
      refine call_by hsp ?_
      repeat refine seq_on ?_
      apply loop_inv (fun j : Nat => j ≤ ps.length) (fun j => ⟨[(0, .d (.sl 1 (l.map .s))), (3, .os 16), (4, .d (.i .i64 (i : Int))), (5, .d (.sl 1 (ps.map .s))), (6, .d (.i .i64 (j : Int)))], [(16, some (.buf 1 ((lstF (l.take i) ++ keepT (ps.take j)).map .s)))], 2⟩) (fun j => ps.length - j) 0 (Nat.zero_le _) [(16, _)]
      · ((repeat' constructor) <;> (first | refine hold ?_ | rfl) <;> first | with_reducible rfl | (congr 1 <;> omega) | (congr 1 <;> simp; done) | (simp; done) | exact encB_snoc _ _ | skip)
        all_goals simp [keepT]
      · intro j hj
        repeat refine seq_on ?_
        refine cmp_dec (fun k1 => ?_) (fun k1 => ?_)
        · have hj' : j < ps.length := by omega
          have hk := keepT_len (ps.take j)
          have hk2 : (ps.take j).length ≤ j := by simp; omega
          have ht := trimR (G := G) ps[j] (hpm _ (List.getElem_mem hj'))
          have hst : keepT (ps.take (j + 1)) = if trimF ps[j] = [] then keepT (ps.take j) else keepT (ps.take j) ++ [trimF ps[j]] := by
            rw [List.take_succ_eq_append_getElem hj', keepT_snoc]
          repeat refine seq_on ?_
          refine Eng.get_at j rfl (getStrs hj') ?_
          repeat refine seq_on ?_
          refine call_by ht ?_
          repeat refine seq_on ?_
          refine cmp_dec (fun g => ?_) (fun g => ?_)
          · rw [if_neg g] at hst
            repeat refine seq_on ?_
            refine app_ok (by simp; omega) ?_
            repeat refine seq_on ?_
            refine ar ⟨by omega, by omega⟩ ?_
            apply again (j + 1) [(16, _)] (by omega) (by omega)
            ((repeat' constructor) <;> (first | refine hold ?_ | rfl) <;> first | with_reducible rfl | (congr 1 <;> omega) | (congr 1 <;> simp; done) | (simp; done) | exact encB_snoc _ _ | skip)
            all_goals (rw [hst]; simp)
          · rw [if_pos (Classical.not_not.1 g)] at hst
            repeat refine seq_on ?_
            refine ar ⟨by omega, by omega⟩ ?_
            apply again (j + 1) [(16, _)] (by omega) (by omega)
            ((repeat' constructor) <;> (first | refine hold ?_ | rfl) <;> first | with_reducible rfl | (congr 1 <;> omega) | (congr 1 <;> simp; done) | (simp; done) | exact encB_snoc _ _ | skip)
            all_goals rw [hst]
        · obtain rfl : j = ps.length := by omega
          rw [List.take_of_length_le (Nat.le_refl _)]
          repeat refine seq_on ?_
          refine ar ⟨by omega, by omega⟩ ?_
          apply again (i + 1) [(16, _)] (by omega) (by omega)
          ((repeat' constructor) <;> (first | refine hold ?_ | rfl) <;> first | with_reducible rfl | (congr 1 <;> omega) | (congr 1 <;> simp; done) | (simp; done) | exact encB_snoc _ _ | skip)
          all_goals rw [hfin]
    · obtain rfl : i = l.length := by omega
      rw [List.take_of_length_le (Nat.le_refl _)]
      ((try refine And.intro (draw_ok (by kernel_rfl)) ?_); repeat refine seq_on ?_)
      rfl
theorem elemR119 (l : List Fld) (n : List UInt8) (hl : l.length ≤ 68719476736) (hf : ∀ f, f ∈ l → f.1.length ≤ 140737488355328) (hn : n.length ≤ 140737488355328) (hs : lsum (valsF n l) ≤ 4294967295) :
    Does (CG G) 66 [.sl 2 (l.map fldD), .s n] [strs (lstF (valsF n l))] := by
  have c1 := valsR (G := G) l n hl hn hf
  have c2 := listR160 (G := G) (valsF n l) hs
  refine Does.mk (n := 9) Tryz.func66 rfl rfl rfl (Nat.le_of_ble_eq_true rfl) ?_
  repeat refine seq_on ?_
  refine call_by c1 ?_
  refine call_by c2 ?_
  repeat refine seq_on ?_
  rfl
end Go.Proofs.YtbfkfmpfdafogaaGreatDoor

namespace Go.Proofs.YtbfkfmpfdafogaaGreatDoor
variable {G : List Go.Eng.Gl}
open Go.Eng
attribute [local irreducible] Hold
set_option maxRecDepth 100000

def connL : List UInt8 := [99, 111, 110, 110, 101, 99, 116, 105, 111, 110]
def fixedL : List (List UInt8) := [[99, 111, 110, 110, 101, 99, 116, 105, 111, 110], [107, 101, 101, 112, 45, 97, 108, 105, 118, 101], [112, 114, 111, 120, 121, 45, 99, 111, 110, 110, 101, 99, 116, 105, 111, 110], [116, 101], [116, 114, 97, 105, 108, 101, 114], [116, 114, 97, 110, 115, 102, 101, 114, 45, 101, 110, 99, 111, 100, 105, 110, 103], [117, 112, 103, 114, 97, 100, 101], [101, 120, 112, 101, 99, 116], [99, 111, 110, 116, 101, 110, 116, 45, 108, 101, 110, 103, 116, 104]]
theorem anyN_low {a b : List (List UInt8)} (h : a.map lowF = b.map lowF) (f : Fld) : anyN a f = anyN b f := by
  have e : ∀ l : List (List UInt8), anyN l f = (l.map lowF).any fun x => decide (lowF f.1 = x) := fun l => by
    unfold anyN isName
    rw [List.any_map]
    rfl
  rw [e, e, h]
theorem woF_low {a b : List (List UInt8)} (h : a.map lowF = b.map lowF) (l : List Fld) : woF a l = woF b l := by
  unfold woF
  congr 1
  funext f
  rw [anyN_low h]
theorem valsF_low {a b : List UInt8} (h : lowF a = lowF b) (l : List Fld) : valsF a l = valsF b l := by
  unfold valsF
  congr 1
  congr 1
  funext f
  unfold isName
  rw [h]
theorem fixed_low (es : List (List UInt8)) : (fixedL ++ es).map lowF = (fixedN ++ es).map lowF := by
  rw [List.map_append, List.map_append, show fixedL.map lowF = fixedN.map lowF by decide]
theorem stripR74 (l : List Fld) (hl : l.length ≤ 68719476736) (hf : ∀ f, f ∈ l → f.1.length ≤ 140737488355328) (hs : lsum (valsF connN l) ≤ 4294967295) (he : ∀ e, e ∈ lstF (valsF connN l) → e.length ≤ 140737488355328) :
    Does (CG G) 37 [.sl 2 (l.map fldD)] [.sl 2 ((stripF l).map fldD)] := by
  have hcl : valsF connL l = valsF connN l := valsF_low (by decide) l
  have c1 := elemR119 (G := G) l connL hl hf (by decide) (by rw [hcl]; exact hs)
  rw [hcl] at c1
  have hel : (lstF (valsF connN l)).length ≤ 4294967295 := Nat.le_trans (lstF_len _) hs
  have hstrip : stripF l = woF (fixedL ++ (lstF (valsF connN l)).filter keepE) l := by
    unfold stripF stripN
    exact (woF_low (fixed_low _) l).symm
  have c2 := wo73 (G := G) l (fixedL ++ (lstF (valsF connN l)).filter keepE) hl hf (by rw [List.length_append]; have := List.length_filter_le keepE (lstF (valsF connN l)); have : fixedL.length = 9 := rfl; omega) (fun n hn => by
    rcases List.mem_append.1 hn with h | h
    · have : ∀ x, x ∈ fixedL → x.length ≤ 140737488355328 := by decide
      exact this n h
    · exact he n (List.mem_filter.1 h).1)
  rw [← hstrip] at c2
  generalize stripF l = res at c2 ⊢
  clear hstrip
  generalize lstF (valsF connN l) = es at c1 c2 hel he
  have hlen : (es.map D.s).length = es.length := by simp
  unfold strs at *
  refine Does.mk (n := 39) Tryz.func37 rfl rfl rfl (Nat.le_of_ble_eq_true rfl) ?_
  repeat refine seq_on ?_
  refine call_by c1 ?_
  repeat refine seq_on ?_
  apply loop_inv (fun i : Nat => i ≤ es.length) (fun i => ⟨[(0, .d (.sl 2 (l.map fldD))), (3, .os 16), (4, .d (.sl 1 (es.map .s))), (5, .d (.i .i64 (i : Int)))], [(16, some (.buf 1 ((fixedL ++ (es.take i).filter keepE).map .s)))], 2⟩) (fun i => es.length - i) 0 (Nat.zero_le _) [(16, _)]
  · ((repeat' constructor) <;> (first | refine hold ?_ | rfl) <;> first | with_reducible rfl | (congr 1 <;> omega) | (congr 1 <;> simp; done) | (simp; done) | exact encB_snoc _ _ | skip)
  · intro i hi
    repeat refine seq_on ?_
    refine cmp_dec (fun h1 => ?_) (fun h1 => ?_)
    · have hi' : i < es.length := by omega
      have ch := foldR (G := G) es[i] [104, 111, 115, 116] (he _ (List.getElem_mem hi')) (by decide)
      have cc := foldR (G := G) es[i] [99, 111, 111, 107, 105, 101] (he _ (List.getElem_mem hi')) (by decide)
      rw [show lowF [104, 111, 115, 116] = lowF hostN by decide] at ch
      rw [show lowF [99, 111, 111, 107, 105, 101] = lowF cookN by decide] at cc
      have hst : (es.take (i + 1)).filter keepE = if keepE es[i] then (es.take i).filter keepE ++ [es[i]] else (es.take i).filter keepE := by
        rw [List.take_succ_eq_append_getElem hi', List.filter_append]
        by_cases h : keepE es[i] <;> simp [h, List.filter]
      have hfl : ((es.take i).filter keepE).length ≤ i := Nat.le_trans (List.length_filter_le _ _) (by simp; omega)
      repeat refine seq_on ?_
      refine Eng.get_at i rfl (getStrs hi') ?_
      by_cases g1 : lowF es[i] = lowF hostN
      · rw [decide_eq_true g1] at ch
        rw [if_neg (by simp [keepE, g1])] at hst
        refine call_by ch ?_
        repeat refine seq_on ?_
        refine ar ⟨by omega, by omega⟩ ?_
        apply again (i + 1) [(16, _)] (by omega) (by omega)
        ((repeat' constructor) <;> (first | refine hold ?_ | rfl) <;> first | with_reducible rfl | (congr 1 <;> omega) | (congr 1 <;> simp; done) | (simp; done) | exact encB_snoc _ _ | skip)
        all_goals rw [hst]
      · rw [decide_eq_false g1] at ch
        refine call_by ch ?_
        refine Eng.get_at i rfl (getStrs hi') ?_
        by_cases g2 : lowF es[i] = lowF cookN
        · rw [decide_eq_true g2] at cc
          rw [if_neg (by simp [keepE, g2])] at hst
          refine call_by cc ?_
          repeat refine seq_on ?_
          refine ar ⟨by omega, by omega⟩ ?_
          apply again (i + 1) [(16, _)] (by omega) (by omega)
          ((repeat' constructor) <;> (first | refine hold ?_ | rfl) <;> first | with_reducible rfl | (congr 1 <;> omega) | (congr 1 <;> simp; done) | (simp; done) | exact encB_snoc _ _ | skip)
          all_goals rw [hst]
        · rw [decide_eq_false g2] at cc
          rw [if_pos (by simp [keepE, g1, g2])] at hst
          refine call_by cc ?_
          repeat refine seq_on ?_
          refine Eng.get_at i rfl (getStrs hi') ?_
          refine app_ok (by simp [fixedL]; omega) ?_
          repeat refine seq_on ?_
          refine ar ⟨by omega, by omega⟩ ?_
          apply again (i + 1) [(16, _)] (by omega) (by omega)
          ((repeat' constructor) <;> (first | refine hold ?_ | rfl) <;> first | with_reducible rfl | (congr 1 <;> omega) | (congr 1 <;> simp; done) | (simp; done) | exact encB_snoc _ _ | skip)
          all_goals (rw [hst]; simp)
    · obtain rfl : i = es.length := by omega
      rw [List.take_of_length_le (Nat.le_refl _)]
      repeat refine seq_on ?_
      refine call_by c2 ?_
      repeat refine seq_on ?_
      rfl
end Go.Proofs.YtbfkfmpfdafogaaGreatDoor

