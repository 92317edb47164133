import Derived.Test.YtiokdhklhnhfhaaDoorMk
namespace Go.Proofs.YtiokdhklhnhfhaaDoor
variable {G : List Go.Eng.Gl}
open Go.Eng
attribute [local irreducible] Hold
set_option maxRecDepth 100000

def j49s (cap ser : Int) (l : List Rec) (i : Nat) : AS :=
  ⟨[(1, .op 16 0 0), (3, .os 17), (4, .d (.i .i64 (i : Int)))], [(16, some (.box [.d (.i .i64 cap), .d (.i .i64 ser), .d (recs l)])), (17, some (.buf 1 (((l.take i).map objR).map .s)))], 2⟩
def c49s (cap ser : Int) (l : List Rec) (i : Nat) (x : Rec) : AS :=
  ⟨[(1, .op 16 0 0), (3, .os 17), (4, .d (.i .i64 (i : Int))), (6, .os 18)], [(16, some (.box [.d (.i .i64 cap), .d (.i .i64 ser), .d (recs l)])), (17, some (.buf 1 (((l.take i).map objR).map .s))), (18, some (.buf 2 ((memP x).map pairD)))], 2⟩
def n49s (cap ser : Int) (l : List Rec) (i : Nat) (x : Rec) (k : Nat) : AS :=
  ⟨[(1, .op 16 0 0), (3, .os 17), (4, .d (.i .i64 (i : Int))), (5, .op 20 0 0), (6, .os 18), (7, .os 19), (8, .d (.i .i64 (k : Int)))],
   [(16, some (.box [.d (.i .i64 cap), .d (.i .i64 ser), .d (recs l)])), (17, some (.buf 1 (((l.take i).map objR).map .s))), (18, some (.buf 2 ((memP0 x).map pairD))), (19, some (.buf 1 (((x.fl.take k).map quoteF).map .s))), (20, some (.box (x.cells.map .d)))], 2⟩

theorem json49 (cap ser : Int) (l : List Rec) (hl : l.length < 68719476736) (hr : ∀ x, x ∈ l → RecOk x ∧ JsOk x) (ht : (joinF (l.map objR) [44]).length ≤ 68719476736) : Does (CG G) 66 [repD cap ser l] [.s (jsonF l)] := by
  have hlen : (l.map recD).length = l.length := by simp
  refine Does.mk (n := 79) Tryd.func66 rfl rfl rfl (Nat.le_of_ble_eq_true rfl) ?_
  repeat refine seq_on ?_
  apply loop_inv (fun i => i ≤ l.length) (j49s cap ser l) (fun i => l.length - i) 0 (Nat.zero_le _) [(16, _), (17, _)]
  · ((repeat' constructor) <;> (first | refine hold ?_ | rfl) <;> first | with_reducible rfl | (congr 1 <;> omega) | (congr 1 <;> simp; done) | (simp; done) | exact encB_snoc _ _ | skip)
  intro i hi
  repeat refine seq_on ?_
  refine cmp_dec (fun h => ?_) (fun h => ?_)
  · have hi' : i < l.length := by omega
    obtain ⟨hx, hj⟩ := hr _ (List.getElem_mem hi')
    have hg : (l.map recD)[i]? = some (recD l[i]) := by simp [hi']
    generalize hxe : l[i] = x at hx hj hg
    have hxl : (x.fl.map D.s).length = x.fl.length := by simp
    repeat refine seq_on ?_
    refine Eng.get_at i rfl hg ?_
    refine call_by (num29 _ hx.h1) ?_
    refine call_by (num29 _ hx.h2) ?_
    refine call_by (num29 _ hx.h3) ?_
    refine ⟨draw_ok (by kernel_rfl), ?_⟩
    apply seq_inv (fun _ : Unit => True) (fun _ => c49s cap ser l i x)
    · repeat refine seq_on ?_
      refine cmp_dec (fun hq => ?_) (fun hq => ?_)
      · repeat refine seq_on ?_
        apply loop_inv (fun k => k ≤ x.fl.length) (n49s cap ser l i x) (fun k => x.fl.length - k) 0 (Nat.zero_le _) [(16, _), (17, _), (18, _), (19, _), (20, _)]
        · ((repeat' constructor) <;> (first | refine hold ?_ | rfl) <;> first | with_reducible rfl | (congr 1 <;> omega) | (congr 1 <;> simp; done) | (simp; done) | exact encB_snoc _ _ | skip)
        intro k hk
        have hfl := hx.hf
        repeat refine seq_on ?_
        refine cmp_dec (fun h' => ?_) (fun h' => ?_)
        · have hk' : k < x.fl.length := by omega
          have hy := hx.hl _ (List.getElem_mem hk')
          repeat refine seq_on ?_
          refine Eng.get_at k rfl (x := .s x.fl[k]) (by simp [hk']) ?_
          refine call_by (quote37 x.fl[k] (by omega)) ?_
          refine app_ok (by simp; omega) ?_
          repeat refine seq_on ?_
          refine ar ⟨by omega, by omega⟩ ?_
          apply again (k + 1) [(16, _), (17, _), (18, _), (19, _), (20, _)] (by omega) (by omega)
          ((repeat' constructor) <;> (first | refine hold ?_ | rfl) <;> first | with_reducible rfl | (congr 1 <;> omega) | (congr 1 <;> simp; done) | (simp; done) | exact encB_snoc _ _ | skip)
          rw [List.take_succ_eq_append_getElem hk', List.map_append, List.map_append]; rfl
        · obtain rfl : k = x.fl.length := by omega
          repeat refine seq_on ?_
          refine call_by (truth75 x.st) ?_
          refine call_by (truth75 x.bo) ?_
          rw [List.take_of_length_le (Nat.le_refl _)]
          refine call_by (arr33 (x.fl.map quoteF) (by simp; omega) (by have := hj.hq; omega)) ?_
          refine app_ok (by simp [memP0]) ?_
          refine ⟨draw_ok (by kernel_rfl), ?_⟩
          apply cut_inv () [(16, _), (17, _), (18, _)] trivial
          simp only [c49s, memP, if_pos hq, memP0]
          ((repeat' constructor) <;> (first | refine hold ?_ | rfl) <;> first | with_reducible rfl | (congr 1 <;> omega) | (congr 1 <;> simp; done) | (simp; done) | exact encB_snoc _ _ | skip)
      · apply cut_inv () [(16, _), (17, _), (18, _)] trivial
        simp only [c49s, memP, if_neg hq, memP0, List.append_nil]
        ((repeat' constructor) <;> (first | refine hold ?_ | rfl) <;> first | with_reducible rfl | (congr 1 <;> omega) | (congr 1 <;> simp; done) | (simp; done) | exact encB_snoc _ _ | skip)
    rintro ⟨⟩ _
    repeat refine seq_on ?_
    refine call_by (obj31 (memP x) (by unfold memP memP0; split <;> simp) hj.hp (by have := hj.ho; omega)) ?_
    refine app_ok (by simp; omega) ?_
    repeat refine seq_on ?_
    refine ar ⟨by omega, by omega⟩ ?_
    apply again (i + 1) [(16, _), (17, _)] (by omega) (by omega)
    ((repeat' constructor) <;> (first | refine hold ?_ | rfl) <;> first | with_reducible rfl | (congr 1 <;> omega) | (congr 1 <;> simp; done) | (simp; done) | exact encB_snoc _ _ | skip)
    rw [List.take_succ_eq_append_getElem hi', List.map_append, List.map_append, hxe]; rfl
  · obtain rfl : i = l.length := by omega
    repeat refine seq_on ?_
    rw [List.take_of_length_le (Nat.le_refl _)]
    refine call_by (arr33 (l.map objR) (by simp; omega) (by omega)) ?_
    refine len_ok (by show (([91] ++ joinF (l.map objR) [44]) ++ [93]).length + 1 ≤ _; simp only [List.length_append, List.length_cons, List.length_nil]; omega) ?_
    rfl
end Go.Proofs.YtiokdhklhnhfhaaDoor

namespace Go.Proofs.YtiokdhklhnhfhaaDoor
open Go.Eng
attribute [local irreducible] Hold
set_option maxRecDepth 100000

theorem digs10 : ∀ (k u : Nat), u < 10 ^ (k + 1) → (digs 10 u).length ≤ k + 1
  | 0, u, h => by rw [digs_one (by simpa using h)]; simp
  | k + 1, u, h => by
    by_cases h1 : u < 10
    · rw [digs_one h1]; simp
    · rw [digs_more (by omega) h1]
      have := digs10 k (u / 10) (by rw [Nat.pow_succ] at h; omega)
      simp only [List.length_append, List.length_cons, List.length_nil]
      omega
theorem jnum_len {n : Int} (h : I64 n) : (jnum n).length ≤ 32 := by
  have h1 := h.1; have h2 := h.2
  unfold jnum
  split
  · have := digs10 19 n.natAbs (by have : (10:Nat) ^ (19 + 1) = 100000000000000000000 := by decide
                                   omega)
    simp only [List.length_cons]; omega
  · have := digs10 19 n.toNat (by have : (10:Nat) ^ (19 + 1) = 100000000000000000000 := by decide
                                  omega)
    omega

def sumL (l : List (List UInt8)) : Nat := (l.map fun x => x.length + 1).sum
theorem sumL_cons (x : List UInt8) (l : List (List UInt8)) : sumL (x :: l) = x.length + 1 + sumL l := by simp [sumL]
theorem sumL_app (l m : List (List UInt8)) : sumL (l ++ m) = sumL l + sumL m := by simp [sumL]
theorem sumL_len (l : List (List UInt8)) : l.length ≤ sumL l := by
  induction l with
  | nil => simp
  | cons x l ih => rw [sumL_cons, List.length_cons]; omega
theorem sumL_mem {l : List (List UInt8)} {x : List UInt8} (h : x ∈ l) : x.length + 1 ≤ sumL l := by
  induction l with
  | nil => cases h
  | cons y l ih =>
    rw [sumL_cons]
    rcases List.mem_cons.1 h with rfl | h
    · omega
    · have := ih h; omega
theorem sumL_map (f : List UInt8 → List UInt8) (c : Nat) (hf : ∀ x, (f x).length + 1 ≤ c * (x.length + 1)) (l : List (List UInt8)) : sumL (l.map f) ≤ c * sumL l := by
  induction l with
  | nil => simp [sumL]
  | cons x l ih =>
    have := hf x
    rw [List.map_cons, sumL_cons, sumL_cons, Nat.mul_add]; omega
theorem join_sum (c : UInt8) : ∀ (l : List (List UInt8)), (joinF l [c]).length ≤ sumL l
  | [] => by simp [joinF, Lib.join, List.intercalate]
  | [x] => by simp [joinF, Lib.join, List.intercalate, sumL]
  | x :: y :: l => by
    have h1 := join_sum c (y :: l)
    have e : joinF (x :: y :: l) [c] = x ++ [c] ++ joinF (y :: l) [c] := by simp [joinF, Lib.join, List.intercalate]
    rw [e, sumL_cons]
    simp only [List.length_append, List.length_cons, List.length_nil]
    omega

/-- What a record's parts come to. -/
structure Fits (x : Rec) : Prop where
  h1 : I64 x.ser
  h2 : I64 x.exc
  h3 : I64 x.rea
  hs : sumL x.fl ≤ 1048576

theorem words0_sum (x : Rec) (h : Fits x) : sumL (words0 x) ≤ 99 := by
  have := jnum_len h.h1; have := jnum_len h.h2; have := jnum_len h.h3
  simp only [words0, sumL, List.map_nil, List.sum_nil, List.map_cons, List.sum_cons]; omega
theorem words_sum (x : Rec) (h : Fits x) : sumL (wordsF x) ≤ 8000000 := by
  have h0 := words0_sum x h
  have hm := sumL_map (wField ++ ·) 7 (fun y => by simp [wField]; omega) x.fl
  have hs := h.hs
  unfold wordsF wordsB words2 words1
  split
  · simp only [sumL_app]
    have a1 : sumL (if sameF x.st x.bo x.fl = true then [wSame] else []) ≤ 10 := by split <;> decide
    have a2 : sumL (if x.st = true then [wStatus] else []) ≤ 10 := by split <;> decide
    have a3 : sumL (if x.bo = true then [wBody] else []) ≤ 10 := by split <;> decide
    omega
  · omega
theorem recOk_of (x : Rec) (h : Fits x) : RecOk x := by
  have h1 := sumL_len x.fl
  have h2 := join_sum 32 (wordsF x)
  have h3 := words_sum x h
  have hs := h.hs
  exact ⟨h.h1, h.h2, h.h3, jnum_len h.h1, jnum_len h.h2, jnum_len h.h3, by omega, fun y hy => by have := sumL_mem hy; omega, by omega⟩
theorem arrF_len (l : List (List UInt8)) : (arrF l).length ≤ sumL l + 2 := by
  have := join_sum 44 l
  simp only [arrF, List.length_append, List.length_cons, List.length_nil]; omega
theorem lineF_len (x : Rec) (h : Fits x) : (lineF x).length ≤ 8000001 := by
  have h2 := join_sum 32 (wordsF x)
  have h3 := words_sum x h
  simp only [lineF, List.length_append, List.length_cons, List.length_nil]; omega
theorem quo_sum (x : Rec) (h : Fits x) : sumL (x.fl.map quoteF) ≤ 7000000 := by
  have hm := sumL_map quoteF 6 (fun y => by have := quoteF_len y; omega) x.fl
  have hs := h.hs
  omega
theorem bTxt_len (b : Bool) : (bTxt b).length ≤ 5 := by cases b <;> decide
theorem memP_len (x : Rec) (h : Fits x) : ∀ p, p ∈ memP x → p.1.length ≤ 20 ∧ p.2.length ≤ 7000002 := by
  have := jnum_len h.h1; have := jnum_len h.h2; have := jnum_len h.h3
  have h4 := arrF_len (x.fl.map quoteF)
  have h5 := quo_sum x h
  have := bTxt_len x.st; have := bTxt_len x.bo
  intro p hp
  unfold memP at hp
  rcases List.mem_append.1 hp with hp | hp
  · simp only [memP0, List.mem_cons, List.not_mem_nil, or_false] at hp
    rcases hp with rfl | rfl | rfl <;> exact ⟨Nat.le_of_ble_eq_true rfl, by simp only; omega⟩
  · split at hp
    · simp only [List.mem_cons, List.not_mem_nil, or_false] at hp
      rcases hp with rfl | rfl | rfl <;> exact ⟨Nat.le_of_ble_eq_true rfl, by simp only; omega⟩
    · cases hp
theorem memP_sum (x : Rec) (h : Fits x) : sumL ((memP x).map memF) ≤ 60000000 := by
  have key : ∀ l : List (List UInt8 × List UInt8), (∀ p, p ∈ l → p.1.length ≤ 20 ∧ p.2.length ≤ 7000002) → sumL (l.map memF) ≤ l.length * 7000200 := by
    intro l hl
    induction l with
    | nil => simp [sumL]
    | cons p l ih =>
      have h1 := hl p (by simp)
      have h2 := ih fun q hq => hl q (by simp [hq])
      have h3 := quoteF_len p.1
      rw [List.map_cons, sumL_cons, List.length_cons]
      simp only [memF, List.length_append, List.length_cons, List.length_nil]
      omega
  have h1 := key (memP x) (memP_len x h)
  have h2 : (memP x).length ≤ 6 := by unfold memP memP0; split <;> simp
  omega
theorem jsOk_of (x : Rec) (h : Fits x) : JsOk x := by
  have h1 := join_sum 44 (x.fl.map quoteF)
  have h2 := quo_sum x h
  have h3 := join_sum 44 ((memP x).map memF)
  have h4 := memP_sum x h
  exact ⟨by omega, fun p hp => by have := memP_len x h p hp; omega, by omega⟩
theorem objR_len (x : Rec) (h : Fits x) : (objR x).length ≤ 60000002 := by
  have h3 := join_sum 44 ((memP x).map memF)
  have h4 := memP_sum x h
  simp only [objR, objF, List.length_append, List.length_cons, List.length_nil]; omega

theorem good_fits (x : Rec) (h : Good x) : Fits x := by
  have h1 := h.ser; have h2 := h.exc; have h3 := h.rea; have h4 := h.len; have h5 := h.mem
  refine ⟨⟨by omega, by omega⟩, ⟨by omega, by omega⟩, ⟨by omega, by omega⟩, ?_⟩
  have key : ∀ l : List (List UInt8), (∀ y, y ∈ l → y ∈ words3) → sumL l ≤ l.length * 5 := by
    intro l hl
    induction l with
    | nil => simp [sumL]
    | cons y l ih =>
      have h1 := hl y (by simp)
      have h2 := ih fun q hq => hl q (by simp [hq])
      have h3 : y.length ≤ 4 := by
        simp only [words3, List.mem_cons, List.not_mem_nil, or_false] at h1
        rcases h1 with rfl | rfl | rfl <;> decide
      rw [sumL_cons, List.length_cons]; omega
  have := key x.fl h5
  omega

theorem text_len (l : List Rec) (h : ∀ x, x ∈ l → Fits x) : (textF l).length ≤ l.length * 8000001 := by
  induction l with
  | nil => simp [textF]
  | cons x l ih =>
    have h1 := lineF_len x (h x (by simp))
    have h2 := ih fun y hy => h y (by simp [hy])
    have e : textF (x :: l) = lineF x ++ textF l := by simp [textF]
    rw [e, List.length_append, List.length_cons]; omega
theorem objs_len (l : List Rec) (h : ∀ x, x ∈ l → Fits x) : (joinF (l.map objR) [44]).length ≤ l.length * 60000003 := by
  refine Nat.le_trans (join_sum 44 _) ?_
  induction l with
  | nil => simp [sumL]
  | cons x l ih =>
    have h1 := objR_len x (h x (by simp))
    have h2 := ih fun y hy => h y (by simp [hy])
    rw [List.map_cons, sumL_cons, List.length_cons]; omega
end Go.Proofs.YtiokdhklhnhfhaaDoor

namespace Go.Proofs.YtiokdhklhnhfhaaDoor
variable {G : List Go.Eng.Gl}
open Go.Eng
attribute [local irreducible] Hold
set_option maxRecDepth 100000

end Go.Proofs.YtiokdhklhnhfhaaDoor

