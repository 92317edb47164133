import Derived.Test.YtiokdhklhnhfhaaMc2
import Derived.Test.YtiokdhklhnhfhaaMd
import Derived.Test.YtiokdhklhnhfhaaSort
import Derived.Maps.RangeWalk
import Derived.Maps.AppendAt
import Derived.Lib.SlKeysI
import Derived.WalkKit
namespace Go.Proofs.Ytiokdhklhnhfhaa
open Go.Eng Go.RowKit Go.Maps Go.Sort
attribute [local irreducible] Hold

theorem lawI : Keyed Try.prog 3 := int_keyed Try.underlying3
def mkB (c : Nat) : Value := .bool (c == 1)
theorem invB {H : Type} : ∀ (v : Value) (y : DataW H × List MemPlace), plainElem Try.prog 4 v = some y → ∃ c, v = mkB c := by
  intro v y h
  unfold plainElem at h
  rw [Try.underlying4] at h
  cases v <;> simp at h
  rename_i t
  cases t
  · exact ⟨0, rfl⟩
  · exact ⟨1, rfl⟩

set_option maxRecDepth 100000 in
set_option maxHeartbeats 1000000 in
theorem list_any {H : Type} (b n : Nat) (D0 : DataW H) (w : World) (hown : w.ownsMap Try.prog 3 (plainElem Try.prog 4) b n D0) (hmax : Maps.size D0 ≤ 1000000) :
    Calls Try.prog 21 #[.map (some b)] w fun e w' => ∃ (v : Value) (ss : List Int), e = .returned v ∧ ss.Perm (intKeys D0) ∧
      w'.ownsRow w.heap.size 3 1 v ss.length ((ss.mergeSort leI).map encZ) ∧ Below w.heap.size w w' := by
  obtain ⟨i0, hi, hz0, hz1, hz2⟩ := info_parts (P := Try.prog) (e := 3) (z := Value.int .i64 0) (size := 1) (bytes := 8) (by kernel_rfl)
  have hbl := hown.lt
  go_enter Try.func21, Try.ntmps21
  go_wp2_with (first
    | (at_range; refine wpList_range_own _ rfl _ 45 rfl 3 4 lawI Try.underlying45 _ b n _ rfl hown ?_; intro w0 hrg0 hg0 hs0)
    | go_in)
  go_frame
  go_loopw [3] (fun v wr => ∃ (left : Lit → Bool) (cnt : Nat) (ss : List Int), wr.ranges Try.prog 3 (plainElem Try.prog 4) b w.heap.size n D0 left cnt ∧ ss.length + cnt ≤ Maps.size D0 ∧
      wr.ownsRow w.heap.size 3 1 v ss.length (ss.map encZ) ∧ CollectedI D0 left ss ∧ Below w.heap.size w wr)
    (fun _ wr => wr.rangeLeft b w.heap.size)
  case atStart =>
    exact ⟨_, _, [], hrg0, by simp, ⟨rfl, .inl ⟨rfl, rfl⟩⟩, CollectedI.start D0, (Below.refl _ _).grown hg0 (Nat.le_refl _) (fun j hj => by cases hj)⟩
  case round =>
    obtain ⟨left, cnt, ss, hrg, hcs, hrow, hC, hnx⟩ := hrel
    go_wp2_with (first
      | (at_next; refine wpList_next_ranges _ rfl _ rfl 3 lawI (plainElem Try.prog 4) encZ mkB (fun key kl hk => by obtain ⟨x, hx, _⟩ := Maps.keyOf_i64 Try.underlying3 hk; exact ⟨x, hx⟩) invB b w.heap.size n _ _ _ rfl hrg ?_ ?_)
      | go_in)
    · intro hc0 hl0
      have hp := hC.perm hown lawI Try.underlying3 hl0
      rcases hrow.2 with ⟨rfl, hn0⟩ | ⟨g, cap, cur, rfl, hbase, hb, h1, h2, h3, h4⟩
      · obtain rfl : ss = [] := by simpa using hn0
        have hc := Try.slices_Sort_int_none none 0 wr
        go_wp2_with (go_at_call 31; refine hc.mono ?_; rintro e w' ⟨rfl, rfl⟩)
        go_ret
        exact ⟨_, [], rfl, hp, ⟨by simp, .inl ⟨rfl, by simp⟩⟩, hnx⟩
      · have hH := holds_of_block_i hb (by simpa using h4)
        have hgl : g < wr.heap.size := (Array.getElem?_eq_some_iff.1 hb).1
        have hc := Try.slices_Sort_int g 0 cap ss wr hH hgl (by omega)
        go_wp2_with (go_at_call 31; refine hc.mono ?_; rintro e w' ⟨rfl, nn, os, rfl⟩)
        go_ret
        exact ⟨_, ss, rfl, hp, ownsRow_sorted_i (by simp) hbase hb h1 h2 h3, hnx.grown (grownBy_sorted_i _) hnx.size (fun j hj => by cases hj; exact hbase)⟩
    · intro x c kl yd yp w2 cnt2 hkey hlk hv hat hrg2 hlt hg2 hs2 hen
      obtain ⟨x', ex, rfl, _⟩ := Maps.keyOf_i64 Try.underlying3 hkey
      obtain rfl : x = x' := encZ_inj ex
      have hrow2 := hrow.kept hg2 (Or.inr (row_ne_iter hrow hrg).symm)
      clear hs2
      go_wp2_with (first
        | (at_builtin; go_loud (refine wpList_append_own _ rfl _ _ 22 rfl w.heap.size 3 i0 (Value.int .i64 0) 1 8 Try.underlying22 hi hz0 hz1 hz2 rfl (by decide) _ _ _ rfl (hrow2.alloc _) ⟨w2.heap.size, 0, none⟩ 1 1 [encZ x] rfl rfl (cell_one_new _ _ _) (by simp [Value.oneCell', encZ]) (by unfold maxLen at *; omega) (by omega) (by have := hnx.size; have := hg2.size; simp; omega) ?_; intro v' w3 hown' hg3 hnil3; go_frame))
        | go_in)
      have hrg3 := (hrg2.alloc _).kept hg3 (row_ne_low hrow2 hbl) (row_ne_iter hrow2 hrg2)
      go_roundw
      case rel =>
        refine ⟨_, cnt2, ss ++ [x], hrg3, by simp; omega, by simpa using hown', hC.step hlk hat, ?_⟩
        exact ((hnx.grown hg2 hnx.size (fun j hj => by cases hj; exact Nat.le_refl _)).alloc (by have := hnx.size; have := hg2.size; omega) _).grown hg3 (by have := hnx.size; have := hg2.size; simp; omega) (fun j hj => (hrow2.lt j hj).1)
      case measure => rw [hrg3.left_eq, hrg.left_eq]; exact hlt
end Go.Proofs.Ytiokdhklhnhfhaa

namespace Go.Proofs.Ytiokdhklhnhfhaa
variable {G : List Go.Eng.Gl}
open Go.Eng Go.Maps Go.MapKept Go.WideShapes
attribute [local irreducible] Hold

/-- A set of numbers in the kit's words. -/
theorem owns_of_iset {w : World} {b : Nat} {ks : List Int} {o : Obj} (hb : w.heap[b]? = some o) (hQ : ISet ks o) (hk : ∀ k, k ∈ ks → I64 k) (hl : ks.length ≤ 1000000) :
    ∃ D0 : DataW Unit, w.ownsMap Try.prog 3 (plainElem Try.prog 4) b ks.length D0 ∧ (intKeys D0).Perm ks ∧ Maps.size D0 ≤ 1000000 := by
  obtain ⟨es, clock, rfl, hkeys, hvals, hst⟩ := hQ
  have hes : es.size = ks.length := by have := congrArg List.length hkeys; simpa using this
  have hrd : ∀ x ∈ es.toList, ∃ n, n ∈ ks ∧ Go.WideElems.rd (H := Unit) Try.prog 3 (plainElem Try.prog 4) x = some (.int .i64 n, .lit (.bool true)) ∧ x.key = .int .i64 n := by
    intro x hx
    have hm : x.key ∈ es.toList.map (·.key) := List.mem_map.2 ⟨x, hx, rfl⟩
    rw [hkeys] at hm
    obtain ⟨n, hn, he⟩ := List.mem_map.1 hm
    have hw : (Lit.int .i64 n).wf = true := by
      have := hk n hn
      show (decide (IntKind.i64.min ≤ n) && decide (n ≤ IntKind.i64.max)) = true
      have e1 : IntKind.i64.min = -9223372036854775808 := by decide
      have e2 : IntKind.i64.max = 9223372036854775807 := by decide
      simp only [e1, e2, Bool.and_eq_true, decide_eq_true_eq]
      exact this
    refine ⟨n, hn, ?_, he.symm⟩
    unfold Go.WideElems.rd
    rw [← he, hvals x hx, keyOf_int_mk Try.underlying3 hw, plainElem_bool Try.underlying4]
    rfl
  have hF : Go.WideElems.Fit Try.prog 3 (plainElem (H := Unit) Try.prog 4) es clock := ⟨by unfold maxLen; omega, hst, fun x hx => by obtain ⟨n, _, h, _⟩ := hrd x hx; exact ⟨_, h⟩⟩
  refine ⟨_, ⟨es, clock, hb, hF, by omega, rfl⟩, ?_, ?_⟩
  · have hp := sorted_perm (es.toList.map (Go.WideElems.rg (H := Unit) Try.prog 3 (plainElem Try.prog 4)))
    have h1 := hp.map (fun p => Go.intOf p.1)
    refine h1.trans (List.Perm.of_eq ?_)
    rw [List.map_map]
    have h2 : (es.toList.map (·.key)).map (fun v => match v with | .int _ n => n | _ => 0) = ks := by
      rw [hkeys, List.map_map]
      simp [Function.comp_def]
    rw [← h2, List.map_map]
    refine List.map_congr_left fun x hx => ?_
    obtain ⟨n, _, h, he⟩ := hrd x hx
    simp only [Function.comp]
    unfold Go.WideElems.rg
    rw [h, he]
    rfl
  · show (List.foldr DataW.insert [] _).length ≤ 1000000
    rw [(sorted_perm _).length_eq]
    simp; omega

def sortI (l : List Int) : List Int := l.mergeSort leI
theorem leI_tr : ∀ a b c : Int, leI a b = true → leI b c = true → leI a c = true := fun a b c h1 h2 => by simp only [leI, decide_eq_true_eq] at *; omega
theorem leI_to : ∀ a b : Int, (leI a b || leI b a) = true := fun a b => by simp only [leI, Bool.or_eq_true, decide_eq_true_eq]; omega
theorem sortI_perm {l l' : List Int} (h : l.Perm l') : sortI l = sortI l' := by
  refine List.Perm.eq_of_pairwise (le := fun a b => leI a b = true) (fun a b _ _ h1 h2 => ?_) (List.pairwise_mergeSort leI_tr leI_to l) (List.pairwise_mergeSort leI_tr leI_to l') (((List.mergeSort_perm l leI).trans h).trans (List.mergeSort_perm l' leI).symm)
  simp only [leI, decide_eq_true_eq] at h1 h2
  omega

theorem row_rd {w : World} {X : Nat → Prop} {base : Nat} {v : Value} {l : List Int} (h : w.ownsRow base 3 1 v l.length (l.map (Value.int .i64))) (hX : ∀ b, X b → b < base) : Rd w X (ints l) v := by
  rcases h.2 with ⟨rfl, h0⟩ | ⟨g, cap, cur, rfl, hg, hb, hc, _, hsz, ht⟩
  · obtain rfl : l = [] := List.eq_nil_of_length_eq_zero h0
    exact .slnil 1
  · have hget : ∀ (j : Nat) (z : Int), l[j]? = some z → cur[j]? = some (.int .i64 z) := by
      intro j z hz
      have hj : j < l.length := (List.getElem?_eq_some_iff.1 hz).1
      have h1 : (cur.toList.take (l.length * 1))[j]? = (l.map (Value.int .i64))[j]? := by rw [ht]
      rw [Nat.mul_one, List.getElem?_take_of_lt hj, Array.getElem?_toList, List.getElem?_map, hz] at h1
      exact h1
    refine .sl 1 _ g 0 l.length cap cur _ _ (fun j _ => .int .i64 (l.getD j 0)) hb (fun h => by have := hX _ h; omega) (by simp) hc (fun j x hx => ?_) (fun j m x c hx hc => ?_) fun j m x c hx hc => ?_
    · rw [List.getElem?_map, Option.map_eq_some_iff] at hx
      obtain ⟨z, _, rfl⟩ := hx
      exact ⟨rfl, fun c hc => by simp [D.cells] at hc; subst hc; rfl⟩
    · rw [List.getElem?_map, Option.map_eq_some_iff] at hx
      obtain ⟨z, hz, rfl⟩ := hx
      have hm : m = 0 := by
        cases m with
        | zero => rfl
        | succ m => simp [D.cells] at hc
      subst hm
      have := hget j z hz
      simpa [List.getD_eq_getElem?_getD, hz] using this
    · rw [List.getElem?_map, Option.map_eq_some_iff] at hx
      obtain ⟨z, hz, rfl⟩ := hx
      have hm : m = 0 := by
        cases m with
        | zero => rfl
        | succ m => simp [D.cells] at hc
      subst hm
      have : c = .i .i64 z := by simpa [D.cells] using hc.symm
      subst this
      simp only [List.getD_eq_getElem?_getD, hz, Option.getD_some]
      exact .i _ _

theorem list21 (ks : List Int) (hk : ∀ k, k ∈ ks → I64 k) (hl : ks.length ≤ 1000000) : DoesH (CG G) 21 [.os 0] [(0, some (.iset ks))] [.d (ints (sortI ks))] [] := by
  refine ⟨⟨_, Try.func21, by decide, rfl⟩, fun w X F α vs hF hs => ?_⟩
  have h0 : OwnO w (α 0) (ISet ks) true := hs.own 0 (.iset ks) rfl
  obtain ⟨hnil, hhv, o, hb, hQ⟩ := h0
  have henv := hs.env 0 (.os 0) rfl
  have hsz : vs.size = 1 := hs.size
  obtain ⟨v0, rfl⟩ : ∃ v0, vs = #[v0] := by
    obtain ⟨l⟩ := vs
    match l, hsz with
    | [x], _ => exact ⟨x, rfl⟩
  have hv : v0 = .map (some (α 0).blk) := by
    have e : RdA w α (XX α (AS.ss ⟨argA 0 [.os 0], [(0, some (.iset ks))], 1⟩).own X) (.os 0) v0 := henv
    cases e
    exact hhv
  rw [hv]
  obtain ⟨D0, hown, hperm, hsz0⟩ := owns_of_iset hb hQ hk hl
  refine (list_any _ _ D0 w hown hsz0).mono ?_
  rintro e w' ⟨v, ss, rfl, hp, hrow, hbel⟩
  refine ⟨α, #[v], rfl, ?_⟩
  have hss : ss.mergeSort leI = sortI ks := sortI_perm (hp.trans hperm)
  have hrow' : w'.ownsRow w.heap.size 3 1 v (sortI ks).length ((sortI ks).map (Value.int .i64)) := by
    rw [← hss, List.length_mergeSort]; exact hrow
  have hrd : Rd w' (XX α (AS.ss ⟨argA 0 [.d (ints (sortI ks))], [], 2⟩).own X) (ints (sortI ks)) v := row_rd hrow' fun b hx => by
    rcases hx with ⟨k, e, hk, _⟩ | hx
    · exact nomatch (show (none : Option Ent) = some _ from hk)
    · exact hs.x0 b hx
  refine ⟨rfl, hs.defers, fun t av ht => ?_, fun t av ht => ?_, fun k e hk => ?_, fun k e hk => ?_, fun k e k' e' hk => ?_, fun k e hk => ?_, hs.x0, fun b hb hF => hbel.block b hb, hbel.size, hbel.os, hbel.tape, hbel.output, hs.gl, fun k l hk => ?_, ?_⟩
  · obtain ⟨h1, h2⟩ := argA_look [.d (ints (sortI ks))] 0 t av ht
    obtain rfl : t = 0 := by
      have := (List.getElem?_eq_some_iff.1 h2).1
      simp at this; omega
    cases h2
    exact .d _ _ hrd
  · obtain ⟨h1, h2⟩ := argA_look [.d (ints (sortI ks))] 0 t av ht
    obtain rfl : t = 0 := by
      have := (List.getElem?_eq_some_iff.1 h2).1
      simp at this; omega
    cases h2
    exact .d _
  · exact nomatch (show (none : Option Ent) = some _ from hk)
  · exact nomatch (show (none : Option Ent) = some _ from hk)
  · exact nomatch (show (none : Option Ent) = some _ from hk)
  · exact nomatch (show (none : Option Ent) = some _ from hk)
  · obtain ⟨h1, h2⟩ := hs.fix k l hk
    exact ⟨h1, by simp only [names] at h2 ⊢; omega⟩
  · obtain ⟨h1, h2, h3⟩ := hs.nil0
    exact ⟨h1, h2, by simp only [names] at h3 ⊢; omega⟩
end Go.Proofs.Ytiokdhklhnhfhaa

namespace Go.Proofs.Ytiokdhklhnhfhaa
open Go.Eng
attribute [local irreducible] Hold

structure Po where
  ba : Int
  qu : Int
  se : Int
  id : List Int
  bu : List Int
def poD (p : Po) : D := .agg [.i .i64 p.ba, .i .i64 p.qu, .i .i64 p.se, .sl 1 (p.id.map (.i .i64)), .sl 1 (p.bu.map (.i .i64))]
structure PoOk (p : Po) : Prop where
  ba : 0 ≤ p.ba ∧ p.ba ≤ 1000000000
  qu : 0 ≤ p.qu ∧ p.qu ≤ 1000
  se : 0 ≤ p.se ∧ p.se ≤ 900000
  le : ((p.id.length + p.bu.length : Nat) : Int) ≤ p.qu
  si : p.id.Pairwise (· < ·)
  sb : p.bu.Pairwise (· < ·)
  ri : ∀ x, x ∈ p.id → p.ba < x ∧ x ≤ p.ba + p.se
  rb : ∀ x, x ∈ p.bu → p.ba < x ∧ x ≤ p.ba + p.se
  ap : ∀ x, x ∈ p.id → x ∉ p.bu

def insL (l : List Int) : List Int := l.foldl insI []
theorem insL_from (l acc : List Int) (h : (acc ++ l).Nodup) : l.foldl insI acc = acc ++ l := by
  induction l generalizing acc with
  | nil => simp
  | cons x r ih =>
    have hx : x ∉ acc := by
      intro hm
      have := List.nodup_append.1 h
      exact this.2.2 x hm x (by simp) rfl
    rw [List.foldl_cons, show insI acc x = acc ++ [x] from if_neg hx, ih _ (by simpa using h)]
    simp
theorem insL_nodup {l : List Int} (h : l.Nodup) : insL l = l := by
  have := insL_from l [] (by simpa using h)
  simpa [insL] using this
theorem lt_nodup {l : List Int} (h : l.Pairwise (· < ·)) : l.Nodup := h.imp fun h => by omega

def insS : List Int → Int → List Int
  | [], n => [n]
  | x :: r, n => if x < n then x :: insS r n else n :: x :: r
theorem insS_mem {l : List Int} {n x : Int} : x ∈ insS l n ↔ x = n ∨ x ∈ l := by
  induction l with
  | nil => simp [insS]
  | cons y r ih =>
    unfold insS
    split
    · simp [ih]; constructor <;> rintro (h | h | h) <;> simp [h]
    · simp
theorem insS_len (l : List Int) (n : Int) : (insS l n).length = l.length + 1 := by
  induction l with
  | nil => rfl
  | cons y r ih => unfold insS; split <;> simp [ih]
theorem insS_sorted {l : List Int} {n : Int} (h : l.Pairwise (· < ·)) (hn : n ∉ l) : (insS l n).Pairwise (· < ·) := by
  induction l with
  | nil => simp [insS]
  | cons y r ih =>
    have h1 := List.pairwise_cons.1 h
    simp only [List.mem_cons, not_or] at hn
    unfold insS
    split
    · rename_i hy
      refine List.pairwise_cons.2 ⟨fun x hx => ?_, ih h1.2 hn.2⟩
      rcases insS_mem.1 hx with rfl | hx
      · exact hy
      · exact h1.1 x hx
    · rename_i hy
      refine List.pairwise_cons.2 ⟨fun x hx => ?_, h⟩
      rcases List.mem_cons.1 hx with rfl | hx
      · omega
      · have := h1.1 x hx; omega
theorem insS_perm (l : List Int) (n : Int) : (insS l n).Perm (l ++ [n]) := by
  induction l with
  | nil => exact List.Perm.refl _
  | cons y r ih =>
    unfold insS
    split
    · exact ih.cons y
    · exact (List.perm_append_comm (l₁ := [n]) (l₂ := y :: r))
theorem sortI_id {l : List Int} (h : l.Pairwise (· < ·)) : sortI l = l := by
  refine List.Perm.eq_of_pairwise (le := fun a b => Go.leI a b = true) (fun a b _ _ h1 h2 => ?_) (List.pairwise_mergeSort leI_tr leI_to l) (h.imp fun h => by simp only [Go.leI, decide_eq_true_eq]; omega) (List.mergeSort_perm l Go.leI)
  simp only [Go.leI, decide_eq_true_eq] at h1 h2
  omega
theorem sort_ins {l : List Int} {n : Int} (h : l.Pairwise (· < ·)) (hn : n ∉ l) : sortI (insI l n) = insS l n := by
  rw [show insI l n = l ++ [n] from if_neg hn, sortI_perm (insS_perm l n).symm, sortI_id (insS_sorted h hn)]
theorem erase_sorted {l : List Int} (n : Int) (h : l.Pairwise (· < ·)) : (l.erase n).Pairwise (· < ·) := h.sublist List.erase_sublist
theorem insS_at {l : List Int} {n : Int} : ∀ (k : Nat), k ≤ l.length → (∀ j, j < k → l.getD j 0 < n) → (k = l.length ∨ ¬ l.getD k 0 < n) → insS l n = l.take k ++ n :: l.drop k := by
  induction l with
  | nil => intro k hk _ _; simp at hk; subst hk; rfl
  | cons y r ih =>
    intro k hk h1 h2
    cases k with
    | zero =>
      have : ¬ y < n := by
        rcases h2 with h2 | h2
        · simp at h2
        · simpa using h2
      unfold insS
      rw [if_neg this]; rfl
    | succ k =>
      have hy : y < n := by simpa using h1 0 (by omega)
      unfold insS
      rw [if_pos hy, ih k (by simpa using hk) (fun j hj => by simpa using h1 (j + 1) (by omega)) (by
        rcases h2 with h2 | h2
        · left; simpa using h2
        · right; simpa using h2)]
      rfl
theorem erase_at {l : List Int} {n : Int} : ∀ (k : Nat), (∀ j, j < k → l.getD j 0 ≠ n) → l[k]? = some n → l.erase n = l.take k ++ l.drop (k + 1) := by
  induction l with
  | nil => intro k _ h; simp at h
  | cons y r ih =>
    intro k h1 h2
    cases k with
    | zero => simp at h2; subst h2; simp
    | succ k =>
      have hy : y ≠ n := by simpa using h1 0 (by omega)
      rw [List.erase_cons_tail (by simpa using hy), ih k (fun j hj => by simpa using h1 (j + 1) (by omega)) (by simpa using h2)]
      rfl
theorem erase_len {l : List Int} {n : Int} (h : n ∈ l) : (l.erase n).length + 1 = l.length := by
  have := List.length_erase_of_mem h
  have : 0 < l.length := List.length_pos_of_mem h
  omega

def newPo (b q : Int) : Po := ⟨min (max b 0) 1000000000, min (max q 0) 1000, 0, [], []⟩
theorem newPo_ok (b q : Int) : PoOk (newPo b q) := by
  refine ⟨?_, ?_, ?_, ?_, ?_, ?_, ?_, ?_, ?_⟩ <;> simp [newPo] <;> omega
def acqO (p : Po) : Option (Po × Int × Bool) :=
  match p.id with
  | n :: r => some (⟨p.ba, p.qu, p.se, r, insS p.bu n⟩, n, false)
  | [] => if (p.bu.length : Int) < p.qu ∧ p.se < 900000 then some (⟨p.ba, p.qu, p.se + 1, [], insS p.bu (p.ba + (p.se + 1))⟩, p.ba + (p.se + 1), true) else none
def relO (p : Po) (n : Int) : Po × Bool := if n ∈ p.bu then (⟨p.ba, p.qu, p.se, insS p.id n, p.bu.erase n⟩, true) else (p, false)
def drpO (p : Po) (n : Int) : Po × Bool := if n ∈ p.bu then (⟨p.ba, p.qu, p.se, p.id, p.bu.erase n⟩, true) else if n ∈ p.id then (⟨p.ba, p.qu, p.se, p.id.erase n, p.bu⟩, true) else (p, false)

theorem acqO_ok {p q : Po} {n : Int} {f : Bool} (h : PoOk p) (ha : acqO p = some (q, n, f)) : PoOk q ∧ n ∈ q.bu ∧ n ∉ p.bu := by
  obtain ⟨h1, h2, h3, h4, h5, h6, h7, h8, h9⟩ := h
  unfold acqO at ha
  split at ha
  · rename_i m r hid
    cases ha
    rw [hid] at h4 h5 h7 h9
    have hm := h9 n (by simp)
    have hc := List.pairwise_cons.1 h5
    refine ⟨⟨h1, h2, h3, by simp only [insS_len]; simp at h4; omega, hc.2, insS_sorted h6 hm, fun x hx => h7 x (by simp [hx]), fun x hx => ?_, fun x hx hx2 => ?_⟩, insS_mem.2 (.inl rfl), hm⟩
    · rcases insS_mem.1 hx with rfl | hx
      · exact h7 x (by simp)
      · exact h8 x hx
    · rcases insS_mem.1 hx2 with rfl | hx2
      · have := hc.1 x hx; omega
      · exact h9 x (by simp [hx]) hx2
  · rename_i hid
    split at ha
    · rename_i hc
      cases ha
      have hm : p.ba + (p.se + 1) ∉ p.bu := fun hx => by have := h8 _ hx; omega
      refine ⟨⟨h1, h2, ⟨by simp only; omega, by simp only; omega⟩, by simp only [insS_len, List.length_nil]; omega, List.Pairwise.nil, insS_sorted h6 hm, fun x hx => by simp at hx, fun x hx => ?_, fun x hx => by simp at hx⟩, insS_mem.2 (.inl rfl), hm⟩
      rcases insS_mem.1 hx with rfl | hx
      · simp only; omega
      · have := h8 x hx; simp only; omega
    · cases ha
theorem relO_ok {p : Po} (h : PoOk p) (n : Int) : PoOk (relO p n).1 := by
  unfold relO
  split
  · rename_i hn
    obtain ⟨h1, h2, h3, h4, h5, h6, h7, h8, h9⟩ := h
    have hni : n ∉ p.id := fun hi => h9 n hi hn
    have hl := erase_len hn
    refine ⟨h1, h2, h3, by simp only [insS_len]; omega, insS_sorted h5 hni, erase_sorted n h6, fun x hx => ?_, fun x hx => h8 x (List.mem_of_mem_erase hx), fun x hx hx2 => ?_⟩
    · rcases insS_mem.1 hx with rfl | hx
      · exact h8 x hn
      · exact h7 x hx
    · rcases insS_mem.1 hx with rfl | hx
      · exact (lt_nodup h6).not_mem_erase hx2
      · exact h9 x hx (List.mem_of_mem_erase hx2)
  · exact h
theorem drpO_ok {p : Po} (h : PoOk p) (n : Int) : PoOk (drpO p n).1 := by
  unfold drpO
  split
  · rename_i hn
    obtain ⟨h1, h2, h3, h4, h5, h6, h7, h8, h9⟩ := h
    have hl := erase_len hn
    exact ⟨h1, h2, h3, by simp only; omega, h5, erase_sorted n h6, h7, fun x hx => h8 x (List.mem_of_mem_erase hx), fun x hx hx2 => h9 x hx (List.mem_of_mem_erase hx2)⟩
  · split
    · rename_i hn
      obtain ⟨h1, h2, h3, h4, h5, h6, h7, h8, h9⟩ := h
      have hl := erase_len hn
      exact ⟨h1, h2, h3, by simp only; omega, erase_sorted n h5, h6, fun x hx => h7 x (List.mem_of_mem_erase hx), h8, fun x hx hx2 => h9 x (List.mem_of_mem_erase hx) hx2⟩
    · exact h
end Go.Proofs.Ytiokdhklhnhfhaa

namespace Go.Proofs.Ytiokdhklhnhfhaa
variable {G : List Go.Eng.Gl}
open Go.Eng
attribute [local irreducible] Hold
set_option maxRecDepth 100000

theorem fin_eq {α : Type} {a b : α} (h : a = b) : a = b := h
theorem cloneI (l : List Int) (h : l.length ≤ 68719476736) : DoesH (CG G) 27 [.d (ints l)] [] [.os 16] [(16, some (.buf 1 (l.map (.i .i64))))] := by
  refine DoesH.mk (n := 8) Try.func27 rfl rfl rfl (Nat.le_of_ble_eq_true rfl) rfl ?_
  unfold ints
  repeat refine seq_on ?_
  refine nil_both (fun h0 => ?_) (fun h0 => ?_)
  · repeat refine seq_on ?_
    refine both ?_ ?_
    · repeat refine seq_on ?_
      apply end_ok [(16, _)]
      ((repeat' constructor) <;> (first | refine hold ?_ | rfl) <;> first | with_reducible rfl | (congr 1 <;> omega) | (congr 1 <;> simp; done) | (simp; done) | exact encB_snoc _ _ | skip)
      exact h0.symm
    · repeat refine seq_on ?_
      refine app_ok (by simpa using h) ?_
      repeat refine seq_on ?_
      apply end_ok [(16, _)]
      ((repeat' constructor) <;> (first | refine hold ?_ | rfl) <;> first | with_reducible rfl | (congr 1 <;> omega) | (congr 1 <;> simp; done) | (simp; done) | exact encB_snoc _ _ | skip)
  · repeat refine seq_on ?_
    refine app_ok (by simpa using h) ?_
    repeat refine seq_on ?_
    apply end_ok [(16, _)]
    ((repeat' constructor) <;> (first | refine hold ?_ | rfl) <;> first | with_reducible rfl | (congr 1 <;> omega) | (congr 1 <;> simp; done) | (simp; done) | exact encB_snoc _ _ | skip)
theorem copied19 (p : Po) (h1 : p.id.length ≤ 68719476736) (h2 : p.bu.length ≤ 68719476736) : Does (CG G) 19 [poD p] [poD p] := by
  have c1 := cloneI (G := G) p.id h1
  have c2 := cloneI (G := G) p.bu h2
  unfold poD ints at *
  refine Does.mk (n := 12) Try.func19 rfl rfl rfl (Nat.le_of_ble_eq_true rfl) ?_
  repeat refine seq_on ?_
  refine call_alt (callh [] c1 ?_ ?_)
  · ((repeat' constructor) <;> (first | refine hold ?_ | rfl) <;> first | with_reducible rfl | (congr 1 <;> omega) | (congr 1 <;> simp; done) | (simp; done) | exact encB_snoc _ _ | skip)
  refine call_alt (callh [] c2 ?_ ?_)
  · ((repeat' constructor) <;> (first | refine hold ?_ | rfl) <;> first | with_reducible rfl | (congr 1 <;> omega) | (congr 1 <;> simp; done) | (simp; done) | exact encB_snoc _ _ | skip)
  ((try refine And.intro (draw_ok (by kernel_rfl)) ?_); repeat refine seq_on ?_)
  rfl
theorem open17 (p : Po) (h : p.id.length + p.bu.length ≤ 9223372036854775807) : Does (CG G) 17 [poD p] [.i .i64 ((p.id.length : Int) + (p.bu.length : Int))] := by
  have e1 : (p.id.map (D.i .i64)).length = p.id.length := by simp
  have e2 : (p.bu.map (D.i .i64)).length = p.bu.length := by simp
  unfold poD
  refine Does.mk (n := 10) Try.func17 rfl rfl rfl (Nat.le_of_ble_eq_true rfl) ?_
  repeat refine seq_on ?_
  refine ar ⟨by omega, by omega⟩ ?_
  rw [e1, e2]
  rfl
theorem new7 (b q : Int) : Does (CG G) 7 [.i .i64 b, .i .i64 q] [poD (newPo b q)] := by
  refine Does.mk (n := 12) Try.func7 rfl rfl rfl (Nat.le_of_ble_eq_true rfl) ?_
  repeat refine seq_on ?_
  rfl
theorem new22 (b q : Int) : Does (CG G) 22 [.i .i64 b, .i .i64 q] [poD (newPo b q)] := by
  refine Does.mk (n := 12) Try.func22 rfl rfl rfl (Nat.le_of_ble_eq_true rfl) ?_
  repeat refine seq_on ?_
  rfl
theorem set20 (l : List Int) (h : l.length ≤ 9223372036854775806) : DoesH (CG G) 20 [.d (ints l)] [] [.os 16] [(16, some (.iset (insL l)))] := by
  have hlen : (l.map (D.i .i64)).length = l.length := by simp
  refine DoesH.mk (n := 17) Try.func20 rfl rfl rfl (Nat.le_of_ble_eq_true rfl) rfl ?_
  repeat refine seq_on ?_
  apply loop_inv (fun i : Nat => i ≤ l.length) (fun i => ⟨[(3, .os 16), (7, .d (ints l)), (8, .d (.i .i64 (l.length : Int))), (9, .d (.i .i64 (i : Int)))], [(16, some (.iset (insL (l.take i))))], 2⟩) (fun i => l.length - i) 0 (Nat.zero_le _) [(16, _)]
  · ((repeat' constructor) <;> (first | refine hold ?_ | rfl) <;> first | with_reducible rfl | (congr 1 <;> omega) | (congr 1 <;> simp; done) | (simp; done) | exact encB_snoc _ _ | skip)
  · intro i hi
    repeat refine seq_on ?_
    refine cmp_dec (fun h1 => ?_) (fun h1 => ?_)
    · have hi' : i < l.length := by omega
      have hs : insL (l.take (i + 1)) = insI (insL (l.take i)) (l.getD i 0) := by
        rw [List.take_succ_eq_append_getElem hi', show l.getD i 0 = l[i] by simp [hi'], insL, List.foldl_append]
        rfl
      repeat refine seq_on ?_
      refine Eng.get_at i rfl (getInts hi') ?_
      repeat refine seq_on ?_
      refine ar ⟨by omega, by omega⟩ ?_
      apply again (i + 1) [(16, _)] (by omega) (by omega)
      ((repeat' constructor) <;> (first | refine hold ?_ | rfl) <;> first | with_reducible rfl | (congr 1 <;> omega) | (congr 1 <;> simp; done) | (simp; done) | exact encB_snoc _ _ | skip)
      all_goals rw [hs]
    · obtain rfl : i = l.length := by omega
      rw [List.take_of_length_le (Nat.le_refl _)]
      repeat refine seq_on ?_
      apply end_ok [(16, _)]
      ((repeat' constructor) <;> (first | refine hold ?_ | rfl) <;> first | with_reducible rfl | (congr 1 <;> omega) | (congr 1 <;> simp; done) | (simp; done) | exact encB_snoc _ _ | skip)

theorem zb : Try.prog.underlying 45 = some (.map 3 4) := Try.underlying45
theorem zbz (w : World) : (zeroValue 4).run Try.prog w = .ok (.bool false) w := by
  obtain ⟨i, hi, hz, _, _⟩ := info_parts (P := Try.prog) (e := 4) (z := Value.bool false) (size := 1) (bytes := 1) (by kernel_rfl)
  simp [zeroValue, typeInfo, hi, hz]

theorem i64_in {p : Po} (h : PoOk p) : (∀ x, x ∈ p.id → I64 x) ∧ (∀ x, x ∈ p.bu → I64 x) := by
  have := h.ba; have := h.se
  exact ⟨fun x hx => by have := h.ri x hx; constructor <;> omega, fun x hx => by have := h.rb x hx; constructor <;> omega⟩
/-- A set that is sorted again. -/
theorem list_ins (l : List Int) (n : Int) (hs : l.Pairwise (· < ·)) (hn : n ∉ l) (hk : ∀ x, x ∈ l → I64 x) (hnk : I64 n) (hl : l.length ≤ 100000) : DoesH (CG G) 21 [.os 0] [(0, some (.iset (insI (insL l) n)))] [.d (ints (insS l n))] [] := by
  have e := insL_nodup (lt_nodup hs)
  have e2 : insI l n = l ++ [n] := if_neg hn
  have h := list21 (G := G) (insI (insL l) n) (by rw [e, e2]; intro k hk'; rcases List.mem_append.1 hk' with h | h; exact hk k h; simp at h; subst h; exact hnk) (by rw [e, e2]; simp; omega)
  rw [show sortI (insI (insL l) n) = insS l n by rw [e]; exact sort_ins hs hn] at h
  exact h
theorem list_del (l : List Int) (n : Int) (hs : l.Pairwise (· < ·)) (hk : ∀ x, x ∈ l → I64 x) (hl : l.length ≤ 100000) : DoesH (CG G) 21 [.os 0] [(0, some (.iset ((insL l).erase n)))] [.d (ints (l.erase n))] [] := by
  have e := insL_nodup (lt_nodup hs)
  have h := list21 (G := G) ((insL l).erase n) (by rw [e]; intro k hk'; exact hk k (List.mem_of_mem_erase hk')) (by rw [e]; have := List.length_erase_le (a := n) (l := l); omega)
  rw [show sortI ((insL l).erase n) = l.erase n by rw [e]; exact sortI_id (erase_sorted n hs)] at h
  exact h

def acqD (r : Option (Po × Int × Bool)) : List D := match r with | some (q, n, f) => [poD q, .i .i64 n, .b f, .i .i64 0] | none => [poD ⟨0, 0, 0, [], []⟩, .i .i64 0, .b false, .i .i64 9]
theorem acquire11 (p : Po) (h : PoOk p) : Does (CG G) 11 [poD p] (acqD (acqO p)) := by
  obtain ⟨h1, h2, h3, h4, h5, h6, h7, h8, h9⟩ := h
  have hi := i64_in ⟨h1, h2, h3, h4, h5, h6, h7, h8, h9⟩
  have c1 := copied19 (G := G) p (by omega) (by omega)
  have c2 := set20 (G := G) p.bu (by omega)
  have c3 := open17 (G := G) p (by omega)
  obtain ⟨ba, qu, se, id, bu⟩ := p
  simp only at *
  cases id with
  | cons n r =>
    have hn := h9 n (by simp)
    have c4 := list_ins (G := G) bu n h6 hn hi.2 (hi.1 n (by simp)) (by omega)
    unfold acqO acqD
    simp only
    unfold poD at *
    simp only at *
    unfold ints at *
    refine Does.mk (n := 58) Try.func11 rfl rfl rfl (Nat.le_of_ble_eq_true rfl) ?_
    repeat refine seq_on ?_
    refine call_by c1 ?_
    ((try refine And.intro (draw_ok (by kernel_rfl)) ?_); repeat refine seq_on ?_)
    refine call_alt (callh [] c2 ?_ ?_)
    · ((repeat' constructor) <;> (first | refine hold ?_ | rfl) <;> first | with_reducible rfl | (congr 1 <;> omega) | (congr 1 <;> simp; done) | (simp; done) | exact encB_snoc _ _ | skip)
    ((try refine And.intro (draw_ok (by kernel_rfl)) ?_); repeat refine seq_on ?_)
    refine cmp_no (by simp; omega) ?_
    ((try refine And.intro (draw_ok (by kernel_rfl)) ?_); repeat refine seq_on ?_)
    refine Eng.get_at 0 rfl (x := .i .i64 n) rfl ?_
    refine bnd 1 rfl (by simp) ?_
    ((try refine And.intro (draw_ok (by kernel_rfl)) ?_); repeat refine seq_on ?_)
    refine callh [(0, 176)] c4 ?_ ?_
    · ((repeat' constructor) <;> (first | refine hold ?_ | rfl) <;> first | with_reducible rfl | (congr 1 <;> omega) | (congr 1 <;> simp; done) | (simp; done) | exact encB_snoc _ _ | skip)
    ((try refine And.intro (draw_ok (by kernel_rfl)) ?_); repeat refine seq_on ?_)
    refine fin_eq ?_
    simp
  | nil =>
    unfold acqO acqD
    simp only
    by_cases hc : (bu.length : Int) < qu ∧ se < 900000
    · rw [if_pos hc]
      have hn : ba + (se + 1) ∉ bu := fun hx => by have := h8 _ hx; omega
      have c4 := list_ins (G := G) bu (ba + (se + 1)) h6 hn hi.2 ⟨by omega, by omega⟩ (by omega)
      unfold poD at *
      simp only at *
      unfold ints at *
      refine Does.mk (n := 58) Try.func11 rfl rfl rfl (Nat.le_of_ble_eq_true rfl) ?_
      repeat refine seq_on ?_
      refine call_by c1 ?_
      ((try refine And.intro (draw_ok (by kernel_rfl)) ?_); repeat refine seq_on ?_)
      refine call_alt (callh [] c2 ?_ ?_)
      · ((repeat' constructor) <;> (first | refine hold ?_ | rfl) <;> first | with_reducible rfl | (congr 1 <;> omega) | (congr 1 <;> simp; done) | (simp; done) | exact encB_snoc _ _ | skip)
      ((try refine And.intro (draw_ok (by kernel_rfl)) ?_); repeat refine seq_on ?_)
      refine cmp_yes (by simp) ?_
      ((try refine And.intro (draw_ok (by kernel_rfl)) ?_); repeat refine seq_on ?_)
      refine call_by c3 ?_
      refine cmp_yes (by simpa using hc.1) ?_
      refine cmp_yes hc.2 ?_
      ((try refine And.intro (draw_ok (by kernel_rfl)) ?_); repeat refine seq_on ?_)
      refine ar ⟨by omega, by omega⟩ ?_
      ((try refine And.intro (draw_ok (by kernel_rfl)) ?_); repeat refine seq_on ?_)
      refine ar ⟨by omega, by omega⟩ ?_
      ((try refine And.intro (draw_ok (by kernel_rfl)) ?_); repeat refine seq_on ?_)
      refine callh [(0, 176)] c4 ?_ ?_
      · ((repeat' constructor) <;> (first | refine hold ?_ | rfl) <;> first | with_reducible rfl | (congr 1 <;> omega) | (congr 1 <;> simp; done) | (simp; done) | exact encB_snoc _ _ | skip)
      ((try refine And.intro (draw_ok (by kernel_rfl)) ?_); repeat refine seq_on ?_)
      rfl
    · rw [if_neg hc]
      unfold poD at *
      simp only at *
      unfold ints at *
      refine Does.mk (n := 58) Try.func11 rfl rfl rfl (Nat.le_of_ble_eq_true rfl) ?_
      repeat refine seq_on ?_
      refine call_by c1 ?_
      ((try refine And.intro (draw_ok (by kernel_rfl)) ?_); repeat refine seq_on ?_)
      refine call_alt (callh [] c2 ?_ ?_)
      · ((repeat' constructor) <;> (first | refine hold ?_ | rfl) <;> first | with_reducible rfl | (congr 1 <;> omega) | (congr 1 <;> simp; done) | (simp; done) | exact encB_snoc _ _ | skip)
      ((try refine And.intro (draw_ok (by kernel_rfl)) ?_); repeat refine seq_on ?_)
      refine cmp_yes (by simp) ?_
      ((try refine And.intro (draw_ok (by kernel_rfl)) ?_); repeat refine seq_on ?_)
      refine call_by c3 ?_
      refine cmp_dec (fun g1 => ?_) (fun g1 => ?_)
      · refine cmp_no (fun g2 => hc ⟨by simpa using g1, g2⟩) ?_
        ((try refine And.intro (draw_ok (by kernel_rfl)) ?_); repeat refine seq_on ?_)
        rfl
      · ((try refine And.intro (draw_ok (by kernel_rfl)) ?_); repeat refine seq_on ?_)
        rfl
end Go.Proofs.Ytiokdhklhnhfhaa

namespace Go.Proofs.Ytiokdhklhnhfhaa
variable {G : List Go.Eng.Gl}
open Go.Eng
attribute [local irreducible] Hold
set_option maxRecDepth 100000

theorem release12 (p : Po) (n : Int) (h : PoOk p) : Does (CG G) 12 [poD p, .i .i64 n] [poD (relO p n).1, .b (relO p n).2] := by
  obtain ⟨h1, h2, h3, h4, h5, h6, h7, h8, h9⟩ := h
  have hi := i64_in ⟨h1, h2, h3, h4, h5, h6, h7, h8, h9⟩
  have c1 := copied19 (G := G) p (by omega) (by omega)
  have c2 := set20 (G := G) p.bu (by omega)
  have c3 := set20 (G := G) p.id (by omega)
  have e1 : insL p.bu = p.bu := insL_nodup (lt_nodup h6)
  obtain ⟨ba, qu, se, id, bu⟩ := p
  simp only at *
  have hh : hasI (insL bu) n = decide (n ∈ bu) := by rw [e1]; rfl
  by_cases hn : n ∈ bu
  · have hni : n ∉ id := fun hx => h9 n hx hn
    have c4 := list_ins (G := G) id n h5 hni hi.1 (hi.2 n hn) (by omega)
    have c5 := list_del (G := G) bu n h6 hi.2 (by omega)
    have e : relO ⟨ba, qu, se, id, bu⟩ n = (⟨ba, qu, se, insS id n, bu.erase n⟩, true) := if_pos hn
    rw [e]
    rw [decide_eq_true hn] at hh
    unfold poD at *
    simp only at *
    unfold ints at *
    refine Does.mk (n := 32) Try.func12 rfl rfl rfl (Nat.le_of_ble_eq_true rfl) ?_
    repeat refine seq_on ?_
    refine call_by c1 ?_
    ((try refine And.intro (draw_ok (by kernel_rfl)) ?_); repeat refine seq_on ?_)
    refine call_alt (callh [] c3 ?_ ?_)
    · ((repeat' constructor) <;> (first | refine hold ?_ | rfl) <;> first | with_reducible rfl | (congr 1 <;> omega) | (congr 1 <;> simp; done) | (simp; done) | exact encB_snoc _ _ | skip)
    refine call_alt (callh [] c2 ?_ ?_)
    · ((repeat' constructor) <;> (first | refine hold ?_ | rfl) <;> first | with_reducible rfl | (congr 1 <;> omega) | (congr 1 <;> simp; done) | (simp; done) | exact encB_snoc _ _ | skip)
    ((try refine And.intro (draw_ok (by kernel_rfl)) ?_); repeat refine seq_on ?_)
    refine look_set zb zbz ?_
    rw [hh]
    ((try refine And.intro (draw_ok (by kernel_rfl)) ?_); repeat refine seq_on ?_)
    refine callh [(0, 144)] c4 ?_ ?_
    · ((repeat' constructor) <;> (first | refine hold ?_ | rfl) <;> first | with_reducible rfl | (congr 1 <;> omega) | (congr 1 <;> simp; done) | (simp; done) | exact encB_snoc _ _ | skip)
    refine callh [(0, 192)] c5 ?_ ?_
    · ((repeat' constructor) <;> (first | refine hold ?_ | rfl) <;> first | with_reducible rfl | (congr 1 <;> omega) | (congr 1 <;> simp; done) | (simp; done) | exact encB_snoc _ _ | skip)
    ((try refine And.intro (draw_ok (by kernel_rfl)) ?_); repeat refine seq_on ?_)
    rfl
  · have e : relO ⟨ba, qu, se, id, bu⟩ n = (⟨ba, qu, se, id, bu⟩, false) := if_neg hn
    rw [e]
    rw [decide_eq_false hn] at hh
    unfold poD at *
    simp only at *
    unfold ints at *
    refine Does.mk (n := 32) Try.func12 rfl rfl rfl (Nat.le_of_ble_eq_true rfl) ?_
    repeat refine seq_on ?_
    refine call_by c1 ?_
    ((try refine And.intro (draw_ok (by kernel_rfl)) ?_); repeat refine seq_on ?_)
    refine call_alt (callh [] c3 ?_ ?_)
    · ((repeat' constructor) <;> (first | refine hold ?_ | rfl) <;> first | with_reducible rfl | (congr 1 <;> omega) | (congr 1 <;> simp; done) | (simp; done) | exact encB_snoc _ _ | skip)
    refine call_alt (callh [] c2 ?_ ?_)
    · ((repeat' constructor) <;> (first | refine hold ?_ | rfl) <;> first | with_reducible rfl | (congr 1 <;> omega) | (congr 1 <;> simp; done) | (simp; done) | exact encB_snoc _ _ | skip)
    ((try refine And.intro (draw_ok (by kernel_rfl)) ?_); repeat refine seq_on ?_)
    refine look_set zb zbz ?_
    rw [hh]
    ((try refine And.intro (draw_ok (by kernel_rfl)) ?_); repeat refine seq_on ?_)
    rfl
theorem drop13 (p : Po) (n : Int) (h : PoOk p) : Does (CG G) 13 [poD p, .i .i64 n] [poD (drpO p n).1, .b (drpO p n).2] := by
  obtain ⟨h1, h2, h3, h4, h5, h6, h7, h8, h9⟩ := h
  have hi := i64_in ⟨h1, h2, h3, h4, h5, h6, h7, h8, h9⟩
  have c1 := copied19 (G := G) p (by omega) (by omega)
  have c2 := set20 (G := G) p.bu (by omega)
  have c3 := set20 (G := G) p.id (by omega)
  have e1 : insL p.bu = p.bu := insL_nodup (lt_nodup h6)
  have e2 : insL p.id = p.id := insL_nodup (lt_nodup h5)
  obtain ⟨ba, qu, se, id, bu⟩ := p
  simp only at *
  have hb : hasI (insL bu) n = decide (n ∈ bu) := by rw [e1]; rfl
  have hd : hasI (insL id) n = decide (n ∈ id) := by rw [e2]; rfl
  have c4 := list_del (G := G) id n h5 hi.1 (by omega)
  have c5 := list_del (G := G) bu n h6 hi.2 (by omega)
  by_cases hn : n ∈ bu
  · have hni : n ∉ id := fun hx => h9 n hx hn
    have e : drpO ⟨ba, qu, se, id, bu⟩ n = (⟨ba, qu, se, id, bu.erase n⟩, true) := if_pos hn
    rw [e]
    rw [decide_eq_true hn] at hb
    rw [show id.erase n = id from List.erase_of_not_mem hni] at c4
    unfold poD at *
    simp only at *
    unfold ints at *
    refine Does.mk (n := 38) Try.func13 rfl rfl rfl (Nat.le_of_ble_eq_true rfl) ?_
    repeat refine seq_on ?_
    refine call_by c1 ?_
    ((try refine And.intro (draw_ok (by kernel_rfl)) ?_); repeat refine seq_on ?_)
    refine call_alt (callh [] c3 ?_ ?_)
    · ((repeat' constructor) <;> (first | refine hold ?_ | rfl) <;> first | with_reducible rfl | (congr 1 <;> omega) | (congr 1 <;> simp; done) | (simp; done) | exact encB_snoc _ _ | skip)
    refine call_alt (callh [] c2 ?_ ?_)
    · ((repeat' constructor) <;> (first | refine hold ?_ | rfl) <;> first | with_reducible rfl | (congr 1 <;> omega) | (congr 1 <;> simp; done) | (simp; done) | exact encB_snoc _ _ | skip)
    ((try refine And.intro (draw_ok (by kernel_rfl)) ?_); repeat refine seq_on ?_)
    refine look_set zb zbz ?_
    rw [hb]
    ((try refine And.intro (draw_ok (by kernel_rfl)) ?_); repeat refine seq_on ?_)
    refine callh [(0, 144)] c4 ?_ ?_
    · ((repeat' constructor) <;> (first | refine hold ?_ | rfl) <;> first | with_reducible rfl | (congr 1 <;> omega) | (congr 1 <;> simp; done) | (simp; done) | exact encB_snoc _ _ | skip)
    refine callh [(0, 192)] c5 ?_ ?_
    · ((repeat' constructor) <;> (first | refine hold ?_ | rfl) <;> first | with_reducible rfl | (congr 1 <;> omega) | (congr 1 <;> simp; done) | (simp; done) | exact encB_snoc _ _ | skip)
    ((try refine And.intro (draw_ok (by kernel_rfl)) ?_); repeat refine seq_on ?_)
    rfl
  · by_cases hx : n ∈ id
    · have e : drpO ⟨ba, qu, se, id, bu⟩ n = (⟨ba, qu, se, id.erase n, bu⟩, true) := by unfold drpO; rw [if_neg hn, if_pos hx]
      rw [e]
      rw [decide_eq_false hn] at hb
      rw [decide_eq_true hx] at hd
      rw [show bu.erase n = bu from List.erase_of_not_mem hn] at c5
      unfold poD at *
      simp only at *
      unfold ints at *
      refine Does.mk (n := 38) Try.func13 rfl rfl rfl (Nat.le_of_ble_eq_true rfl) ?_
      repeat refine seq_on ?_
      refine call_by c1 ?_
      ((try refine And.intro (draw_ok (by kernel_rfl)) ?_); repeat refine seq_on ?_)
      refine call_alt (callh [] c3 ?_ ?_)
      · ((repeat' constructor) <;> (first | refine hold ?_ | rfl) <;> first | with_reducible rfl | (congr 1 <;> omega) | (congr 1 <;> simp; done) | (simp; done) | exact encB_snoc _ _ | skip)
      refine call_alt (callh [] c2 ?_ ?_)
      · ((repeat' constructor) <;> (first | refine hold ?_ | rfl) <;> first | with_reducible rfl | (congr 1 <;> omega) | (congr 1 <;> simp; done) | (simp; done) | exact encB_snoc _ _ | skip)
      ((try refine And.intro (draw_ok (by kernel_rfl)) ?_); repeat refine seq_on ?_)
      refine look_set zb zbz ?_
      rw [hb]
      refine look_set zb zbz ?_
      rw [hd]
      ((try refine And.intro (draw_ok (by kernel_rfl)) ?_); repeat refine seq_on ?_)
      refine callh [(0, 144)] c4 ?_ ?_
      · ((repeat' constructor) <;> (first | refine hold ?_ | rfl) <;> first | with_reducible rfl | (congr 1 <;> omega) | (congr 1 <;> simp; done) | (simp; done) | exact encB_snoc _ _ | skip)
      refine callh [(0, 192)] c5 ?_ ?_
      · ((repeat' constructor) <;> (first | refine hold ?_ | rfl) <;> first | with_reducible rfl | (congr 1 <;> omega) | (congr 1 <;> simp; done) | (simp; done) | exact encB_snoc _ _ | skip)
      ((try refine And.intro (draw_ok (by kernel_rfl)) ?_); repeat refine seq_on ?_)
      rfl
    · have e : drpO ⟨ba, qu, se, id, bu⟩ n = (⟨ba, qu, se, id, bu⟩, false) := by unfold drpO; rw [if_neg hn, if_neg hx]
      rw [e]
      rw [decide_eq_false hn] at hb
      rw [decide_eq_false hx] at hd
      unfold poD at *
      simp only at *
      unfold ints at *
      refine Does.mk (n := 38) Try.func13 rfl rfl rfl (Nat.le_of_ble_eq_true rfl) ?_
      repeat refine seq_on ?_
      refine call_by c1 ?_
      ((try refine And.intro (draw_ok (by kernel_rfl)) ?_); repeat refine seq_on ?_)
      refine call_alt (callh [] c3 ?_ ?_)
      · ((repeat' constructor) <;> (first | refine hold ?_ | rfl) <;> first | with_reducible rfl | (congr 1 <;> omega) | (congr 1 <;> simp; done) | (simp; done) | exact encB_snoc _ _ | skip)
      refine call_alt (callh [] c2 ?_ ?_)
      · ((repeat' constructor) <;> (first | refine hold ?_ | rfl) <;> first | with_reducible rfl | (congr 1 <;> omega) | (congr 1 <;> simp; done) | (simp; done) | exact encB_snoc _ _ | skip)
      ((try refine And.intro (draw_ok (by kernel_rfl)) ?_); repeat refine seq_on ?_)
      refine look_set zb zbz ?_
      rw [hb]
      refine look_set zb zbz ?_
      rw [hd]
      ((try refine And.intro (draw_ok (by kernel_rfl)) ?_); repeat refine seq_on ?_)
      rfl

/-! The reference's lists -/
theorem without32 (l : List Int) (k : Nat) (hk : k < l.length) (hl : l.length ≤ 1000000) : Does (CG G) 32 [ints l, .i .i64 (k : Int)] [ints (l.take k ++ l.drop (k + 1))] := by
  have hlen : (l.map (D.i .i64)).length = l.length := by simp
  unfold ints
  refine Does.mk (n := 15) Try.func32 rfl rfl rfl (Nat.le_of_ble_eq_true rfl) ?_
  repeat refine seq_on ?_
  refine bnd k rfl (by omega) ?_
  refine app_ok (by simp; omega) ?_
  refine ar ⟨by omega, by omega⟩ ?_
  refine bnd (k + 1) (by omega) (by omega) ?_
  refine app_ok (by simp; omega) ?_
  ((try refine And.intro (draw_ok (by kernel_rfl)) ?_); repeat refine seq_on ?_)
  refine fin_eq ?_
  simp [List.map_take, List.map_drop]
theorem insert33 (l : List Int) (n : Int) (hl : l.length ≤ 1000000) : Does (CG G) 33 [ints l, .i .i64 n] [ints (insS l n)] := by
  have hlen : (l.map (D.i .i64)).length = l.length := by simp
  have fin : ∀ k : Nat, k ≤ l.length → (∀ j, j < k → l.getD j 0 < n) → (k = l.length ∨ ¬ l.getD k 0 < n) → (l.map (D.i .i64)).take k ++ [D.i .i64 n] ++ (l.map (D.i .i64)).drop k = (insS l n).map (D.i .i64) := by
    intro k h1 h2 h3
    rw [insS_at k h1 h2 h3]
    simp [List.map_take, List.map_drop]
  unfold ints
  refine Does.mk (n := 32) Try.func33 rfl rfl rfl (Nat.le_of_ble_eq_true rfl) ?_
  repeat refine seq_on ?_
  apply loop_inv (fun i : Nat => i ≤ l.length ∧ ∀ j, j < i → l.getD j 0 < n) (fun i => ⟨[(0, .d (.sl 1 (l.map (.i .i64)))), (1, .d (.i .i64 n)), (5, .d (.i .i64 (i : Int)))], [], 2⟩) (fun i => l.length - i) 0 ⟨Nat.zero_le _, fun j hj => by omega⟩ []
  · ((repeat' constructor) <;> (first | refine hold ?_ | rfl) <;> first | with_reducible rfl | (congr 1 <;> omega) | (congr 1 <;> simp; done) | (simp; done) | exact encB_snoc _ _ | skip)
  · rintro i ⟨hi, hn⟩
    repeat refine seq_on ?_
    refine cmp_dec (fun h1 => ?_) (fun h1 => ?_)
    · have hi' : i < l.length := by omega
      refine Eng.get_at i rfl (getInts hi') ?_
      refine cmp_dec (fun h2 => ?_) (fun h2 => ?_)
      · ((try refine And.intro (draw_ok (by kernel_rfl)) ?_); repeat refine seq_on ?_)
        refine ar ⟨by omega, by omega⟩ ?_
        apply again (i + 1) [] ⟨by omega, fun j hj => by
          by_cases hji : j < i
          · exact hn j hji
          · obtain rfl : j = i := by omega
            exact h2⟩ (by omega)
        ((repeat' constructor) <;> (first | refine hold ?_ | rfl) <;> first | with_reducible rfl | (congr 1 <;> omega) | (congr 1 <;> simp; done) | (simp; done) | exact encB_snoc _ _ | skip)
      · ((try refine And.intro (draw_ok (by kernel_rfl)) ?_); repeat refine seq_on ?_)
        refine bnd i rfl (by omega) ?_
        refine app_ok (by simp; omega) ?_
        refine app_ok (by simp; omega) ?_
        refine bnd i rfl (by omega) ?_
        refine app_ok (by simp; omega) ?_
        ((try refine And.intro (draw_ok (by kernel_rfl)) ?_); repeat refine seq_on ?_)
        refine fin_eq ?_
        rw [← fin i hi hn (.inr h2)]
        simp
    · obtain rfl : i = l.length := by omega
      ((try refine And.intro (draw_ok (by kernel_rfl)) ?_); repeat refine seq_on ?_)
      refine bnd l.length rfl (by omega) ?_
      refine app_ok (by simp; omega) ?_
      refine app_ok (by simp; omega) ?_
      refine bnd l.length rfl (by omega) ?_
      refine app_ok (by simp; omega) ?_
      ((try refine And.intro (draw_ok (by kernel_rfl)) ?_); repeat refine seq_on ?_)
      refine fin_eq ?_
      rw [← fin l.length (Nat.le_refl _) hn (.inl rfl)]
      simp
theorem idxOf_le_of (l : List Int) (n : Int) : ∀ j : Nat, j < l.length → l.getD j 0 = n → l.idxOf n ≤ j := by
  induction l with
  | nil => intro j h; simp at h
  | cons a l ih =>
    intro j hj h
    rw [List.idxOf_cons]
    by_cases ha : a = n
    · simp [ha]
    · rw [show (a == n) = false by simpa using ha]
      cases j with
      | zero => exact absurd (by simpa using h) ha
      | succ j =>
        have := ih j (by simpa using hj) (by simpa using h)
        simp only [cond_false]
        omega
theorem place30 (l : List Int) (n : Int) (hl : l.length ≤ 1000000) : (n ∉ l ∧ Does (CG G) 30 [ints l, .i .i64 n] [.i .i64 (-1)]) ∨ (∃ k : Nat, k < l.length ∧ n ∈ l ∧ l.erase n = l.take k ++ l.drop (k + 1) ∧ Does (CG G) 30 [ints l, .i .i64 n] [.i .i64 (k : Int)]) := by
  have hlen : (l.map (D.i .i64)).length = l.length := by simp
  have key : ∃ i : Int, ∀ k : Nat, (k = l.length → (∀ j, j < k → l.getD j 0 ≠ n) → i = -1) ∧ (l[k]? = some n → (∀ j, j < k → l.getD j 0 ≠ n) → i = k) := by
    by_cases hm : n ∈ l
    · refine ⟨(l.idxOf n : Nat), fun k => ⟨fun h h2 => ?_, fun h1 h2 => ?_⟩⟩
      · obtain ⟨j, hj, he⟩ := List.getElem_of_mem hm
        exact absurd (by simpa [hj] using he) (h2 j (by omega))
      · have hk : k < l.length := (List.getElem?_eq_some_iff.1 h1).1
        have hnt : n ∉ l.take k := by
          intro hx
          obtain ⟨j, hj, he⟩ := List.getElem_of_mem hx
          have hj2 : j < k := by simp at hj; omega
          exact h2 j hj2 (by simpa [show j < l.length by omega] using he)
        have h3 : l = l.take k ++ l.drop k := (List.take_append_drop k l).symm
        have h4 : l.drop k = n :: l.drop (k + 1) := by rw [List.drop_eq_getElem_cons hk]; rw [List.getElem?_eq_getElem hk] at h1; cases h1; rfl
        have : l.idxOf n = k := by
          rw [h3, List.idxOf_append, if_neg hnt, h4, List.idxOf_cons_self]; simp; omega
        rw [this]
    · exact ⟨-1, fun k => ⟨fun _ _ => rfl, fun h1 _ => absurd (List.mem_of_getElem? h1) hm⟩⟩
  obtain ⟨r, hk⟩ := key
  have hdo : Does (CG G) 30 [ints l, .i .i64 n] [.i .i64 r] := by
    unfold ints
    refine Does.mk (n := 19) Try.func30 rfl rfl rfl (Nat.le_of_ble_eq_true rfl) ?_
    repeat refine seq_on ?_
    apply loop_inv (fun i : Nat => i ≤ l.length ∧ ∀ j, j < i → l.getD j 0 ≠ n) (fun i => ⟨[(0, .d (.sl 1 (l.map (.i .i64)))), (1, .d (.i .i64 n)), (5, .d (.i .i64 (i : Int)))], [], 2⟩) (fun i => l.length - i) 0 ⟨Nat.zero_le _, fun j hj => by omega⟩ []
    · ((repeat' constructor) <;> (first | refine hold ?_ | rfl) <;> first | with_reducible rfl | (congr 1 <;> omega) | (congr 1 <;> simp; done) | (simp; done) | exact encB_snoc _ _ | skip)
    · rintro i ⟨hi, hn⟩
      repeat refine seq_on ?_
      refine cmp_dec (fun h1 => ?_) (fun h1 => ?_)
      · have hi' : i < l.length := by omega
        repeat refine seq_on ?_
        refine Eng.get_at i rfl (getInts hi') ?_
        refine cmp_dec (fun h2 => ?_) (fun h2 => ?_)
        · have h2 : l.getD i 0 = n := h2
          ((try refine And.intro (draw_ok (by kernel_rfl)) ?_); repeat refine seq_on ?_)
          refine fin_eq ?_
          rw [(hk i).2 (by rw [← h2]; simp [hi']) hn]
        · ((try refine And.intro (draw_ok (by kernel_rfl)) ?_); repeat refine seq_on ?_)
          refine ar ⟨by omega, by omega⟩ ?_
          apply again (i + 1) [] ⟨by omega, fun j hj => by
            by_cases hji : j < i
            · exact hn j hji
            · obtain rfl : j = i := by omega
              exact h2⟩ (by omega)
          ((repeat' constructor) <;> (first | refine hold ?_ | rfl) <;> first | with_reducible rfl | (congr 1 <;> omega) | (congr 1 <;> simp; done) | (simp; done) | exact encB_snoc _ _ | skip)
      · obtain rfl : i = l.length := by omega
        ((try refine And.intro (draw_ok (by kernel_rfl)) ?_); repeat refine seq_on ?_)
        refine fin_eq ?_
        rw [(hk l.length).1 rfl hn]
  by_cases hm : n ∈ l
  · right
    refine ⟨l.idxOf n, List.idxOf_lt_length_of_mem hm, hm, ?_, ?_⟩
    · refine erase_at _ (fun j hj he => ?_) (by rw [List.getElem?_eq_getElem (List.idxOf_lt_length_of_mem hm)]; simp)
      have hjl : j < l.length := Nat.lt_trans hj (List.idxOf_lt_length_of_mem hm)
      have := idxOf_le_of l n j hjl he
      omega
    · have := (hk (l.idxOf n)).2 (by rw [List.getElem?_eq_getElem (List.idxOf_lt_length_of_mem hm)]; simp) (fun j hj he => ?_)
      · rw [← this]; exact hdo
      · have hjl : j < l.length := Nat.lt_trans hj (List.idxOf_lt_length_of_mem hm)
        have := idxOf_le_of l n j hjl he
        omega
  · left
    have := (hk l.length).1 rfl (fun j hj he => hm (by rw [← he]; simp [hj]))
    rw [this] at hdo
    exact ⟨hm, hdo⟩
end Go.Proofs.Ytiokdhklhnhfhaa

