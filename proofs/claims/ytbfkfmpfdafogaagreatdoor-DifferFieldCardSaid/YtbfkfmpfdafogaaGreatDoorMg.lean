import Derived.Test.YtbfkfmpfdafogaaGreatDoorMf
import Derived.Test.YtbfkfmpfdafogaaGreatDoorJoin
namespace Go.Proofs.YtbfkfmpfdafogaaGreatDoor
variable {G : List Go.Eng.Gl}
open Go.Eng
open Go.RowKit (Below)
attribute [local irreducible] Hold

/-! ### Joins -/

def joinF (l : List (List UInt8)) (sep : List UInt8) : List UInt8 := Lib.join l sep

theorem join58 (l : List (List UInt8)) (sep : List UInt8) (h : l.length ≤ 140737488355328) (h1 : (joinF l sep).length ≤ 140737488355328) : Does (CG G) 32 [strs l, .s sep] [.s (joinF l sep)] := by
  refine ⟨⟨_, Tryz.func32, rfl, rfl⟩, fun w X vs hX hG hl hd => ?_⟩
  obtain ⟨vs⟩ := vs
  match vs, hl, hd with
  | [a, b], _, hd =>
    have ha := hd 0 _ a rfl rfl
    have hb := (hd 1 _ b rfl rfl).sinv
    subst hb
    generalize hxs : l.map D.s = xs at ha
    unfold strs at ha
    rw [hxs] at ha
    cases ha with
    | slnil =>
      have : l = [] := by
        cases l with
        | nil => rfl
        | cons => simp at hxs
      subst this
      refine (Tryz.strings_Join_none none 0 _ w).mono fun e w' hh => ?_
      obtain ⟨rfl, rfl⟩ := hh
      exact ⟨_, rfl, .d _ _ (.s _), Below.refl _ _⟩
    | sle _ a cap =>
      have : l = [] := by
        cases l with
        | nil => rfl
        | cons => simp at hxs
      subst this
      refine (Tryz.strings_Join_none (some a) cap _ w).mono fun e w' hh => ?_
      obtain ⟨rfl, rfl⟩ := hh
      exact ⟨_, rfl, .d _ _ (.s _), Below.refl _ _⟩
    | sl _ _ blk off n cap arr T fz f hh hx hl' hc hw h2 h3 =>
      subst hxs
      have hm : (l.map fun x => ByteArray.mk x.toArray).map (fun x => x.data.toList) = l := by
        rw [List.map_map]
        conv => rhs; rw [← List.map_id l]
        exact List.map_congr_left fun x _ => rfl
      have hbk : blk < w.heap.size := (Array.getElem?_eq_some_iff.1 hh).1
      have := Tryz.strings_Join blk off cap (l.map fun x => ⟨x.toArray⟩) ⟨sep.toArray⟩ w (fun j x hj => by
        simp only [List.getElem?_map, Option.map_eq_some_iff] at hj
        obtain ⟨y, hy, rfl⟩ := hj
        have g1 := h2 j 0 (.s y) (.s y) (by simp [hy]) rfl
        have g2 := (h3 j 0 (.s y) (.s y) (by simp [hy]) rfl).sinv
        rw [cell_of hh]
        simp only [Nat.mul_one, Nat.add_zero] at g1
        rw [g1, g2]) hbk (by simpa using h) (by simp at hl' ⊢; omega) (by rw [hm]; exact h1)
      rw [hm] at this
      have hlen : n = (l.map fun x => ByteArray.mk x.toArray).length := by simp at hl' ⊢; omega
      subst hlen
      refine this.mono fun e w' hh' => ?_
      obtain ⟨rfl, hB⟩ := hh'
      exact ⟨_, rfl, .d _ _ (.s _), hB⟩

theorem join_snoc (l : List (List UInt8)) (x sep : List UInt8) : joinF (l ++ [x]) sep = if l = [] then x else joinF l sep ++ sep ++ x := by
  unfold joinF Lib.join
  induction l with
  | nil => simp [List.intercalate]
  | cons y l ih =>
    cases l with
    | nil => simp [List.intercalate]
    | cons z l =>
      simp only [reduceCtorEq, if_false] at ih ⊢
      have e : ∀ (r : List (List UInt8)) , r ≠ [] → sep.intercalate (y :: r) = y ++ sep ++ sep.intercalate r := by
        intro r hr
        cases r with
        | nil => exact absurd rfl hr
        | cons a r => simp [List.intercalate]
      rw [List.cons_append, e _ (by simp), ih, e _ (by simp)]
      simp

def f59s (l : List (List UInt8)) (sep : List UInt8) (i : Nat) : AS := ⟨[(0, .d (strs l)), (1, .d (.s sep)), (5, .d (.s (joinF (l.take i) sep))), (6, .d (.i .i64 (i : Int)))], [], 1⟩
theorem take_snoc' {α : Type} (d : α) {l : List α} {i : Nat} (h : i < l.length) : l.take (i + 1) = l.take i ++ [l.getD i d] := by
  rw [List.take_add_one, List.getElem?_eq_getElem h]; simp [h]
theorem join_mono (l : List (List UInt8)) (sep : List UInt8) (i : Nat) : (joinF (l.take i) sep).length ≤ (joinF l sep).length := by
  have key : ∀ (a b : List (List UInt8)), (joinF a sep).length ≤ (joinF (a ++ b) sep).length := by
    intro a b
    induction b generalizing a with
    | nil => simp
    | cons x b ih =>
      have := ih (a ++ [x])
      rw [List.append_assoc, List.singleton_append] at this
      refine Nat.le_trans ?_ this
      rw [join_snoc]
      split
      · rename_i h; subst h; simp [joinF, Lib.join, List.intercalate]
      · simp only [List.length_append]; omega
  have := key (l.take i) (l.drop i)
  rwa [List.take_append_drop] at this
theorem get_strs {l : List (List UInt8)} {i : Nat} (h : i < l.length) : (l.map D.s)[i]? = some (.s (l.getD i [])) := by simp [h]

theorem join59 (l : List (List UInt8)) (sep : List UInt8) (h : l.length ≤ 140737488355328) (h1 : (joinF l sep).length ≤ 140737488355328) : Does (CG G) 40 [strs l, .s sep] [.s (joinF l sep)] := by
  refine Does.mk (n := 25) Tryz.func40 rfl rfl rfl (Nat.le_of_ble_eq_true rfl) ?_
  repeat refine seq_on ?_
  apply loop_inv (fun i => i ≤ l.length) (f59s l sep) (fun i => l.length - i) 0 (Nat.zero_le _) []
  · ((repeat' constructor) <;> (first | refine hold ?_ | rfl) <;> first | with_reducible rfl | (congr 1 <;> omega) | (congr 1 <;> simp; done) | (simp; done) | exact encB_snoc _ _ | skip)
  intro i hi
  have hml : (l.map D.s).length = l.length := List.length_map _
  repeat refine seq_on ?_
  refine cmp_dec (fun h2 => ?_) (fun h2 => ?_)
  · have hi' : i < l.length := by omega
    have hm := join_mono l sep (i + 1)
    have hs := take_snoc' [] hi'
    have hj := join_snoc (l.take i) (l.getD i []) sep
    repeat refine seq_on ?_
    refine cmp_dec (fun h3 => ?_) (fun h3 => ?_)
    · have hne : l.take i ≠ [] := by
        intro h
        have := congrArg List.length h
        rw [List.length_take, List.length_nil] at this; omega
      rw [if_neg hne, ← hs] at hj
      have hA : (joinF (l.take i) sep).length + sep.length + (l.getD i []).length ≤ (joinF l sep).length := by
        rw [hj, List.length_append, List.length_append] at hm; exact hm
      refine len_ok (by omega) ?_
      refine Eng.get_at i rfl (get_strs hi') ?_
      refine len_ok (by simp only [List.length_append]; omega) ?_
      refine ar ⟨by omega, by omega⟩ ?_
      apply again (i + 1) [] (by omega) (by omega)
      ((repeat' constructor) <;> (first | refine hold ?_ | rfl) <;> first | with_reducible rfl | (congr 1 <;> omega) | (congr 1 <;> simp; done) | (simp; done) | exact encB_snoc _ _ | skip)
      exact congrArg D.s hj.symm
    · have h0 : i = 0 := by omega
      subst h0
      rw [List.take_zero, if_pos rfl] at hj
      rw [hs, List.take_zero, hj] at hm
      refine Eng.get_at 0 rfl (get_strs hi') ?_
      have z : (joinF (l.take 0) sep).length = 0 := rfl
      refine len_ok (by rw [z]; omega) ?_
      refine ar ⟨by omega, by omega⟩ ?_
      apply again 1 [] (by omega) (by omega)
      ((repeat' constructor) <;> (first | refine hold ?_ | rfl) <;> first | with_reducible rfl | (congr 1 <;> omega) | (congr 1 <;> simp; done) | (simp; done) | exact encB_snoc _ _ | skip)
      refine congrArg D.s ?_
      rw [hs, List.take_zero, hj]; rfl
  · repeat refine seq_on ?_
    rw [List.take_of_length_le (by omega)]
    exact rfl

/-! ### Array, Object -/

def arrF (l : List (List UInt8)) : List UInt8 := ([91] ++ joinF l [44]) ++ [93]
def pairD (p : List UInt8 × List UInt8) : D := .agg [.s p.1, .s p.2]
def pairs (l : List (List UInt8 × List UInt8)) : D := .sl 2 (l.map pairD)
def memF (p : List UInt8 × List UInt8) : List UInt8 := (quoteF p.1 ++ [58]) ++ p.2
def objF (l : List (List UInt8 × List UInt8)) : List UInt8 := ([123] ++ joinF (l.map memF) [44]) ++ [125]
theorem get_pair {l : List (List UInt8 × List UInt8)} {i : Nat} (h : i < l.length) : (l.map pairD)[i]? = some (.agg [.s (l.getD i ([], [])).1, .s (l.getD i ([], [])).2]) := by
  simp [h, pairD]

def f30s (l : List (List UInt8 × List UInt8)) (i : Nat) : AS := ⟨[(0, .d (pairs l)), (3, .os 16), (6, .d (pairs l)), (7, .d (.i .i64 (l.length : Int))), (8, .d (.i .i64 (i : Int)))], [(16, some (.buf 1 (((l.take i).map memF).map .s)))], 60⟩
theorem mem_step {l : List (List UInt8 × List UInt8)} {i : Nat} (h : i < l.length) : ((l.take i).map memF).map D.s ++ [.s (memF (l.getD i ([], [])))] = ((l.take (i + 1)).map memF).map D.s := by
  rw [take_snoc' ([], []) h]; simp

def f31s (l : List (List UInt8 × List UInt8)) (i : Nat) : AS := ⟨[(0, .d (pairs l)), (3, .os 16), (4, .d (.i .i64 (i : Int)))], [(16, some (.buf 1 (((l.take i).map memF).map .s)))], 60⟩
end Go.Proofs.YtbfkfmpfdafogaaGreatDoor

namespace Go.Proofs.YtbfkfmpfdafogaaGreatDoor
variable {G : List Go.Eng.Gl}
open Go.Eng
attribute [local irreducible] Hold

theorem quo_ok : ∀ c : Fin 256, ∀ x, x ∈ quo (UInt8.ofNat c.val) → 32 ≤ x.toNat ∧ x.toNat ≤ 126 := by decide +kernel
theorem quo_range (c x : UInt8) (h : x ∈ quo c) : 32 ≤ x.toNat ∧ x.toNat ≤ 126 := by
  have := quo_ok ⟨c.toNat, c.toNat_lt⟩ x
  simp only [UInt8.ofNat_toNat] at this
  exact this h
theorem quoteF_range (s : List UInt8) (x : UInt8) (h : x ∈ quoteF s) : 32 ≤ x.toNat ∧ x.toNat ≤ 126 := by
  unfold quoteF at h
  rcases List.mem_append.1 h with h | h
  · rcases List.mem_cons.1 h with rfl | h
    · decide
    · unfold quos at h
      obtain ⟨l, hl, hx⟩ := List.mem_flatten.1 h
      obtain ⟨c, _, rfl⟩ := List.mem_map.1 hl
      exact quo_range c x hx
  · rcases List.mem_cons.1 h with rfl | h
    · decide
    · cases h
theorem quoteF_len (s : List UInt8) : (quoteF s).length ≤ 6 * s.length + 2 := by
  have := quos_len s
  unfold quoteF
  simp only [List.length_append, List.length_cons, List.length_nil]; omega

theorem pairs_ok : ∀ p, p ∈ [(([97] : List UInt8), ([49] : List UInt8)), ([98], quoteF [120])] → p.1.length ≤ 1099511627 ∧ p.2.length ≤ 140737488355328 := by
  intro p hp
  rcases List.mem_cons.1 hp with rfl | hp
  · exact ⟨Nat.le_of_ble_eq_true rfl, Nat.le_of_ble_eq_true rfl⟩
  · rcases List.mem_cons.1 hp with rfl | hp
    · exact ⟨Nat.le_of_ble_eq_true rfl, Nat.le_of_ble_eq_true rfl⟩
    · cases hp

def f9s (a b : List UInt8) (i : Nat) : AS := ⟨[(0, .d (.s a)), (1, .d (.s b)), (5, .d (.s (quoteF a))), (6, .d (.i .i64 (i : Int)))], [], 1⟩
theorem unq_zero {s : List UInt8} (h : (unqF s).2 = 0) : quoteF (unqF s).1 = s := by
  by_cases hx : ∃ o, quoteF o = s
  · obtain ⟨o, rfl⟩ := hx
    rw [unq_yes]
  · rw [unq_no (fun o ho => hx ⟨o, ho⟩)] at h
    cases h

theorem join_len (sep : List UInt8) (k : Nat) : ∀ (l : List (List UInt8)), (∀ x, x ∈ l → x.length ≤ k) → (joinF l sep).length ≤ l.length * (k + sep.length)
  | [], _ => by simp [joinF, Lib.join, List.intercalate]
  | [x], h => by
    have := h x (by simp)
    simp [joinF, Lib.join, List.intercalate]; omega
  | x :: y :: l, h => by
    have h1 := join_len sep k (y :: l) fun z hz => h z (List.mem_cons_of_mem _ hz)
    have h2 := h x (by simp)
    have e : joinF (x :: y :: l) sep = x ++ sep ++ joinF (y :: l) sep := by simp [joinF, Lib.join, List.intercalate]
    rw [e]
    simp only [List.length_append, List.length_cons, Nat.add_mul, Nat.one_mul] at h1 ⊢
    omega

end Go.Proofs.YtbfkfmpfdafogaaGreatDoor

