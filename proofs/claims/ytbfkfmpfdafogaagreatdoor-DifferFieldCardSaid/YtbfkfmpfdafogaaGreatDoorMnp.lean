import Derived.Test.YtbfkfmpfdafogaaGreatDoorMno
import Derived.Test.YtbfkfmpfdafogaaGreatDoorMg
import Derived.Maps.RangeWalk
import Derived.Maps.AppendAt
import Derived.Maps.OwnOps
import Derived.Sort.EncStr
import Derived.WalkKit
import Derived.Test.YtbfkfmpfdafogaaGreatDoorSortS
import Derived.Test.YtbfkfmpfdafogaaGreatDoorSortF
import Derived.Shelf.SlSortCmp.NoneTotal
import Derived.Laws.StructEq
namespace Go.Proofs.YtbfkfmpfdafogaaGreatDoor
open Go.Eng
set_option maxRecDepth 100000

/-! Lists of names in ascending order, each once; fields grouped by their names. -/
abbrev Nm := List UInt8

theorem nm_irr (a : Nm) : ¬ a < a := List.lt_irrefl a
theorem nm_tr {a b c : Nm} (h : a < b) (h' : b < c) : a < c := List.lt_trans h h'
theorem nm_as {a b : Nm} (h : ¬ a < b) (h' : ¬ b < a) : a = b := List.le_antisymm h' h
theorem nm_tri (a b : Nm) : a < b ∨ a = b ∨ b < a := by
  by_cases h : a < b
  · exact .inl h
  · by_cases h' : b < a
    · exact .inr (.inr h')
    · exact .inr (.inl (nm_as h h'))

def wiF : List Nm → Nm → List Nm
  | [], s => [s]
  | x :: r, s => if x < s then x :: wiF r s else if x = s then x :: r else s :: x :: r
def Asc (l : List Nm) : Prop := l.Pairwise (· < ·)
theorem mem_wiF {l : List Nm} {s x : Nm} : x ∈ wiF l s ↔ x = s ∨ x ∈ l := by
  induction l with
  | nil => simp [wiF]
  | cons y r ih =>
    unfold wiF
    split
    · simp only [List.mem_cons, ih]
      constructor
      · rintro (h | h | h) <;> simp [h]
      · rintro (h | h | h) <;> simp [h]
    · split
      · rename_i h; subst h
        simp
      · simp
theorem wiF_asc {l : List Nm} (h : Asc l) (s : Nm) : Asc (wiF l s) := by
  induction l with
  | nil => simp [wiF, Asc]
  | cons y r ih =>
    obtain ⟨h1, h2⟩ := List.pairwise_cons.1 h
    unfold wiF
    split
    · rename_i hy
      refine List.pairwise_cons.2 ⟨fun x hx => ?_, ih h2⟩
      rcases mem_wiF.1 hx with rfl | hx
      · exact hy
      · exact h1 x hx
    · rename_i hy
      split
      · exact h
      · rename_i hne
        have hsy : s < y := by
          rcases nm_tri s y with h | h | h
          · exact h
          · exact absurd h.symm hne
          · exact absurd h hy
        refine List.pairwise_cons.2 ⟨fun x hx => ?_, h⟩
        rcases List.mem_cons.1 hx with rfl | hx
        · exact hsy
        · exact nm_tr hsy (h1 x hx)
theorem wiF_len (l : List Nm) (s : Nm) : (wiF l s).length ≤ l.length + 1 := by
  induction l with
  | nil => simp [wiF]
  | cons y r ih =>
    unfold wiF
    split
    · simp only [List.length_cons]; omega
    · split <;> simp
def distF (p : List Nm) : List Nm := p.foldl wiF []
theorem distF_snoc (p : List Nm) (s : Nm) : distF (p ++ [s]) = wiF (distF p) s := by simp [distF, List.foldl_append]
theorem distF_from (p : List Nm) : ∀ (a : List Nm), Asc a → Asc (p.foldl wiF a) ∧ ∀ x, x ∈ p.foldl wiF a ↔ x ∈ a ∨ x ∈ p := by
  induction p with
  | nil => intro a h; exact ⟨h, by simp⟩
  | cons y r ih =>
    intro a h
    obtain ⟨h1, h2⟩ := ih (wiF a y) (wiF_asc h y)
    refine ⟨h1, fun x => ?_⟩
    rw [List.foldl_cons, h2, mem_wiF, List.mem_cons]
    constructor
    · rintro ((h | h) | h) <;> simp [h]
    · rintro (h | h | h) <;> simp [h]
theorem distF_asc (p : List Nm) : Asc (distF p) := (distF_from p [] List.Pairwise.nil).1
theorem mem_distF {p : List Nm} {x : Nm} : x ∈ distF p ↔ x ∈ p := by
  have := (distF_from p [] List.Pairwise.nil).2 x
  simpa [distF] using this
theorem distF_len (p : List Nm) : (distF p).length ≤ p.length := by
  have : ∀ (p a : List Nm), (p.foldl wiF a).length ≤ a.length + p.length := by
    intro p
    induction p with
    | nil => intro a; simp
    | cons y r ih =>
      intro a
      have h1 := ih (wiF a y)
      have h2 := wiF_len a y
      simp only [List.foldl_cons, List.length_cons]; omega
  simpa [distF] using this p []
/-- Two ascending lists with the same members are one. -/
theorem asc_ext : ∀ {a b : List Nm}, Asc a → Asc b → (∀ x, x ∈ a ↔ x ∈ b) → a = b
  | [], [], _, _, _ => rfl
  | [], y :: r, _, _, h => absurd ((h y).2 (by simp)) (by simp)
  | x :: l, [], _, _, h => absurd ((h x).1 (by simp)) (by simp)
  | x :: l, y :: r, ha, hb, h => by
    obtain ⟨a1, a2⟩ := List.pairwise_cons.1 ha
    obtain ⟨b1, b2⟩ := List.pairwise_cons.1 hb
    have e : x = y := by
      rcases List.mem_cons.1 ((h x).1 (by simp)) with e | hx
      · exact e
      · rcases List.mem_cons.1 ((h y).2 (by simp)) with e | hy
        · exact e.symm
        · exact absurd (nm_tr (a1 y hy) (b1 x hx)) (nm_irr x)
    subst e
    congr 1
    refine asc_ext a2 b2 fun z => ⟨fun hz => ?_, fun hz => ?_⟩
    · rcases List.mem_cons.1 ((h z).1 (by simp [hz])) with e | h
      · exact absurd (e ▸ a1 z hz) (nm_irr _)
      · exact h
    · rcases List.mem_cons.1 ((h z).2 (by simp [hz])) with e | h
      · exact absurd (e ▸ b1 z hz) (nm_irr _)
      · exact h
theorem distF_self {l : List Nm} (h : Asc l) : distF l = l := asc_ext (distF_asc l) h fun _ => mem_distF
theorem asc_nodup {l : List Nm} (h : Asc l) : l.Nodup := h.imp fun {a b} (hab : a < b) (e : a = b) => by subst e; exact nm_irr _ hab

/-- The values of a name, in their order. -/
def valsP (n : Nm) (p : List Fld) : List (List UInt8) := (p.filter fun f => decide (f.1 = n)).map (·.2)
theorem valsP_snoc (n : Nm) (p : List Fld) (f : Fld) : valsP n (p ++ [f]) = if f.1 = n then valsP n p ++ [f.2] else valsP n p := by
  unfold valsP
  rw [List.filter_append]
  by_cases h : f.1 = n <;> simp [h, List.filter]
theorem valsP_len (n : Nm) (p : List Fld) : (valsP n p).length ≤ p.length := by
  unfold valsP; rw [List.length_map]; exact List.length_filter_le _ _
theorem valsP_none {n : Nm} {p : List Fld} (h : ∀ f ∈ p, f.1 ≠ n) : valsP n p = [] := by
  unfold valsP
  rw [List.filter_eq_nil_iff.2 fun f hf => by simpa using h f hf]
  rfl
theorem valsP_pos {n : Nm} {p : List Fld} (f : Fld) (h : f ∈ p) (e : f.1 = n) : 0 < (valsP n p).length := by
  unfold valsP
  rw [List.length_map]
  exact List.length_pos_of_mem (List.mem_filter.2 ⟨h, by simp [e]⟩)
def sepF : List UInt8 := [44, 32]
def rowF (p : List Fld) (n : Nm) : Fld := (n, joinF (valsP n p) sepF)
/-- Fields grouped by their names. -/
def groupF (p : List Fld) : List Fld := (distF (p.map (·.1))).map (rowF p)
def prs (k : List Fld) : List Fld := k.map fun f => (lowF f.1, f.2)
def viaN : List UInt8 := [86, 105, 97]
def dateN : List UInt8 := [68, 97, 116, 101]
def keptF (l : List Fld) (ign : List (List UInt8)) : List Fld := woF (viaN :: dateN :: ign) (stripF l)
def normF (l : List Fld) (ign : List (List UInt8)) : List Fld := groupF (prs (keptF l ign))

/-- Rows in any order of their names, then sorted by them. -/
theorem sorted_group {p r : List Fld} {os : List Nm} (hr : r.Perm (os.map (rowF p))) (hn : os.Nodup) (hm : ∀ x, x ∈ os ↔ x ∈ p.map (·.1)) (hs : r.Pairwise fun a b => ¬ b.1 < a.1) : r = groupF p := by
  have h1 : (r.map (·.1)).Perm os := by
    have := hr.map (·.1)
    rw [List.map_map] at this
    simpa [Function.comp_def, rowF] using this
  have h2 : Asc (r.map (·.1)) := by
    unfold Asc
    have hd : (r.map (·.1)).Pairwise (· ≠ ·) := h1.nodup_iff.2 hn
    rw [List.pairwise_map] at hd ⊢
    refine (hs.and hd).imp fun {a b} ⟨h3, h4⟩ => ?_
    rcases nm_tri a.1 b.1 with h | h | h
    · exact h
    · exact absurd h h4
    · exact absurd h h3
  have h3 : r.map (·.1) = distF (p.map (·.1)) := asc_ext h2 (distF_asc _) fun x => by rw [h1.mem_iff, hm, mem_distF]
  unfold groupF
  rw [← h3, List.map_map]
  refine (List.map_id r).symm.trans (List.map_congr_left fun x hx => ?_)
  obtain ⟨n, _, rfl⟩ := List.mem_map.1 (hr.mem_iff.1 hx)
  rfl
end Go.Proofs.YtbfkfmpfdafogaaGreatDoor

namespace Go.Proofs.YtbfkfmpfdafogaaGreatDoor
open Go.Eng Go.RowKit Go.Maps Go.Sort
attribute [local irreducible] Hold
set_option maxRecDepth 100000

/-! A map from names to slices of texts that the call makes and fills ('m[k] = append(m[k], v)'). -/
def encT (s : List UInt8) : Value := .string ⟨s.toArray⟩
def keyT (s : List UInt8) : Lit := .string s
def hdrD (g n c : Nat) : DataW Unit := .slice [.lit (.int .i64 g), .lit (.int .i64 n), .lit (.int .i64 c)] []
def hdrV : Option (Nat × Nat × Nat) → Value
  | none => .slice none 0 0
  | some (g, n, c) => .slice (some ⟨g, 0, none⟩) n c
def hdrR (v : Value) : Option (DataW Unit × List MemPlace) :=
  match v with
  | .slice none 0 0 => some (.nil, [])
  | .slice (some ⟨g, 0, none⟩) n c => some (hdrD g n c, [])
  | _ => none
theorem hdr_inv {v : Value} {y : DataW Unit × List MemPlace} (h : hdrR v = some y) : ∃ c, v = hdrV c := by
  unfold hdrR at h
  split at h
  · exact ⟨none, rfl⟩
  · exact ⟨some (_, _, _), rfl⟩
  · cases h
theorem hdrR_some (g n c : Nat) : hdrR (hdrV (some (g, n, c))) = some (hdrD g n c, []) := rfl
theorem hdrD_inj {g n c g' n' c' : Nat} (h : hdrD g n c = hdrD g' n' c') : g = g' ∧ n = n' ∧ c = c' := by
  simp only [hdrD, DataW.slice.injEq, List.cons.injEq, DataW.lit.injEq, Lit.int.injEq, Int.natCast_inj] at h
  exact ⟨h.1.1.2, h.1.2.1.2, h.1.2.2.1.2⟩
theorem hdrR_at {v : Value} {g n c : Nat} {ps : List MemPlace} (h : hdrR v = some (hdrD g n c, ps)) : v = hdrV (some (g, n, c)) := by
  unfold hdrR at h
  split at h
  · cases h
  · rename_i g' n' c'
    obtain ⟨rfl, rfl, rfl⟩ := hdrD_inj (Prod.mk.inj (Option.some.inj h)).1
    rfl
  · cases h
theorem hdrR_nil {v : Value} {ps : List MemPlace} (h : hdrR v = some (.nil, ps)) : v = .slice none 0 0 := by
  unfold hdrR at h
  split at h
  · rfl
  · cases h
  · cases h

theorem lawT : Keyed Tryz.prog 9 := string_keyed Tryz.underlying9
theorem keyT_of {s : List UInt8} (h : s.length ≤ 140737488355328) : keyOf Tryz.prog 9 (encT s) = some (keyT s) := by
  have : (ByteArray.mk s.toArray).size ≤ maxLen := by
    have : (ByteArray.mk s.toArray).size = s.length := by simp [ByteArray.size]
    rw [this]; unfold maxLen; omega
  exact Go.WideMaps.keyOf_string_mk Tryz.underlying9 this
theorem keyT_inj {a b : List UInt8} (h : keyT a = keyT b) : a = b := by cases h; rfl
theorem keyT_lit (s : List UInt8) : WideAt.IsKeyLit (keyT s) := trivial

/-- The row of the name n: its header is in D0, its texts are those of p. -/
structure GRow (w : World) (base : Nat) (D0 : DataW Unit) (p : List Fld) (G c : Nm → Nat) (n : Nm) : Prop where
  at_ : ∀ z, D0.atKey (keyT n) z = hdrD (G n) (valsP n p).length (c n)
  own : w.ownsRow base 9 1 (hdrV (some (G n, (valsP n p).length, c n))) (valsP n p).length ((valsP n p).map encT)
structure Grp (w : World) (b base n : Nat) (D0 : DataW Unit) (p : List Fld) : Prop where
  map : w.ownsMap Tryz.prog 9 hdrR b n D0
  im : IsMap D0
  keys : ∀ kl, Maps.has D0 kl = true → ∃ f ∈ p, kl = keyT f.1
  here : ∀ f ∈ p, Maps.has D0 (keyT f.1) = true
  rows : ∃ G c : Nm → Nat, (∀ f ∈ p, GRow w base D0 p G c f.1) ∧ ∀ f ∈ p, ∀ f' ∈ p, G f.1 = G f'.1 → f.1 = f'.1
  lt : b < base
theorem Grp.start (w : World) : Grp (w.alloc (.map #[] 0)) w.heap.size (w.heap.size + 1) 0 (.map []) [] :=
  ⟨World.ownsMap_made _ _ _ _, isMap_empty, fun kl h => by simp [Maps.has] at h, fun f h => by simp at h, ⟨fun _ => 0, fun _ => 0, fun f h => by simp at h, fun f h => by simp at h⟩, Nat.lt_succ_self _⟩
theorem Grp.start' {w : World} {b base : Nat} (h : w.ownsMap Tryz.prog 9 hdrR b 0 (.map [])) (hb : b < base) : Grp w b base 0 (.map []) [] :=
  ⟨h, isMap_empty, fun kl h => by simp [Maps.has] at h, fun f h => by simp at h, ⟨fun _ => 0, fun _ => 0, fun f h => by simp at h, fun f h => by simp at h⟩, hb⟩
theorem grown_row {a c d : World} {b : Nat} {row : Option Nat} (h : a.grownBy c (some b)) (hg : c.grownBy d row) (hr : ∀ j, row = some j → a.heap.size ≤ j ∨ j = b) : a.grownBy d (some b) :=
  ⟨hg.os.trans h.os, hg.tape.trans h.tape, hg.output.trans h.output, Nat.le_trans h.size hg.size, fun i hi hne => (hg.block i (Nat.lt_of_lt_of_le hi h.size) (fun e => by
    rcases hr i e.symm with h1 | h1
    · omega
    · exact hne (by rw [h1]))).trans (h.block i hi hne)⟩
theorem grown_below {a c : World} (h : Below a.heap.size a c) : a.grownBy c none := ⟨h.os, h.tape, h.output, h.size, fun i hi _ => h.block i hi⟩
theorem GRow.kept {w w' : World} {base : Nat} {D0 : DataW Unit} {p : List Fld} {G c : Nm → Nat} {n : Nm} {row : Option Nat} (h : GRow w base D0 p G c n) (hg : w.grownBy w' row) (hne : row ≠ some (G n)) : GRow w' base D0 p G c n :=
  ⟨h.at_, h.own.kept hg (.inr (by simpa [hdrV, Value.ownBlock] using hne.symm))⟩
theorem Grp.kept {w w' : World} {b base n : Nat} {D0 : DataW Unit} {p : List Fld} (h : Grp w b base n D0 p) (hg : w.grownBy w' none) : Grp w' b base n D0 p := by
  obtain ⟨G, c, h1, h2⟩ := h.rows
  exact ⟨h.map.kept hg (by simp), h.im, h.keys, h.here, ⟨G, c, fun f hf => (h1 f hf).kept hg (by simp), h2⟩, h.lt⟩
theorem Grp.alloc {w : World} {b base n : Nat} {D0 : DataW Unit} {p : List Fld} (h : Grp w b base n D0 p) (o : Obj) : Grp (w.alloc o) b base n D0 p := h.kept (World.grownBy_alloc w o none)

/-- 'm[k]': what comes back owns the texts at that name so far; a store at this key of what was appended leads on. -/
theorem Grp.at {w : World} {b base n : Nat} {D0 : DataW Unit} {p : List Fld} {t : TypeId} (h : Grp w b base n D0 p) (ht : Tryz.prog.underlying t = some (.map 9 24)) (hz : (zeroValue 24).run Tryz.prog w = .ok (.slice none 0 0) w) (s : List UInt8) (hs : s.length ≤ 140737488355328) (hn : n < maxLen) :
    ∃ v, (Instr.lookup t (.map (some b)) (encT s) false).run Tryz.prog w = .ok v w ∧ w.ownsRow base 9 1 v (valsP s p).length ((valsP s p).map encT) ∧
      ∀ (w1 : World) (v' : Value) (x : List UInt8), w.grownBy w1 v.ownBlock → w1.ownsRow base 9 1 v' ((valsP s p).length + 1) ((valsP s p).map encT ++ [encT x]) → (v'.ownBlock = v.ownBlock ∨ ∃ g, v'.ownBlock = some g ∧ w.heap.size ≤ g) →
        ∃ w2 D1, (Instr.mapUpdate t (.map (some b)) (encT s) v').run Tryz.prog w1 = .ok () w2 ∧ Grp w2 b base (n + 1) D1 (p ++ [(s, x)]) ∧ w1.grownBy w2 (some b) := by
  obtain ⟨G, c, hrow, hinj⟩ := h.rows
  obtain ⟨v, ps, hrun, hv⟩ := h.map.lookup lawT ht hz (show hdrR (.slice none 0 0) = some (.nil, []) from rfl) (keyT_of hs)
  -- whose block is it
  have hwho : (v.ownBlock = none ∧ (∀ f ∈ p, f.1 ≠ s) ∧ v = .slice none 0 0) ∨ (v.ownBlock = some (G s) ∧ (∃ f ∈ p, f.1 = s) ∧ w.ownsRow base 9 1 v (valsP s p).length ((valsP s p).map encT)) := by
    by_cases hh : ∃ f ∈ p, f.1 = s
    · obtain ⟨f, hf, rfl⟩ := hh
      have hR := hrow f hf
      rw [hR.at_] at hv
      have e := hdrR_at hv
      refine .inr ⟨by rw [e]; rfl, ⟨f, hf, rfl⟩, by rw [e]; exact hR.own⟩
    · have hno : ∀ f ∈ p, f.1 ≠ s := fun f hf e => hh ⟨f, hf, e⟩
      have hf : Maps.has D0 (keyT s) = false := by
        cases hc : Maps.has D0 (keyT s) with
        | false => rfl
        | true =>
          obtain ⟨f, hf, e⟩ := h.keys _ hc
          exact absurd (keyT_inj e).symm (hno f hf)
      rw [atKey_of_not_has hf] at hv
      have e := hdrR_nil hv
      exact .inl ⟨by rw [e]; rfl, hno, e⟩
  have hown : w.ownsRow base 9 1 v (valsP s p).length ((valsP s p).map encT) := by
    rcases hwho with ⟨_, hno, rfl⟩ | ⟨_, _, h⟩
    · rw [valsP_none hno]; exact World.ownsRow_nil _ _ _ _
    · exact h
  refine ⟨v, hrun, hown, fun w1 v' x hg hown' hloc => ?_⟩
  obtain ⟨g', c', hv', hbg, hgl⟩ : ∃ g' c', v' = .slice (some ⟨g', 0, none⟩) ((valsP s p).length + 1) c' ∧ base ≤ g' ∧ g' < w1.heap.size := by
    rcases hown'.2 with ⟨_, h0⟩ | ⟨g, cap, cur, e, hb, hh, _⟩
    · omega
    · exact ⟨g, cap, e, hb, (Array.getElem?_eq_some_iff.1 hh).1⟩
  have hmap1 : w1.ownsMap Tryz.prog 9 hdrR b n D0 := h.map.kept hg (by
    rcases hwho with ⟨e, _⟩ | ⟨e, ⟨f, hf, rfl⟩, _⟩
    · rw [e]; simp
    · rw [e]
      intro e2
      have := ((hrow f hf).own.lt (G f.1) rfl).1
      have := h.lt
      have : b = G f.1 := Option.some.inj e2
      omega)
  obtain ⟨w2, hup, hmap2, hg2⟩ := hmap1.update lawT ht hn (keyT_of hs) (show hdrR v' = some (hdrD g' ((valsP s p).length + 1) c', []) by rw [hv']; rfl)
  have hkeep : ∀ f ∈ p, f.1 ≠ s → G f.1 ≠ g' ∧ GRow w2 base D0 p G c f.1 := by
    intro f hf hne
    have hR := hrow f hf
    have hlt := hR.own.lt (G f.1) rfl
    have hne1 : v.ownBlock ≠ some (G f.1) := by
      rcases hwho with ⟨e, _⟩ | ⟨e, ⟨f', hf', rfl⟩, _⟩
      · rw [e]; simp
      · rw [e]
        intro e2
        exact hne (hinj f hf f' hf' (Option.some.inj e2).symm)
    refine ⟨fun e => ?_, (hR.kept hg hne1).kept hg2 (by have := h.lt; intro e; have := Option.some.inj e; omega)⟩
    subst e
    rcases hloc with e | ⟨g, e, hge⟩
    · rw [hv'] at e
      exact hne1 e.symm
    · rw [hv'] at e
      have : G f.1 = g := Option.some.inj e
      omega
  refine ⟨w2, _, hup, ⟨hmap2, h.im.put _ _, fun kl hk => ?_, fun f hf => ?_, ⟨fun m => if m = s then g' else G m, fun m => if m = s then c' else c m, fun f hf => ?_, fun f hf f' hf' e => ?_⟩, h.lt⟩, hg2⟩
  · by_cases e : kl = keyT s
    · exact ⟨(s, x), by simp, e⟩
    · rw [has_put_other e] at hk
      obtain ⟨f, hf, e2⟩ := h.keys kl hk
      exact ⟨f, List.mem_append_left _ hf, e2⟩
  · by_cases e : f.1 = s
    · rw [e]; exact has_put_same h.im (keyT_lit s) _
    · rw [has_put_other (fun e2 => e (keyT_inj e2))]
      rcases List.mem_append.1 hf with hf | hf
      · exact h.here f hf
      · simp at hf; exact absurd (by rw [hf]) e
  · by_cases e : f.1 = s
    · refine ⟨fun z => ?_, ?_⟩
      · rw [e, atKey_put_same h.im (keyT_lit s), valsP_snoc, if_pos rfl]
        simp
      · rw [e, valsP_snoc, if_pos rfl]
        simp only [if_true, List.length_append, List.length_cons, List.length_nil, Nat.zero_add, List.map_append, List.map_cons, List.map_nil]
        have hk := hown'.kept hg2 (.inr (by rw [hv']; simp [Value.ownBlock]; have := h.lt; omega))
        rw [hv'] at hk
        exact hk
    · have hf' : f ∈ p := by
        rcases List.mem_append.1 hf with hf | hf
        · exact hf
        · simp at hf; exact absurd (by rw [hf]) e
      obtain ⟨_, hk⟩ := hkeep f hf' e
      have ev : valsP f.1 (p ++ [(s, x)]) = valsP f.1 p := by rw [valsP_snoc, if_neg fun e2 => e e2.symm]
      refine ⟨fun z => ?_, ?_⟩
      · rw [atKey_put_other (fun e2 => e (keyT_inj e2)), ev]
        simpa [e] using hk.at_ z
      · rw [ev]
        simpa [e] using hk.own
  · have hcase : ∀ q ∈ p ++ [(s, x)], q.1 = s ∨ (q.1 ≠ s ∧ q ∈ p) := fun q hq => by
      by_cases e : q.1 = s
      · exact .inl e
      · refine .inr ⟨e, ?_⟩
        rcases List.mem_append.1 hq with hq | hq
        · exact hq
        · simp at hq; exact absurd (by rw [hq]) e
    rcases hcase f hf with e1 | ⟨e1, m1⟩ <;> rcases hcase f' hf' with e2 | ⟨e2, m2⟩
    · rw [e1, e2]
    · rw [e1] at e
      simp only [if_true, e2, if_false] at e
      exact absurd e.symm (hkeep f' m2 e2).1
    · rw [e2] at e
      simp only [if_true, e1, if_false] at e
      exact absurd e (hkeep f m1 e1).1
    · simp only [e1, e2, if_false] at e
      exact hinj f m1 f' m2 e

theorem wpList_lookup_grp (w : World) {ops : Array Oper} {rest : List Oper} {o : Oper} {a : Act} {Q : Exit → Act → World → Prop}
    (hg : o.guard = none) (m x : Operand) (t : TypeId) (hop : o.op = Op.lookup t m x false) (ht : Tryz.prog.underlying t = some (.map 9 24)) (hz : (zeroValue 24).run Tryz.prog w = .ok (.slice none 0 0) w)
    {b base n : Nat} {D0 : DataW Unit} {p : List Fld} (hm : a.eval m = .map (some b)) (h : Grp w b base n D0 p) (s : List UInt8) (hx : a.eval x = encT s) (hs : s.length ≤ 140737488355328) (hn : n < maxLen)
    (hK : ∀ v, w.ownsRow base 9 1 v (valsP s p).length ((valsP s p).map encT) →
      (∀ (w1 : World) (v' : Value) (x : List UInt8), w.grownBy w1 v.ownBlock → w1.ownsRow base 9 1 v' ((valsP s p).length + 1) ((valsP s p).map encT ++ [encT x]) → (v'.ownBlock = v.ownBlock ∨ ∃ g, v'.ownBlock = some g ∧ w.heap.size ≤ g) →
        ∃ w2 D1, (Instr.mapUpdate t (.map (some b)) (encT s) v').run Tryz.prog w1 = .ok () w2 ∧ Grp w2 b base (n + 1) D1 (p ++ [(s, x)]) ∧ w1.grownBy w2 (some b)) →
      wpList Tryz.prog ops Q rest (a.put o.dst v) w) : wpList Tryz.prog ops Q (o :: rest) a w := by
  refine wpList_plain hg fun K' hK' => ?_
  obtain ⟨v, hrun, h1, h2⟩ := h.at ht hz s hs hn
  unfold Oper.wp
  simp [execOp, hop, hm, hx, hrun, Result.andThen]
  exact hK' _ _ (hK v h1 h2)

/-- The store, by the way back. -/
theorem wpList_mapUpdate_grp (w : World) {ops : Array Oper} {rest : List Oper} {o : Oper} {a : Act} {Q : Exit → Act → World → Prop}
    (hg : o.guard = none) (m x v : Operand) (t : TypeId) (hop : o.op = Op.mapUpdate t m x v) {b : Nat} (s : List UInt8) (v' : Value) (R : World → Prop) (hm : a.eval m = .map (some b)) (hx : a.eval x = encT s) (hv : a.eval v = v')
    (hrun : ∃ w2, (Instr.mapUpdate t (.map (some b)) (encT s) v').run Tryz.prog w = .ok () w2 ∧ R w2)
    (hK : ∀ w2, R w2 → wpList Tryz.prog ops Q rest (a.put o.dst undef) w2) : wpList Tryz.prog ops Q (o :: rest) a w := by
  refine wpList_plain hg fun K' hK' => ?_
  obtain ⟨w2, hrun, r⟩ := hrun
  unfold Oper.wp
  simp [execOp, hop, hm, hx, hv, hrun, Result.andThen]
  exact hK' _ _ (hK w2 r)
end Go.Proofs.YtbfkfmpfdafogaaGreatDoor

namespace Go.Proofs.YtbfkfmpfdafogaaGreatDoor
open Go.Eng Go.RowKit Go.Maps Go.Sort
attribute [local irreducible] Hold
set_option maxRecDepth 100000

/-! From the engine's words to the kit's and back. -/
theorem _root_.Go.Eng.GlobAt.below {w0 w : World} {X : Nat → Prop} {x : Gl} (h : GlobAt w0 X x) (hb : Below w0.heap.size w0 w) : GlobAt w X x := by
  obtain ⟨arr, T, fz, h1, h2, h3, h4⟩ := h
  have hlt : ∀ b o, w0.heap[b]? = some o → w.heap[b]? = some o := fun b o ho => by
    have : b < w0.heap.size := (Array.getElem?_eq_some_iff.1 ho).1
    rw [hb.block b this]; exact ho
  refine ⟨arr, T, fz, hlt _ _ h1, h2, h3, fun j m d c hj hm => ?_⟩
  obtain ⟨v, hv, hr⟩ := h4 j m d c hj hm
  exact ⟨v, hv, hr.mono fun b o ho hx => ⟨hlt b o ho, hx⟩⟩
theorem _root_.Go.Eng.Rd.under {w0 w : World} {X : Nat → Prop} {d : D} {v : Value} (h : Rd w0 X d v) (hb : Below w0.heap.size w0 w) : Rd w X d v :=
  h.mono fun b o ho hx => ⟨by rw [hb.block b (Array.getElem?_eq_some_iff.1 ho).1]; exact ho, hx⟩
/-- What a call needs, in every world behind the first. -/
structure Env (C : Ctx) (w0 : World) (X : Nat → Prop) : Prop where
  x0 : ∀ b, X b → b < w0.heap.size
  gl : ∀ x, x ∈ C.G → x.g < w0.heap.size ∧ ¬ X x.g ∧ GlobAt w0 X x
theorem Env.call {C : Ctx} {w0 : World} {X : Nat → Prop} (E : Env C w0 X) {f : FuncId} {ds : List D} {r : D} (h : Does C f ds [r]) {w : World} (hb : Below w0.heap.size w0 w) (vs : Array Value) (hl : ds.length = vs.size)
    (hd : ∀ (j : Nat) (d : D) (v : Value), ds[j]? = some d → vs[j]? = some v → Rd w X d v) :
    Calls C.P f vs w fun e w' => ∃ v, e = .returned v ∧ Rd w' X r v ∧ Below w.heap.size w w' := by
  refine (h.2 w X vs (fun b hx => Nat.lt_of_lt_of_le (E.x0 b hx) hb.size) (fun x hx => ?_) hl hd).mono ?_
  · obtain ⟨h1, h2, h3⟩ := E.gl x hx
    exact ⟨Nat.lt_of_lt_of_le h1 hb.size, h2, h3.below hb⟩
  · rintro e w' ⟨v, he, hr, hbel⟩
    exact ⟨v, he, hr.dinv, hbel⟩
theorem Env.call1 {C : Ctx} {w0 : World} {X : Nat → Prop} (E : Env C w0 X) {f : FuncId} {d r : D} (h : Does C f [d] [r]) {w : World} (hb : Below w0.heap.size w0 w) {v : Value} (hd : Rd w X d v) :
    Calls C.P f #[v] w fun e w' => ∃ v, e = .returned v ∧ Rd w' X r v ∧ Below w.heap.size w w' :=
  E.call h hb #[v] rfl fun j d' v' h1 h2 => by
    match j, h1, h2 with
    | 0, h1, h2 => simp at h1 h2; subst h1 h2; exact hd
    | j + 1, h1, h2 => simp at h1
theorem Env.call2 {C : Ctx} {w0 : World} {X : Nat → Prop} (E : Env C w0 X) {f : FuncId} {d d2 r : D} (h : Does C f [d, d2] [r]) {w : World} (hb : Below w0.heap.size w0 w) {v v2 : Value} (hd : Rd w X d v) (hd2 : Rd w X d2 v2) :
    Calls C.P f #[v, v2] w fun e w' => ∃ v, e = .returned v ∧ Rd w' X r v ∧ Below w.heap.size w w' :=
  E.call h hb #[v, v2] rfl fun j d' v' h1 h2 => by
    match j, h1, h2 with
    | 0, h1, h2 => simp at h1 h2; subst h1 h2; exact hd
    | 1, h1, h2 => simp at h1 h2; subst h1 h2; exact hd2
    | j + 2, h1, h2 => simp at h1

/-- A row of sz cells each that the call owns reads as data. -/
theorem row_rdG {w : World} {X : Nat → Prop} {base : Nat} {v : Value} {T : TypeId} {α : Type} (l : List α) (sz : Nat) (enc : α → List Value) (dat : α → D) (hw : ∀ x ∈ l, (dat x).wd sz) (he : ∀ x ∈ l, (enc x).length = sz)
    (hr : ∀ x ∈ l, ∀ (m : Nat) (c : D) (u : Value), (dat x).cells[m]? = some c → (enc x)[m]? = some u → Rd w X c u)
    (h : w.ownsRow base T sz v l.length (l.flatMap enc)) (hX : ∀ b, X b → b < base) : Rd w X (.sl sz (l.map dat)) v := by
  rcases h.2 with ⟨rfl, h0⟩ | ⟨g, cap, cur, rfl, hg, hb, hc, _, hcs, ht⟩
  · obtain rfl : l = [] := List.eq_nil_of_length_eq_zero h0
    exact .slnil sz
  · have hflat : ∀ (l : List α), (∀ x ∈ l, (enc x).length = sz) → ∀ (j m : Nat) (x : α), l[j]? = some x → m < sz → (l.flatMap enc)[j * sz + m]? = (enc x)[m]? := by
      intro l
      induction l with
      | nil => intro _ j m x hx; simp at hx
      | cons y r ih =>
        intro hall j m x hx hm
        have hy := hall y (by simp)
        cases j with
        | zero =>
          simp at hx; subst hx
          rw [List.flatMap_cons, Nat.zero_mul, Nat.zero_add, List.getElem?_append_left (by rw [hy]; exact hm)]
        | succ j =>
          rw [List.flatMap_cons, List.getElem?_append_right (by rw [hy, Nat.succ_mul]; omega), hy, show (j + 1) * sz + m - sz = j * sz + m by rw [Nat.succ_mul]; omega]
          exact ih (fun x hx => hall x (List.mem_cons_of_mem _ hx)) j m x (by simpa using hx) hm
    have hget : ∀ (j m : Nat) (x : α), l[j]? = some x → m < sz → cur[0 + j * sz + m]? = (enc x)[m]? := by
      intro j m x hx hm
      have hj : j < l.length := (List.getElem?_eq_some_iff.1 hx).1
      rw [← hflat l he j m x hx hm, ← ht, List.getElem?_take_of_lt (by
        have : (j + 1) * sz ≤ l.length * sz := Nat.mul_le_mul_right _ hj
        rw [Nat.succ_mul] at this
        omega), Array.getElem?_toList, Nat.zero_add]
    refine .sl sz _ g 0 l.length cap cur T (0, 0) (fun j m => (cur[0 + j * sz + m]?).getD undef) hb (fun h => by have := hX _ h; omega) (by simp) hc (fun j x hx => ?_) (fun j m x c hx hm => ?_) fun j m x c hx hm => ?_
    · rw [List.getElem?_map, Option.map_eq_some_iff] at hx
      obtain ⟨y, hy, rfl⟩ := hx
      exact hw y (List.mem_of_getElem? hy)
    all_goals
      rw [List.getElem?_map, Option.map_eq_some_iff] at hx
      obtain ⟨y, hy, rfl⟩ := hx
      have hym := List.mem_of_getElem? hy
      have hms : m < sz := by rw [← (hw y hym).1]; exact (List.getElem?_eq_some_iff.1 hm).1
      have hlt : m < (enc y).length := by rw [he y hym]; exact hms
      have hc := hget j m y hy hms
      rw [List.getElem?_eq_getElem hlt] at hc
      simp only [hc, Option.getD_some]
    exact hr y hym m c _ hm (List.getElem?_eq_getElem hlt)
theorem rd_texts {w : World} {X : Nat → Prop} {base : Nat} {v : Value} {T : TypeId} (l : List (List UInt8)) (h : w.ownsRow base T 1 v l.length (l.map encT)) (hX : ∀ b, X b → b < base) : Rd w X (strs l) v :=
  row_rdG l 1 (fun s => [encT s]) .s (fun x _ => ⟨rfl, fun c hc => by simp [D.cells] at hc; subst hc; rfl⟩) (fun _ _ => rfl) (fun x _ m c u h1 h2 => by
    match m, h1, h2 with
    | 0, h1, h2 => simp [D.cells] at h1 h2; subst h1 h2; exact .s _) (by rw [show l.flatMap (fun s => [encT s]) = l.map encT from (List.map_eq_flatMap).symm]; exact h) hX
def encF (f : Fld) : List Value := [encT f.1, encT f.2]
theorem rd_flds {w : World} {X : Nat → Prop} {base : Nat} {v : Value} {T : TypeId} (l : List Fld) (h : w.ownsRow base T 2 v l.length (l.flatMap encF)) (hX : ∀ b, X b → b < base) : Rd w X (.sl 2 (l.map fldD)) v :=
  row_rdG l 2 encF fldD (fun x _ => ⟨rfl, fun c hc => by simp [D.cells, fldD] at hc; rcases hc with rfl | rfl <;> rfl⟩) (fun _ _ => rfl) (fun x _ m c u h1 h2 => by
    match m, h1, h2 with
    | 0, h1, h2 => simp [D.cells, fldD, encF] at h1 h2; subst h1 h2; exact .s _
    | 1, h1, h2 => simp [D.cells, fldD, encF] at h1 h2; subst h1 h2; exact .s _
    | m + 2, h1, h2 => simp [D.cells, fldD] at h1) h hX

/-- What a slice of texts, of fields, is. -/
theorem strs_inv {w : World} {X : Nat → Prop} {l : List (List UInt8)} {v : Value} (h : Rd w X (strs l) v) :
    (v = .slice none 0 0 ∧ l = []) ∨ ∃ a cap, v = .slice (some a) l.length cap ∧ ∀ (j : Nat) (u : Value), (l.map encT)[j]? = some u → w.cell? (a.add j) = some u := by
  unfold strs at h
  generalize he : l.map D.s = xs at h
  cases h with
  | slnil => exact .inl ⟨rfl, by simpa using he⟩
  | sle _ a cap =>
    obtain rfl : l = [] := by simpa using he
    exact .inr ⟨a, cap, rfl, fun j u hu => by simp at hu⟩
  | sl _ _ blk off n cap arr T fz f hh hx hl hc hw ha hr =>
    subst he
    refine .inr ⟨⟨blk, off, none⟩, cap, by rw [← hl]; simp, fun j u hu => ?_⟩
    rw [List.getElem?_map, Option.map_eq_some_iff] at hu
    obtain ⟨s, hs, rfl⟩ := hu
    have h1 : (l.map D.s)[j]? = some (.s s) := by rw [List.getElem?_map, hs]; rfl
    have h2 := ha j 0 _ _ h1 (show (D.s s).cells[0]? = some (.s s) from rfl)
    have h3 := hr j 0 _ _ h1 (show (D.s s).cells[0]? = some (.s s) from rfl)
    have sv : ∀ {s : List UInt8} {u : Value}, Rd w X (.s s) u → u = encT s := fun h => by cases h; rfl
    rw [sv h3] at h2
    simp only [Nat.mul_one, Nat.add_zero] at h2
    have hadd : (⟨blk, off, none⟩ : Addr).add j = ⟨blk, off + j, none⟩ := by unfold Addr.add; split <;> simp_all
    rw [hadd]
    simp [World.cell?, hh, h2]
theorem flds_inv {w : World} {X : Nat → Prop} {l : List Fld} {v : Value} (h : Rd w X (.sl 2 (l.map fldD)) v) :
    ∃ a cap, v = .slice a l.length cap ∧ (0 < l.length → ∃ blk off arr T fz, a = some ⟨blk, off, none⟩ ∧ w.heap[blk]? = some (.cells arr T fz) ∧ ∀ (j : Nat) (f : Fld), l[j]? = some f → arr[off + j * 2]? = some (encT f.1) ∧ arr[off + j * 2 + 1]? = some (encT f.2)) := by
  generalize he : l.map fldD = xs at h
  cases h with
  | slnil =>
    obtain rfl : l = [] := by simpa using he
    exact ⟨none, 0, rfl, fun h => by simp at h⟩
  | sle _ a cap =>
    obtain rfl : l = [] := by simpa using he
    exact ⟨some a, cap, rfl, fun h => by simp at h⟩
  | sl _ _ blk off n cap arr T fz f hh hx hl hc hw ha hr =>
    subst he
    refine ⟨_, cap, by rw [← hl]; simp, fun _ => ⟨blk, off, arr, T, fz, rfl, hh, fun j x hx => ?_⟩⟩
    have h1 : (l.map fldD)[j]? = some (fldD x) := by rw [List.getElem?_map, hx]; rfl
    have e0 := ha j 0 _ _ h1 (show (fldD x).cells[0]? = some (.s x.1) from rfl)
    have e1 := ha j 1 _ _ h1 (show (fldD x).cells[1]? = some (.s x.2) from rfl)
    have r0 := hr j 0 _ _ h1 (show (fldD x).cells[0]? = some (.s x.1) from rfl)
    have r1 := hr j 1 _ _ h1 (show (fldD x).cells[1]? = some (.s x.2) from rfl)
    have sv : ∀ {s : List UInt8} {u : Value}, Rd w X (.s s) u → u = encT s := fun h => by cases h; rfl
    rw [sv r0] at e0
    rw [sv r1] at e1
    exact ⟨e0, e1⟩

/-- append of a slice of texts onto a row that the call owns. -/
theorem wpList_append_texts (w : World) {ops : Array Oper} {rest : List Oper} {o : Oper} {a : Act} {Q : Exit → Act → World → Prop} (hgd : o.guard = none) (s x : Operand) (t : TypeId)
    (ho : o.op = .call { callee := .builtin .append, args := #[s, x], argTypes := #[t, t] })
    (base : Nat) (e : TypeId) (i : TypeInfo) (z : Value) (bytes : Nat) (ht : Tryz.prog.underlying t = some (.slice e)) (hi : Tryz.prog.info? e = some i) (hz : i.zero = some z)
    (hsize : i.size = 1) (hby : i.bytes = bytes) (hzs : z.cells.size = 1)
    (v : Value) (n : Nat) (xs : List Value) (hn : 0 < n) (hs : a.eval s = v) (hown : w.ownsRow base e 1 v n xs) {X : Nat → Prop} (l : List (List UInt8)) (vx : Value) (hx : a.eval x = vx) (hrd : Rd w X (strs l) vx)
    (h63 : n + l.length ≤ maxLen) (hbytes : (n + l.length) * bytes ≤ 140737488355328) (hbase : base ≤ w.heap.size)
    (h : ∀ v' w', w'.ownsRow base e 1 v' (n + l.length) (xs ++ l.map encT) → w.grownBy w' v.ownBlock → (v'.ownBlock = v.ownBlock ∨ v'.ownBlock = some w.heap.size) → wpList Tryz.prog ops Q rest (a.put o.dst v') w') :
    wpList Tryz.prog ops Q (o :: rest) a w := by
  rcases strs_inv hrd with ⟨rfl, rfl⟩ | ⟨ad, c, rfl, hcells⟩
  · refine wpList_plain hgd fun K hK => ?_
    obtain ⟨g, cap, cur, rfl, hg, hb, hc, hm, hcs, ht'⟩ : ∃ g cap cur, v = .slice (some ⟨g, 0, none⟩) n cap ∧ base ≤ g ∧ w.heap[g]? = some (.cells cur e (0, 0)) ∧ n ≤ cap ∧ cap ≤ maxLen ∧ cur.size = cap * 1 ∧ cur.toList.take (n * 1) = xs := by
      rcases hown.2 with ⟨_, h0⟩ | h
      · omega
      · exact h
    have hr : (Builtin.append_ #[t, t] o.type #[.slice (some ⟨g, 0, none⟩) n cap, .slice none 0 0]).run Tryz.prog w = .ok (.slice (some ⟨g, 0, none⟩) n cap) w := by
      simp [Builtin.append_, run_underlying ht, sizeOf, typeInfo, hi, Builtin.lenOf, Builtin.firstCells, loadCells, hc, storeCells]
    unfold Oper.wp execOp
    simp only [ho, resolve, invoke, builtin, Sem.run_bind, Sem.run_pure, Result.andThen_ok, List.map_toArray, List.map_cons, List.map_nil, hs, hx, hr]
    exact hK _ _ (h _ _ (by simpa using hown) ⟨rfl, rfl, rfl, Nat.le_refl _, fun _ _ _ => rfl⟩ (.inl rfl))
  · exact wpList_append_own_at (P := Tryz.prog) w hgd s x t ho base e i z 1 bytes ht hi hz hsize hby hzs (by omega) v n xs hs hown ad l.length c (l.map encT) hx (by simp) hcells
      (fun u hu => by obtain ⟨s, _, rfl⟩ := List.mem_map.1 hu; rfl) h63 hbytes hbase fun v' w' h1 h2 _ h4 => h v' w' h1 h2 h4
end Go.Proofs.YtbfkfmpfdafogaaGreatDoor

namespace Go.Proofs.YtbfkfmpfdafogaaGreatDoor
open Go.Eng Go.RowKit Go.Maps Go.Sort Go.Shelf Go.Lib
attribute [local irreducible] Hold
set_option maxRecDepth 100000

/-! The sort of fields by their names. -/
set_option maxHeartbeats 1000000 in
theorem clos34 (x y : Fld) (W : World) : Calls Tryz.prog 34 #[.agg #[encT x.1, encT x.2], .agg #[encT y.1, encT y.2]] W fun e w' => e = .returned (.int .i64 (Lib.compareBytes x.1 y.1)) ∧ ∃ q os', w' = grow (W.drewN q) os' := by
  have hcon := fun W' => Tryz.strings_Compare ⟨x.1.toArray⟩ ⟨y.1.toArray⟩ W'
  simp only at hcon
  generalize Lib.compareBytes x.1 y.1 = r at hcon ⊢
  go_enter Tryz.func34, Tryz.ntmps34
  go_wp2_with (go_at_call 35; refine (hcon _).mono ?_; rintro e w' ⟨rfl, rfl⟩)
  go_ret
  exact ⟨rfl, 0, _, by rw [alloc_eq_grow, alloc_eq_grow, grow_grow]; rfl⟩
theorem cmpB_lt : ∀ (a b : List UInt8), Lib.compareBytes a b < 0 ↔ a < b
  | [], [] => by simp [Lib.compareBytes]
  | [], _ :: _ => by simp [Lib.compareBytes]
  | _ :: _, [] => by simp [Lib.compareBytes]
  | a :: xs, b :: ys => by
    unfold Lib.compareBytes
    rw [List.cons_lt_cons_iff]
    by_cases h1 : a < b
    · simp [h1]
    · by_cases h2 : b < a
      · have : a ≠ b := fun e => by subst e; exact absurd h2 h1
        simp [h1, h2, this]
      · have e : a = b := UInt8.le_antisymm (UInt8.not_lt.1 h2) (UInt8.not_lt.1 h1)
        subst e
        simp only [h1, if_false, false_or, true_and]
        exact cmpB_lt xs ys
def cmpFld (x y : Fld) : Int := Lib.compareBytes x.1 y.1
theorem ltFld (x y : Fld) : ltOf cmpFld x y = decide (x.1 < y.1) := by
  unfold ltOf cmpFld
  by_cases h : x.1 < y.1
  · rw [decide_eq_true h, decide_eq_true ((cmpB_lt _ _).2 h)]
  · rw [decide_eq_false h, decide_eq_false fun h' => h ((cmpB_lt _ _).1 h')]
theorem swoFld : SWO (ltOf cmpFld) where
  irrefl x := by rw [ltFld]; exact decide_eq_false (nm_irr x.1)
  trans x y z h1 h2 := by rw [ltFld] at *; simp only [decide_eq_true_eq] at *; exact nm_tr h1 h2
  ntrans x y z h1 h2 := by
    rw [ltFld] at *
    simp only [decide_eq_false_iff_not] at *
    intro h
    rcases nm_tri x.1 y.1 with h3 | h3 | h3
    · exact h1 h3
    · rw [h3] at h; exact h2 h
    · exact h2 (nm_tr h3 h)
theorem sort33 (blk off cap : Nat) (d : List Fld) (w : World) (hH : HoldsK encF 2 w blk off d.toArray) (hblk : blk < w.heap.size) (hsz : d.length < 4611686018427387904) :
    Calls Tryz.prog 33 #[.slice (some ⟨blk, off, none⟩) d.length cap, .func (.func 34) #[] #[]] w fun e w' => e = .returned (.tuple #[]) ∧ ∃ (d' : List Fld) (n : Nat) (os : Array Obj), d'.Perm d ∧ d'.Pairwise (fun a b => ¬ b.1 < a.1) ∧ w' = sortWorldK encF 2 w blk off n d'.toArray os := by
  have eg : ∀ args w, (callFunc 34 args).run Tryz.prog w = .ok (.enter 34 args) w := enters_of Tryz.func34 (by kernel_rfl) rfl
  have hcon := AnyQ.slices_SortFunc Tryz.sortFld 2 Tryz.isAgg53 Tryz.sizeOf53 encF (fun _ => rfl) (fun x v hv => by simp [encF] at hv; rcases hv with rfl | rfl <;> rfl) cmpFld swoFld 34 #[] blk off cap d.toArray w eg (fun _ _ _ _ x y => clos34 x y _) hH hblk (by simpa using hsz)
  change Calls Tryz.prog 33 _ _ _ at hcon
  simp only [List.size_toArray] at hcon
  refine hcon.mono ?_
  rintro e w' ⟨rfl, d', n, os, hp, hs, rfl⟩
  obtain ⟨hps, _, hpp⟩ := hp
  have hl : d'.toList.length = d.length := by simpa using hps
  refine ⟨rfl, d'.toList, n, os, ?_, ?_, rfl⟩
  · have e1 : (d'.extract 0 d.length).toList = d'.toList := by
      rw [Array.toList_extract, List.extract_eq_take_drop]
      simp only [List.drop_zero, Nat.sub_zero]
      exact List.take_of_length_le (by omega)
    have e2 : (d.toArray.extract 0 d.length).toList = d := by
      rw [Array.toList_extract, List.extract_eq_take_drop]
      simp
    rw [e1, e2] at hpp
    exact hpp
  · rw [List.pairwise_iff_getElem]
    intro i j hi hj hij
    have h := hs i j (Nat.zero_le _) hij (by omega)
    rw [ltFld] at h
    simp only [decide_eq_false_iff_not] at h
    have gi : d'[i]! = d'.toList[i] := by
      have : i < d'.size := by simpa using hi
      simp [getElem!_pos, this]
    have gj : d'[j]! = d'.toList[j] := by
      have : j < d'.size := by simpa using hj
      simp [getElem!_pos, this]
    rw [gi, gj] at h
    exact h
end Go.Proofs.YtbfkfmpfdafogaaGreatDoor

namespace Go.Proofs.YtbfkfmpfdafogaaGreatDoor
open Go.Eng Go.RowKit Go.Maps Go.Sort Go.Shelf Go.Lib
attribute [local irreducible] Hold
set_option maxRecDepth 100000

/-! The row of fields behind its sort; the names collected from a map. -/
theorem flat_getV {α : Type} {enc : α → List Value} {sz : Nat} : ∀ {l : List α}, (∀ x ∈ l, (enc x).length = sz) → ∀ (j m : Nat) (x : α), l[j]? = some x → m < sz → (l.flatMap enc)[j * sz + m]? = (enc x)[m]?
  | [], _, j, m, x, hx, _ => by simp at hx
  | y :: r, hall, 0, m, x, hx, hm => by
    simp at hx; subst hx
    rw [List.flatMap_cons, Nat.zero_mul, Nat.zero_add, List.getElem?_append_left (by rw [hall y (by simp)]; exact hm)]
  | y :: r, hall, j + 1, m, x, hx, hm => by
    have hy := hall y (by simp)
    rw [List.flatMap_cons, List.getElem?_append_right (by rw [hy, Nat.succ_mul]; omega), hy, show (j + 1) * sz + m - sz = j * sz + m by rw [Nat.succ_mul]; omega]
    exact flat_getV (fun x hx => hall x (List.mem_cons_of_mem _ hx)) j m x (by simpa using hx) hm
theorem flatF_len (l : List Fld) : (l.flatMap encF).length = l.length * 2 := by
  induction l with
  | nil => rfl
  | cons x r ih => rw [List.flatMap_cons, List.length_append, ih, List.length_cons, Nat.succ_mul]; simp [encF]; omega
theorem flatK_list (l : List Fld) : (flatK encF 2 l.toArray).toList = l.flatMap encF := by
  apply List.ext_getElem?
  intro t
  by_cases ht : t < l.length * 2
  · have hj : t / 2 < l.length := by omega
    have h := flat_getV (enc := encF) (sz := 2) (l := l) (fun _ _ => rfl) (t / 2) (t % 2) l[t / 2] (List.getElem?_eq_getElem hj) (by omega)
    rw [show t / 2 * 2 + t % 2 = t by omega] at h
    have hm : t % 2 < (encF l[t / 2]).length := by show t % 2 < 2; omega
    rw [h, List.getElem?_eq_getElem hm, Array.getElem?_toList]
    have hs : t < (flatK encF 2 l.toArray).size := by simpa using ht
    have e := get_flatK encF 2 l.toArray t (by simpa using ht)
    rw [getElem!_pos _ t hs] at e
    rw [Array.getElem?_eq_getElem hs, e]
    simp only [List.getElem!_toArray]
    rw [getElem!_pos l (t / 2) hj, getElem!_pos _ (t % 2) hm]
  · rw [List.getElem?_eq_none (by simp; omega), List.getElem?_eq_none (by rw [flatF_len]; omega)]
theorem holdsF {w : World} {base g cap : Nat} {T : TypeId} {l : List Fld} (h : w.ownsRow base T 2 (.slice (some ⟨g, 0, none⟩) l.length cap) l.length (l.flatMap encF)) : HoldsK encF 2 w g 0 l.toArray := by
  intro j hj
  have hj' : j < l.length * 2 := by simpa using hj
  rw [Nat.zero_add]
  refine ⟨?_, h.frozenAt j⟩
  rw [h.cellAt j hj', ← flatK_list, Array.getElem?_toList, Array.getElem?_eq_getElem hj, getElem!_pos _ j hj]
  rfl
theorem heap_sortV {w : World} {g n : Nat} {os : Array Obj} {cur : Array Value} {e : TypeId} {fr : Nat × Nat} (d : Array Value) (hb : w.heap[g]? = some (.cells cur e fr)) :
    (grow (putRow id (Sort.ahead w n) g 0 d) os).heap[g]? = some (.cells (putCells id 0 d cur) e fr) := by
  have hg : g < w.heap.size := (Array.getElem?_eq_some_iff.1 hb).1
  rw [heap_grow_old _ _ (by simpa using hg)]
  simp [putRow, mapBlock, Sort.ahead, Array.getElem?_modify, hb]
  rfl
theorem grownBy_sortV {w : World} {g n : Nat} {os : Array Obj} (d : Array Value) : w.grownBy (grow (putRow id (Sort.ahead w n) g 0 d) os) (some g) := by
  refine ⟨rfl, rfl, rfl, by simp, fun k hk hne => ?_⟩
  rw [heap_grow_old _ _ (by simpa using hk)]
  have : g ≠ k := fun e => hne (by rw [e])
  simp [putRow, mapBlock, Sort.ahead, Array.getElem?_modify, this]
theorem take_putV (cur ts : Array Value) (h : ts.size ≤ cur.size) : (putCells id 0 ts cur).toList.take ts.size = ts.toList := by
  apply List.ext_getElem?
  intro j
  by_cases hj : j < ts.size
  · rw [List.getElem?_take_of_lt hj, Array.getElem?_toList]
    simp [putCells, hj, show j < cur.size by omega]
  · rw [List.getElem?_take_eq_none (by omega), List.getElem?_eq_none (by simp; omega)]
/-- Behind the sort the same slice owns the sorted fields. -/
theorem ownsF_sorted {w : World} {base g cap n : Nat} {T : TypeId} {os : Array Obj} {l d : List Fld} (hd : d.length = l.length) (h : w.ownsRow base T 2 (.slice (some ⟨g, 0, none⟩) l.length cap) l.length (l.flatMap encF)) :
    (sortWorldK encF 2 w g 0 n d.toArray os).ownsRow base T 2 (.slice (some ⟨g, 0, none⟩) l.length cap) l.length (d.flatMap encF) ∧ w.grownBy (sortWorldK encF 2 w g 0 n d.toArray os) (some g) := by
  rcases h.2 with ⟨e, _⟩ | ⟨g', cap', cur, e, hb, hh, h1, h2, h3, h4⟩
  · cases e
  · simp only [Value.slice.injEq, Option.some.injEq, Addr.mk.injEq, and_true, true_and] at e
    obtain ⟨rfl, rfl⟩ := e
    refine ⟨⟨by rw [flatF_len, hd], .inr ⟨g, cap, _, rfl, hb, heap_sortV (flatK encF 2 d.toArray) hh, h1, h2, by simp [putCells, h3], ?_⟩⟩, grownBy_sortV (flatK encF 2 d.toArray)⟩
    have e1 : l.length * 2 = (flatK encF 2 d.toArray).size := by simp [hd]
    rw [e1, take_putV _ _ (by rw [← e1, h3]; exact Nat.mul_le_mul_right _ h1), flatK_list]

/-- The names taken so far: no name twice; a name is there just where the map has it and it is no longer to come. -/
def CollN (D0 : DataW Unit) (left : Lit → Bool) (ss : List Nm) : Prop := ss.Nodup ∧ ∀ x, x ∈ ss ↔ (Maps.has D0 (keyT x) = true ∧ left (keyT x) = false)
theorem CollN.start (D0 : DataW Unit) : CollN D0 (Maps.has D0) [] := ⟨List.nodup_nil, fun x => by cases Maps.has D0 (keyT x) <;> simp⟩
theorem CollN.step {D0 : DataW Unit} {left : Lit → Bool} {ss : List Nm} (h : CollN D0 left ss) {x : Nm} {y : DataW Unit} (hlk : left (keyT x) = true) (hat : ∀ zd, D0.atKey (keyT x) zd = y) : CollN D0 (fun z => left z && !z.sameKey (keyT x)) (ss ++ [x]) := by
  have hhas : Maps.has D0 (keyT x) = true := has_true_of_atKey hat
  have hnew : x ∉ ss := fun hx => by have := ((h.2 x).1 hx).2; rw [hlk] at this; cases this
  refine ⟨List.nodup_append.2 ⟨h.1, by simp, fun a ha b hb => by simp at hb; subst hb; exact fun e => hnew (e ▸ ha)⟩, fun y => ?_⟩
  by_cases hy : y = x
  · subst hy; simp [hhas, WideAt.sameKey_self (keyT_lit y)]
  · have hs : (keyT y).sameKey (keyT x) = false := sameKey_ne fun e => hy (keyT_inj e)
    simp [h.2 y, hy, hs]
theorem keyT_inv {key : Value} {kl : Lit} (h : keyOf Tryz.prog 9 key = some kl) : ∃ x, key = encT x ∧ kl = keyT x := by
  obtain ⟨s, rfl, rfl, _⟩ := Go.WideMaps.string_of_keyOf Tryz.underlying9 h
  exact ⟨s.data.toList, rfl, rfl⟩
theorem keyT_val {x : Nm} {kl : Lit} (h : keyOf Tryz.prog 9 (encT x) = some kl) : kl = keyT x := by
  obtain ⟨s, e, rfl, _⟩ := Go.WideMaps.string_of_keyOf Tryz.underlying9 h
  have : s = ⟨x.toArray⟩ := by cases e; rfl
  rw [this]; rfl
theorem cell_two_new (w : World) (x y : Value) (T : TypeId) : ∀ (j : Nat) (u : Value), [x, y][j]? = some u → (w.alloc (.cells #[x, y] T)).cell? ((⟨w.heap.size, 0, none⟩ : Addr).add j) = some u := by
  intro j u hj
  have hadd : (⟨w.heap.size, 0, none⟩ : Addr).add j = ⟨w.heap.size, j, none⟩ := by unfold Addr.add; split <;> simp_all
  rw [hadd]
  match j, hj with
  | 0, hj => simp at hj; subst hj; simp
  | 1, hj => simp at hj; subst hj; simp
  | j + 2, hj => simp at hj
theorem sort33_none (p : Option Addr) (cap : Nat) (fv : Value) (w : World) : Calls Tryz.prog 33 #[.slice p 0 cap, fv] w fun e w' => e = .returned (.tuple #[]) ∧ w' = w := by
  have h := AnyF.slices_SortFunc_none Tryz.sortFld p cap fv w
  change Calls Tryz.prog 33 _ _ _ at h
  exact h
end Go.Proofs.YtbfkfmpfdafogaaGreatDoor

namespace Go.Proofs.YtbfkfmpfdafogaaGreatDoor
variable {G : List Go.Eng.Gl}
open Go.Eng Go.RowKit Go.Maps Go.Sort Go.Shelf Go.Lib
attribute [local irreducible] Hold
set_option maxRecDepth 100000

theorem infoT : (Tryz.prog.info? 9).map (fun i => (i.zero, i.size, i.bytes)) = some (some (Value.string ⟨#[]⟩), 1, 16) := by kernel_rfl
theorem infoFl : (Tryz.prog.info? 53).map (fun i => (i.zero, i.size, i.bytes)) = some (some (Value.agg #[.string ⟨#[]⟩, .string ⟨#[]⟩]), 2, 32) := by kernel_rfl
theorem zeroSl (w : World) : (zeroValue 24).run Tryz.prog w = .ok (.slice none 0 0) w := by kernel_rfl
set_option maxHeartbeats 1000000 in
theorem fields_go (l : List Fld) (ign : List (List UInt8)) (k : List Fld) (w : World) (X : Nat → Prop) (E : Env (CG G) w X) (v0 v1 : Value) (h0 : Rd w X (.sl 2 (l.map fldD)) v0) (h1 : Rd w X (strs ign) v1) (s : List Fld)
    (cs : Does (CG G) 30 [.sl 2 (l.map fldD)] [.sl 2 (s.map fldD)])
    (cw : Does (CG G) 29 [.sl 2 (s.map fldD), strs (viaN :: dateN :: ign)] [.sl 2 (k.map fldD)])
    (cl : ∀ f ∈ k, Does (CG G) 31 [.s f.1] [.s (lowF f.1)])
    (hk : k.length ≤ 1000000) (hig : ign.length ≤ 1000000) (hn : ∀ f ∈ k, f.1.length ≤ 140737488355328)
    (cj : ∀ f ∈ prs k, Does (CG G) 32 [strs (valsP f.1 (prs k)), .s sepF] [.s (joinF (valsP f.1 (prs k)) sepF)]) :
    Calls Tryz.prog 11 #[v0, v1] w fun e w' => ∃ v, e = .returned v ∧ Rd w' X (.sl 2 ((groupF (prs k)).map fldD)) v ∧ Below w.heap.size w w' := by
  have hmm := @run_makeMap Tryz.prog
  obtain ⟨i0, hi, hz0, hz1, hz2⟩ := info_parts infoT
  obtain ⟨i1, hi', hz0', hz1', hz2'⟩ := info_parts infoFl
  have cs' := fun (W : World) (hb : Below w.heap.size w W) => E.call1 cs hb (h0.under hb)
  go_enter Tryz.func11, Tryz.ntmps11
  go_wp2_with (first
    | (go_at_call 30; refine (cs' _ ((Below.refl _ _).alloc (Nat.le_refl _) _)).mono ?_; rintro e w1 ⟨vs, rfl, hrs, hb1⟩)
    | (at_builtin; refine wpList_append_texts _ rfl _ _ 24 rfl w.heap.size 9 i0 (.string ⟨#[]⟩) 16 Tryz.underlying24 hi hz0 hz1 hz2 rfl _ 2 _ (by omega) rfl (World.ownsRow_lit w1 #[encT viaN, encT dateN] 2 (Nat.le_trans (by simp) hb1.size) (by decide) rfl) ign _ rfl (h1.under (((Below.refl _ _).alloc (Nat.le_refl _) _).trans (hb1.mono (by simp)) |>.alloc (Nat.le_trans (by simp) hb1.size) _)) (by unfold maxLen; omega) (by omega) (Nat.le_trans (by simp) (Nat.le_trans hb1.size (by simp))) ?_; intro va w2 hown2 hg2 hloc2; go_frame)
    | (go_at_call 29;
       go_loud (
         have hb2 : Below w1.heap.size w1 w2 := ((Below.refl _ _).alloc (Nat.le_refl _) _).grown hg2 (by simp) (fun j hj => by cases hj; exact Nat.le_refl _)
         have hbw2 : Below w.heap.size w w2 := (((Below.refl _ _).alloc (Nat.le_refl _) _).trans (hb1.mono (by simp))).trans (hb2.mono (Nat.le_trans (by simp) hb1.size))
         have hd2 : Rd w2 X (strs (viaN :: dateN :: ign)) va := rd_texts (viaN :: dateN :: ign) (by rw [show (viaN :: dateN :: ign).length = 2 + ign.length by simp; omega]; exact hown2) E.x0
         refine (E.call2 cw hbw2 (hrs.under hb2) hd2).mono ?_
         rintro e w3 ⟨vk, rfl, hrk, hb3⟩
         obtain ⟨ak, ck, rfl, hck⟩ := flds_inv hrk))
    | go_in)
  have hb3w : w3.ownsMap Tryz.prog 9 hdrR w.heap.size 0 (.map []) := by
    have e0 : (w.alloc (.map #[] 0)).heap.size = w.heap.size + 1 := by simp
    have m1 := (World.ownsMap_made w Tryz.prog 9 hdrR).kept (grown_below hb1) (by simp)
    have h2 := hb1.size
    rw [e0] at h2
    have m2 := (m1.alloc (.cells #[encT viaN, encT dateN] 9)).kept hg2 (fun e => by have e2 : w.heap.size = w1.heap.size := Option.some.inj e; omega)
    exact m2.kept (grown_below hb3) (by simp)
  have hlt3 : w.heap.size < w3.heap.size := hb3w.lt
  have hakb : ∀ (blk off : Nat) (arr : Array Value) (T : TypeId) (fz : Nat × Nat), w3.heap[blk]? = some (.cells arr T fz) → blk ≠ w.heap.size := by
    intro blk off arr T fz h e
    obtain ⟨es, clock, h', _⟩ := hb3w
    rw [← e, h] at h'
    cases h'
  have hbw3 : Below w.heap.size w w3 := by
    have hb2 : Below w1.heap.size w1 w2 := ((Below.refl _ _).alloc (Nat.le_refl _) _).grown hg2 (by simp) (fun j hj => by cases hj; exact Nat.le_refl _)
    exact ((((Below.refl _ _).alloc (Nat.le_refl _) _).trans (hb1.mono (by simp))).trans (hb2.mono (Nat.le_trans (by simp) hb1.size))).trans (hb3.mono (by have := hb1.size; have := hb2.size; simp at *; omega))
  go_loopw [20] (fun v wr => ∃ (j : Nat) (D0 : DataW Unit), j ≤ k.length ∧ v = .int .i64 j ∧ Grp wr w.heap.size w3.heap.size j D0 ((prs k).take j) ∧ w3.grownBy wr (some w.heap.size)) (fun v _ => k.length - (intOf v).toNat)
  case atStart => exact ⟨0, _, Nat.zero_le _, rfl, Grp.start' hb3w hlt3, ⟨rfl, rfl, rfl, Nat.le_refl _, fun _ _ _ => rfl⟩⟩
  case round =>
    obtain ⟨j, D0, hj, rfl, hG, hgw⟩ := hrel
    rcases Nat.lt_or_ge j k.length with hlt | hge
    · obtain ⟨blk, off, arr, T, fz, rfl, hh, hcell⟩ := hck (by omega)
      have hf : k[j]? = some k[j] := List.getElem?_eq_getElem hlt
      generalize hfe : k[j] = f at hf
      have hfm : f ∈ k := by rw [← hfe]; exact List.getElem_mem hlt
      have hwr : wr.heap[blk]? = some (.cells arr T fz) := by
        rw [hgw.block blk (Array.getElem?_eq_some_iff.1 hh).1 (by have := hakb blk off arr T fz hh; simpa using this)]
        exact hh
      have hc0 : wr.cell? ⟨blk, off + j * 2, none⟩ = some (.string ⟨f.1.toArray⟩) := by simp [World.cell?, hwr, (hcell j f hf).1, encT]
      have hc1 : wr.cell? ⟨blk, off + j * 2 + 1, none⟩ = some (.string ⟨f.2.toArray⟩) := by simp [World.cell?, hwr, (hcell j f hf).2, encT]
      have hs3 : w3.heap.size ≤ wr.heap.size := hgw.size
      have hbwr : Below w.heap.size w wr := hbw3.grown hgw (Nat.le_of_lt hlt3) (fun j hj => by cases hj; exact Nat.le_refl _)
      have hll : (lowF f.1).length ≤ 140737488355328 := by unfold lowF; rw [List.length_map]; exact hn f hfm
      have hpl : ((prs k).take j).length ≤ 1000000 := by simp [prs]; omega
      have hvl := valsP_len (lowF f.1) ((prs k).take j)
      go_wp2_with (first
        | (go_at_call 31; go_loud (
            refine (E.call1 (cl f hfm) (hbwr.alloc (Nat.le_trans (Nat.le_of_lt hlt3) hs3) _) (Rd.s f.1)).mono ?_
            rintro e w4 ⟨vl, rfl, hrl, hb4⟩
            have hvle : vl = .string ⟨(lowF f.1).toArray⟩ := by cases hrl; rfl
            subst hvle
            have hbx : w4.cell? ⟨wr.heap.size, 1, none⟩ = some (.string ⟨f.2.toArray⟩) := (hb4.cell (by simp)).trans (by simp)
            have hG4 := (hG.alloc (.cells #[.string ⟨f.1.toArray⟩, .string ⟨f.2.toArray⟩] 53)).kept (grown_below hb4)))
        | (at_lookup; go_loud (refine wpList_lookup_grp _ rfl _ _ 59 rfl Tryz.underlying59 (zeroSl _) rfl hG4 (lowF f.1) rfl hll (by unfold maxLen; omega) ?_; intro vv hrow hback))
        | (at_builtin; go_loud (refine wpList_append_own_at _ rfl _ _ 24 rfl w3.heap.size 9 i0 (.string ⟨#[]⟩) 1 16 Tryz.underlying24 hi hz0 hz1 hz2 rfl (by decide) _ _ _ rfl (hrow.alloc _) ⟨w4.heap.size, 0, none⟩ 1 1 [encT f.2] rfl rfl (cell_one_new _ _ _) (fun u hu => by simp at hu; subst hu; rfl) (by unfold maxLen; omega) (by omega) (by have := hb4.size; simp at *; omega) ?_; intro v' w5 hown' hg5 hnil5 hloc5; go_frame))
        | (at_mapUpdate; go_loud (
            refine wpList_mapUpdate_grp _ rfl _ _ _ 59 rfl (b := w.heap.size) (lowF f.1) v' (fun w2 => ∃ D1, Grp w2 w.heap.size w3.heap.size (j + 1) D1 ((prs k).take j ++ [(lowF f.1, f.2)]) ∧ w5.grownBy w2 (some w.heap.size)) rfl rfl rfl (by
              obtain ⟨w6, D1, h1, h2, h3⟩ := hback w5 v' f.2 ((World.grownBy_alloc _ _ _).trans hg5) hown' (hloc5.imp id fun h => ⟨_, h, by simp⟩)
              exact ⟨w6, h1, D1, h2, h3⟩) ?_
            rintro w6 ⟨D1, hG6, hg6⟩))
        | go_in)
      have hps : (prs k).take (j + 1) = (prs k).take j ++ [(lowF f.1, f.2)] := by
        rw [List.take_add_one, show (prs k)[j]? = some (lowF f.1, f.2) by simp [prs, hf]]
        rfl
      have g4 : w3.grownBy w4 (some w.heap.size) := grown_row (grown_row hgw (World.grownBy_alloc wr _ none) (by simp)) (grown_below hb4) (by simp)
      have g5 : w3.grownBy w5 (some w.heap.size) := grown_row (grown_row g4 (World.grownBy_alloc w4 _ none) (by simp)) hg5 (fun i hi => .inl (hrow.lt i hi).1)
      refine ⟨⟨j + 1, D1, by omega, by go_num, by rw [hps]; exact hG6, grown_row g5 hg6 (fun i hi => .inr (Option.some.inj hi).symm)⟩, ?_⟩
      simp [intOf]; omega
    · obtain rfl : j = k.length := by omega
      rw [List.take_of_length_le (by simp [prs])] at hG
      obtain ⟨Gb, Gc, hrows, hinj⟩ := hG.rows
      have hGl : ∀ f ∈ prs k, Gb f.1 < wr.heap.size := fun f hf => ((hrows f hf).own.lt _ rfl).2
      have hbwr : Below w.heap.size w wr := hbw3.grown hgw (Nat.le_of_lt hlt3) (fun j hj => by cases hj; exact Nat.le_refl _)
      have hwl : w.heap.size ≤ wr.heap.size := hbwr.size
      have hsz0 := hG.map.size_le
      go_wp2_with (first
        | (at_range; go_loud (refine wpList_range_own _ rfl _ 59 rfl 9 24 lawT Tryz.underlying59 hdrR w.heap.size k.length _ rfl hG.map ?_; intro wg hrg0 hgg hsg))
        | go_in)
      go_frame
      generalize hr0 : wr.heap.size = r0 at hrg0 hsg hGl hwl ⊢
      have hls : ∀ os : List Nm, ((os.map (rowF (prs k))).flatMap encF).length = os.length * 2 := fun os => by rw [flatF_len, List.length_map]
      go_loopw [9] (fun v wr => ∃ (left : Lit → Bool) (cnt : Nat) (os : List Nm), wr.ranges Tryz.prog 9 hdrR w.heap.size r0 k.length D0 left cnt ∧ os.length + cnt ≤ Maps.size D0 ∧
          wr.ownsRow (r0 + 1) 53 2 v os.length ((os.map (rowF (prs k))).flatMap encF) ∧ CollN D0 left os ∧ (∀ f ∈ prs k, GRow wr w3.heap.size D0 (prs k) Gb Gc f.1) ∧ Below w.heap.size w wr ∧ r0 + 1 ≤ wr.heap.size)
        (fun _ wr => wr.rangeLeft w.heap.size r0)
      case atStart =>
        exact ⟨_, _, [], hrg0, by simp, ⟨rfl, .inl ⟨rfl, rfl⟩⟩, CollN.start _, fun f hf => (hrows f hf).kept hgg (by simp), hbwr.grown hgg hbwr.size (fun j hj => by cases hj), by omega⟩
      case round =>
        obtain ⟨left, cnt, os, hrg, hcs, hrow, hC, hGr, hbq, hsq⟩ := hrel
        go_wp2_with (first
          | (at_next; go_loud (refine wpList_next_ranges _ rfl _ rfl 9 lawT hdrR (fun x : Nm => Value.string ⟨x.toArray⟩) hdrV (fun key kl hk => by obtain ⟨x, hx, _⟩ := keyT_inv hk; exact ⟨x, hx⟩) (fun v y hv => hdr_inv hv) w.heap.size r0 k.length _ _ _ rfl hrg ?_ ?_))
          | go_in)
        · intro hc0 hl0
          have hmem : ∀ x, x ∈ os ↔ x ∈ (prs k).map (·.1) := fun x => by
            rw [hC.2 x, hl0]
            constructor
            · rintro ⟨h, _⟩
              obtain ⟨f, hf, e⟩ := hG.keys _ h
              rw [keyT_inj e]
              exact List.mem_map.2 ⟨f, hf, rfl⟩
            · intro h
              obtain ⟨f, hf, rfl⟩ := List.mem_map.1 h
              exact ⟨hG.here f hf, rfl⟩
          have hrowc := hrow
          rcases hrow.2 with ⟨rfl, hn0⟩ | ⟨g, cap, cur, rfl, hbase, hbb, h1', h2', h3', h4'⟩
          · obtain rfl : os = [] := List.eq_nil_of_length_eq_zero hn0
            have hc := sort33_none none 0 (.func (.func 34) #[] #[]) wr
            go_wp2_with (go_at_call 33; refine hc.mono ?_; rintro e w' ⟨rfl, rfl⟩)
            go_ret
            refine ⟨_, rfl, ?_, hbq⟩
            have : groupF (prs k) = [] := (sorted_group (r := []) (List.Perm.refl _) hC.1 hmem List.Pairwise.nil).symm
            rw [this]
            exact .slnil 2
          · have hgl : g < wr.heap.size := (Array.getElem?_eq_some_iff.1 hbb).1
            have hln : (os.map (rowF (prs k))).length = os.length := List.length_map _
            have hc := sort33 g 0 cap (os.map (rowF (prs k))) wr (holdsF (by rw [hln]; exact hrowc)) hgl (by rw [hln]; omega)
            rw [hln] at hc
            go_wp2_with (go_at_call 33; refine hc.mono ?_; rintro e w' ⟨rfl, d', n, ob, hperm, hsrt, rfl⟩)
            go_ret
            have hgrp : d' = groupF (prs k) := sorted_group hperm hC.1 hmem hsrt
            have hdl : d'.length = (os.map (rowF (prs k))).length := hperm.length_eq
            have hs' := ownsF_sorted (n := n) (os := ob) (d := d') hdl (by rw [hln]; exact hrowc)
            rw [hln] at hs' hdl
            refine ⟨_, rfl, ?_, hbq.grown hs'.2 hbq.size (fun j hj => by cases hj; omega)⟩
            rw [← hgrp]
            refine rd_flds d' (base := r0 + 1) (T := 53) (by rw [hdl]; exact hs'.1) (fun b hb => ?_)
            have := E.x0 b hb
            omega
        · intro x c kl yd yp w5 cnt2 hkey hlk hv hat hrg2 hlt hg2 hs2 hen
          obtain rfl := keyT_val hkey
          have hxm : ∃ f ∈ prs k, f.1 = x := by
            obtain ⟨f, hf, e⟩ := hG.keys _ (has_true_of_atKey hat)
            exact ⟨f, hf, (keyT_inj e).symm⟩
          obtain ⟨fx, hfx, rfl⟩ := hxm
          have hgx := hGr fx hfx
          have hy1 : yd = hdrD (Gb fx.1) (valsP fx.1 (prs k)).length (Gc fx.1) := by rw [← hat .nil, hgx.at_]
          have hce : hdrV c = hdrV (some (Gb fx.1, (valsP fx.1 (prs k)).length, Gc fx.1)) := hdrR_at (ps := yp) (by rw [hv, ← hy1])
          rw [hce] at hen ⊢
          have hGr5 : ∀ f ∈ prs k, GRow w5 w3.heap.size D0 (prs k) Gb Gc f.1 := fun f hf => (hGr f hf).kept hg2 (by have := hGl f hf; simp; omega)
          have hrow5 := hrow.kept hg2 (by
            rcases hrow.2 with ⟨e, _⟩ | ⟨g, cap, cur, e, hb, _⟩
            · exact .inl (by rw [e]; rfl)
            · exact .inr (by rw [e]; simp [Value.ownBlock]; omega))
          have hbq5 : Below w.heap.size w w5 := hbq.grown hg2 hbq.size (fun j hj => by cases hj; exact hwl)
          have hrd5 := rd_texts (X := X) _ (hGr5 fx hfx).own (fun b hb => Nat.lt_trans (E.x0 b hb) hlt3)
          clear hs2
          go_wp2_with (first
            | (go_at_call 32; go_loud (
                refine (E.call2 (cj fx hfx) hbq5 hrd5 (Rd.s sepF)).mono ?_
                rintro e w6 ⟨vj, rfl, hrj, hb6⟩
                have hvj : vj = .string ⟨(joinF (valsP fx.1 (prs k)) sepF).toArray⟩ := by cases hrj; rfl
                subst hvj
                have hrow6 := hrow5.kept (grown_below hb6) (Classical.em _)))
            | (at_builtin; go_loud (refine wpList_append_own_at _ rfl _ _ 23 rfl (r0 + 1) 53 i1 (.agg #[.string ⟨#[]⟩, .string ⟨#[]⟩]) 2 32 Tryz.underlying23 hi' hz0' hz1' hz2' rfl (by decide) _ _ _ rfl (hrow6.alloc _) ⟨w6.heap.size, 0, none⟩ 1 1 (encF (rowF (prs k) fx.1)) rfl rfl (cell_two_new _ _ _ _) (fun u hu => by simp [encF] at hu; rcases hu with rfl | rfl <;> rfl) (by unfold maxLen; omega) (by omega) (by have := hb6.size; have := hg2.size; simp at *; omega) ?_; intro v' w7 hown' hg7 hnil7 hloc7; go_frame))
            | go_in)
          have hrg6 := (hrg2.kept (grown_below hb6) (by simp) (by simp)).alloc (.cells #[encT fx.1, .string ⟨(joinF (valsP fx.1 (prs k)) sepF).toArray⟩] 53)
          have hob : ∀ j, u9.ownBlock = some j → r0 + 1 ≤ j := fun j hj => (hrow.lt j hj).1
          have hrg7 := hrg6.kept hg7 (fun e => by have := hob _ e.symm; omega) (fun e => by have := hob _ e.symm; omega)
          go_roundw
          case rel =>
            refine ⟨_, cnt2, os ++ [fx.1], hrg7, by simp; omega, ?_, hC.step hlk hat, fun f hf => ?_, ?_, ?_⟩
            · rw [List.map_append, List.flatMap_append, List.length_append]
              simpa using hown'
            · exact (((hGr5 f hf).kept (grown_below hb6) (by simp)).kept (World.grownBy_alloc w6 _ none) (by simp)).kept hg7 (fun e => by have := hob _ e; have := hGl f hf; omega)
            · exact ((hbq5.trans (hb6.mono hbq5.size)).alloc (Nat.le_trans hbq5.size hb6.size) _).grown hg7 (by have := hbq5.size; have := hb6.size; simp; omega) (fun j hj => by have := hob j hj; omega)
            · have := hg2.size; have := hb6.size; have := hg7.size; simp at *; omega
          case measure => rw [hrg7.left_eq, hrg.left_eq]; exact hlt
end Go.Proofs.YtbfkfmpfdafogaaGreatDoor

namespace Go.Proofs.YtbfkfmpfdafogaaGreatDoor
variable {G : List Go.Eng.Gl}
open Go.Eng Go.RowKit Go.Maps Go.Sort Go.Shelf Go.Lib
attribute [local irreducible] Hold
set_option maxRecDepth 100000

/-! Names, sorted, each once. -/
def leN (x y : Nm) : Bool := decide (x ≤ y)
theorem leN_tr : ∀ a b c : Nm, leN a b = true → leN b c = true → leN a c = true := fun a b c h1 h2 => by
  unfold leN at *
  simp only [decide_eq_true_eq] at *
  exact List.le_trans h1 h2
theorem leN_to : ∀ a b : Nm, (leN a b || leN b a) = true := fun a b => by
  unfold leN
  simp only [Bool.or_eq_true, decide_eq_true_eq]
  exact List.le_total a b
theorem compact_dist {zs : List Nm} (hs : zs.Pairwise fun a b => a ≤ b) : Lib.compact zs = distF zs := by
  have hget : ∀ j (h : j < zs.length), (zs.toArray)[j]! = zs[j] := fun j h => by
    rw [List.getElem!_toArray, getElem!_pos zs j h]
  have key : ∀ m, m ≤ zs.length → Asc (compactUpTo zs.toArray m) ∧ ∀ x, x ∈ compactUpTo zs.toArray m ↔ x ∈ zs.take m := by
    intro m
    induction m with
    | zero => intro _; exact ⟨List.Pairwise.nil, fun x => by simp [compactUpTo]⟩
    | succ m ih =>
      intro hm
      obtain ⟨h1, h2⟩ := ih (by omega)
      have hlt : m < zs.length := by omega
      rw [compactUpTo_succ, List.take_succ_eq_append_getElem hlt, hget m hlt]
      have hle : ∀ x, x ∈ zs.take m → x ≤ zs[m] := by
        intro x hx
        obtain ⟨i, hi, rfl⟩ := List.getElem_of_mem hx
        rw [List.getElem_take]
        have : i < m := by have := hi; simp at this; omega
        exact (List.pairwise_iff_getElem.1 hs) i m (by omega) hlt this
      by_cases hk : keeps zs.toArray m = true
      · rw [if_pos hk]
        refine ⟨List.pairwise_append.2 ⟨h1, List.pairwise_singleton _ _, fun a ha b hb => ?_⟩, fun x => by rw [List.mem_append, List.mem_append, h2]⟩
        simp at hb; subst hb
        have hane := hle a ((h2 a).1 ha)
        rcases nm_tri a zs[m] with h | h | h
        · exact h
        · exfalso
          -- the last one ahead is another one
          have hm0 : 0 < m := by
            rcases Nat.eq_zero_or_pos m with h0 | h0
            · subst h0
              have := (h2 a).1 ha
              simp at this
            · exact h0
          have hprev : zs[m - 1] ≠ zs[m] := by
            have hd : m = 0 ∨ (zs.toArray)[m]! ≠ (zs.toArray)[m - 1]! := of_decide_eq_true hk
            rw [hget m hlt, hget (m - 1) (by omega)] at hd
            rcases hd with hd | hd
            · omega
            · exact fun e => hd e.symm
          have hpm : zs[m - 1] ≤ zs[m] := (List.pairwise_iff_getElem.1 hs) (m - 1) m (by omega) hlt (by omega)
          obtain ⟨i, hi, e⟩ := List.getElem_of_mem ((h2 a).1 ha)
          rw [List.getElem_take] at e
          have him : i < m := by have := hi; simp at this; omega
          have hip : zs[i] ≤ zs[m - 1] := by
            rcases Nat.lt_or_ge i (m - 1) with h3 | h3
            · exact (List.pairwise_iff_getElem.1 hs) i (m - 1) (by omega) (by omega) h3
            · have : i = m - 1 := by omega
              subst this
              exact List.le_refl _
          rw [e, h] at hip
          exact hprev (List.le_antisymm hpm hip)
        · exact absurd h hane
      · rw [if_neg hk, List.append_nil]
        refine ⟨h1, fun x => ?_⟩
        rw [h2, List.mem_append]
        constructor
        · exact .inl
        · rintro (h | h)
          · exact h
          · simp at h; subst h
            have hm0 : m ≠ 0 := fun e => hk (by subst e; simp [keeps])
            have he : zs[m] = zs[m - 1] := by
              have hd : ¬ (m = 0 ∨ (zs.toArray)[m]! ≠ (zs.toArray)[m - 1]!) := fun h => hk (decide_eq_true h)
              rw [hget m hlt, hget (m - 1) (by omega)] at hd
              exact Classical.byContradiction fun h => hd (.inr h)
            rw [he]
            exact List.mem_iff_getElem.2 ⟨m - 1, by simp; omega, by rw [List.getElem_take]⟩
  obtain ⟨h1, h2⟩ := key zs.length (Nat.le_refl _)
  refine asc_ext h1 (distF_asc zs) fun x => ?_
  rw [mem_distF]
  exact (h2 x).trans (by rw [List.take_length])
theorem sort_dist (l : List Nm) : Lib.compact (l.mergeSort fun x y => decide (x ≤ y)) = distF l := by
  have hp : (l.mergeSort fun x y => decide (x ≤ y)).Pairwise fun a b => a ≤ b := (List.pairwise_mergeSort (le := leN) leN_tr leN_to l).imp fun {a b} h => by simpa [leN] using h
  rw [compact_dist hp]
  exact asc_ext (distF_asc _) (distF_asc _) fun x => by rw [mem_distF, mem_distF, (List.mergeSort_perm l _).mem_iff]

theorem sortT_row {w : World} {base g cap n : Nat} {T : TypeId} {os : Array Obj} {l d : List Nm} (hd : d.length = l.length) (h : w.ownsRow base T 1 (.slice (some ⟨g, 0, none⟩) l.length cap) l.length (l.map encT)) :
    (grow (putRow encStr (Sort.ahead w n) g 0 d.toArray) os).ownsRow base T 1 (.slice (some ⟨g, 0, none⟩) l.length cap) l.length (d.map encT) ∧ w.grownBy (grow (putRow encStr (Sort.ahead w n) g 0 d.toArray) os) (some g) := by
  rcases h.2 with ⟨e, _⟩ | ⟨g', cap', cur, e, hb, hh, h1, h2, h3, h4⟩
  · cases e
  · simp only [Value.slice.injEq, Option.some.injEq, Addr.mk.injEq, and_true, true_and] at e
    obtain ⟨rfl, rfl⟩ := e
    have hg : g < w.heap.size := (Array.getElem?_eq_some_iff.1 hh).1
    refine ⟨⟨by simp [hd], .inr ⟨g, cap, putCells encStr 0 d.toArray cur, rfl, hb, ?_, h1, h2, by simp [putCells, h3], ?_⟩⟩, ⟨rfl, rfl, rfl, by simp, fun k hk hne => ?_⟩⟩
    · rw [heap_grow_old _ _ (by simpa using hg)]
      simp [putRow, mapBlock, Sort.ahead, Array.getElem?_modify, hh]
      rfl
    · apply List.ext_getElem?
      intro j
      by_cases hj : j < l.length
      · rw [List.getElem?_take_of_lt (by omega), Array.getElem?_toList]
        have hjd : j < d.length := by omega
        have hjc : j < cur.size := by omega
        simp [putCells, hjd, hjc, encT]
      · rw [List.getElem?_take_eq_none (by omega), List.getElem?_eq_none (by simp; omega)]
    · rw [heap_grow_old _ _ (by simpa using hk)]
      have : g ≠ k := fun e => hne (by rw [e])
      simp [putRow, mapBlock, Sort.ahead, Array.getElem?_modify, this]
theorem holdsT {w : World} {base g cap : Nat} {T : TypeId} {l : List Nm} (h : w.ownsRow base T 1 (.slice (some ⟨g, 0, none⟩) l.length cap) l.length (l.map encT)) : Holds encStr w g 0 l.toArray := by
  intro j hj
  have hj' : j < l.length := by simpa using hj
  rw [Nat.zero_add]
  refine ⟨?_, h.frozenAt j⟩
  rw [h.cellAt j (by omega), List.getElem?_map, List.getElem?_eq_getElem hj', List.getElem!_toArray, getElem!_pos l j hj']
  rfl

def nmsF (k : List Fld) : List Nm := k.map (·.1)
set_option maxHeartbeats 1000000 in
theorem names_go (k : List Fld) (w : World) (X : Nat → Prop) (E : Env (CG G) w X) (v0 : Value) (h0 : Rd w X (.sl 2 (k.map fldD)) v0) (hk : k.length ≤ 1000000) :
    Calls Tryz.prog 14 #[v0] w fun e w' => ∃ v, e = .returned v ∧ Rd w' X (strs (distF (nmsF k))) v ∧ Below w.heap.size w w' := by
  obtain ⟨i0, hi, hz0, hz1, hz2⟩ := info_parts infoT
  obtain ⟨ak, ck, rfl, hck⟩ := flds_inv h0
  go_enter Tryz.func14, Tryz.ntmps14
  go_wp2
  go_loopw [3, 8] (fun u v wr => ∃ (j : Nat), j ≤ k.length ∧ v = .int .i64 j ∧ wr.ownsRow w.heap.size 9 1 u j (((nmsF k).take j).map encT) ∧ Below w.heap.size w wr) (fun _ v _ => k.length - (intOf v).toNat)
  case atStart => exact ⟨0, Nat.zero_le _, rfl, ⟨by simp, .inl ⟨rfl, rfl⟩⟩, Below.refl _ _⟩
  case round =>
    obtain ⟨j, hj, rfl, hrow, hb⟩ := hrel
    rcases Nat.lt_or_ge j k.length with hlt | hge
    · obtain ⟨blk, off, arr, T, fz, rfl, hh, hcell⟩ := hck (by omega)
      have hf : k[j]? = some k[j] := List.getElem?_eq_getElem hlt
      generalize hfe : k[j] = f at hf
      have hwr : wr.heap[blk]? = some (.cells arr T fz) := by
        rw [hb.block blk (Array.getElem?_eq_some_iff.1 hh).1]
        exact hh
      have hc0 : wr.cell? ⟨blk, off + j * 2, none⟩ = some (.string ⟨f.1.toArray⟩) := by simp [World.cell?, hwr, (hcell j f hf).1, encT]
      have hc1 : wr.cell? ⟨blk, off + j * 2 + 1, none⟩ = some (.string ⟨f.2.toArray⟩) := by simp [World.cell?, hwr, (hcell j f hf).2, encT]
      have hs3 : w.heap.size ≤ wr.heap.size := hb.size
      have hcn : ∀ (j : Nat) (u : Value), [encT f.1][j]? = some u → ((wr.alloc (.cells #[.string ⟨f.1.toArray⟩, .string ⟨f.2.toArray⟩] 53)).alloc (.cells #[.string ⟨f.1.toArray⟩] 9)).cell? ((⟨wr.heap.size + 1, 0, none⟩ : Addr).add j) = some u := by
        have e : (wr.alloc (.cells #[.string ⟨f.1.toArray⟩, .string ⟨f.2.toArray⟩] 53)).heap.size = wr.heap.size + 1 := by simp
        rw [← e]
        exact cell_one_new _ _ _
      go_wp2_with (first
        | (at_builtin; go_loud (refine wpList_append_own_at _ rfl _ _ 24 rfl w.heap.size 9 i0 (.string ⟨#[]⟩) 1 16 Tryz.underlying24 hi hz0 hz1 hz2 rfl (by decide) _ _ _ rfl ((hrow.alloc (.cells #[.string ⟨f.1.toArray⟩, .string ⟨f.2.toArray⟩] 53)).alloc _) ⟨wr.heap.size + 1, 0, none⟩ 1 1 [encT f.1] rfl rfl hcn (fun u hu => by simp at hu; subst hu; rfl) (by unfold maxLen; omega) (by omega) (by simp; omega) ?_; intro v' w5 hown' hg5 hnil5 hloc5; go_frame))
        | go_in)
      have hps : (nmsF k).take (j + 1) = (nmsF k).take j ++ [f.1] := by
        rw [List.take_add_one, show (nmsF k)[j]? = some f.1 by simp [nmsF, hf]]
        rfl
      go_roundw
      case rel => exact ⟨j + 1, by omega, by go_num, by rw [hps, List.map_append]; exact hown', ((hb.alloc hb.size _).alloc (Nat.le_trans hb.size (by simp)) _).grown hg5 (Nat.le_trans hb.size (by simp; omega)) (fun i hi => (hrow.lt i hi).1)⟩
      case measure => simp [intOf]; omega
    · obtain rfl : j = k.length := by omega
      rw [List.take_of_length_le (by simp [nmsF])] at hrow
      have hrowc := hrow
      rcases hrow.2 with ⟨rfl, hn0⟩ | ⟨g, cap, cur, rfl, hbase, hbb, h1', h2', h3', h4'⟩
      · have hc := Tryz.slices_Sort_string_none none 0 wr
        have hc2 := Tryz.slices_Compact_string_empty none 0 wr
        obtain rfl : k = [] := List.eq_nil_of_length_eq_zero hn0
        go_wp2_with (first | (go_at_call 42; refine hc.mono ?_; rintro e w' ⟨rfl, rfl⟩) | (go_at_call 43; refine hc2.mono ?_; rintro e w' ⟨rfl, rfl⟩) | go_in)
        go_ret
        exact ⟨_, rfl, .slnil 1, hb⟩
      · have hgl : g < wr.heap.size := (Array.getElem?_eq_some_iff.1 hbb).1
        have hln : (nmsF k).length = k.length := List.length_map _
        rw [← hln] at hrowc
        have hc := Tryz.slices_Sort_string g 0 cap (nmsF k) wr (holdsT hrowc) hgl (by rw [hln]; omega)
        rw [hln] at hc
        have hml : ((nmsF k).mergeSort fun x y => decide (x ≤ y)).length = (nmsF k).length := List.length_mergeSort _
        have hc' : Calls Tryz.prog 42 #[.slice (some ⟨g, 0, none⟩) k.length cap] wr fun e w5 => e = .returned (.tuple #[]) ∧ w5.ownsRow w.heap.size 9 1 (.slice (some ⟨g, 0, none⟩) (nmsF k).length cap) (nmsF k).length (((nmsF k).mergeSort fun x y => decide (x ≤ y)).map encT) ∧ wr.grownBy w5 (some g) := hc.mono (by
          rintro e w5 ⟨he, n, ob, rfl⟩
          exact ⟨he, sortT_row (n := n) (os := ob) hml hrowc⟩)
        go_wp2_with (first
          | (go_at_call 42; go_loud (refine hc'.mono ?_; rintro e w5 ⟨rfl, hr5, hg5⟩))
          | (go_at_call 43; go_loud (
              rw [← hml] at hr5
              have hc2 := Tryz.slices_Compact_string g 0 cap ((nmsF k).mergeSort fun x y => decide (x ≤ y)) w5 (holdsT hr5) (by rw [hml, hln]; omega) (by rw [hml, hln]; omega)
              rw [hml, hln, sort_dist] at hc2
              refine hc2.mono ?_
              rintro e w6 ⟨rfl, q, rfl⟩))
          | go_in)
        go_ret
        have hdl : (distF (nmsF k)).length ≤ k.length := by rw [← hln]; exact distF_len _
        have hrl : (distF (nmsF k) ++ List.replicate (k.length - (distF (nmsF k)).length) []).length = ((nmsF k).mergeSort fun x y => decide (x ≤ y)).length := by rw [hml, hln]; simp; omega
        have hs6 := sortT_row (n := q) (os := #[]) hrl hr5
        rw [grow_empty] at hs6
        obtain ⟨hr6, hg6⟩ := hs6
        refine ⟨_, rfl, ?_, (hb.grown hg5 hb.size (fun i hi => by cases hi; exact hbase)).grown hg6 (Nat.le_trans hb.size hg5.size) (fun i hi => by cases hi; exact hbase)⟩
        refine rd_texts (base := w.heap.size) (T := 9) (distF (nmsF k)) ⟨by simp, .inr ?_⟩ E.x0
        rcases hr6.2 with ⟨e, _⟩ | ⟨g', cap', cur', e, hb6, hh6, q1, q2, q3, q4⟩
        · cases e
        · simp only [Value.slice.injEq, Option.some.injEq, Addr.mk.injEq, and_true, true_and] at e
          obtain ⟨rfl, rfl⟩ := e
          refine ⟨g, cap, cur', rfl, hb6, hh6, Nat.le_trans hdl h1', q2, q3, ?_⟩
          have := congrArg (List.take ((distF (nmsF k)).length * 1)) q4
          rw [List.take_take, hml, hln, Nat.min_eq_left (by omega)] at this
          rw [this, List.map_append, List.take_append_of_le_length (by simp), List.take_of_length_le (by simp)]
theorem names49 (k : List Fld) (hk : k.length ≤ 1000000) : Does (CG G) 14 [.sl 2 (k.map fldD)] [strs (distF (nmsF k))] := by
  refine ⟨⟨_, Tryz.func14, by decide, rfl⟩, fun w X vs hX hG hl hd => ?_⟩
  obtain ⟨v0, rfl⟩ : ∃ v0, vs = #[v0] := by
    obtain ⟨l⟩ := vs
    match l, hl with
    | [x], _ => exact ⟨x, rfl⟩
  refine (names_go k w X ⟨hX, hG⟩ v0 (hd 0 _ v0 rfl rfl) hk).mono ?_
  rintro e w' ⟨v, rfl, hr, hb⟩
  exact ⟨v, rfl, .d _ _ hr, hb⟩
/-- Fields that the code can normalize: not too many, not too long. -/
structure FOk (l : List Fld) (ign : List Nm) : Prop where
  len : l.length ≤ 1000000
  nm : ∀ f, f ∈ l → f.1.length ≤ 140737488355328
  sum : lsum (valsF connN l) ≤ 4294967295
  els : ∀ e, e ∈ lstF (valsF connN l) → e.length ≤ 140737488355328
  ilen : ign.length ≤ 999990
  inm : ∀ n, n ∈ ign → n.length ≤ 140737488355328
  join : ∀ n, (joinF (valsP n (prs (keptF l ign))) sepF).length ≤ 140737488355328
theorem woF_mem {ns : List Nm} {l : List Fld} {f : Fld} (h : f ∈ woF ns l) : f ∈ l := (List.mem_filter.1 h).1
theorem fields46 (l : List Fld) (ign : List Nm) (h : FOk l ign) : Does (CG G) 11 [.sl 2 (l.map fldD), strs ign] [.sl 2 ((normF l ign).map fldD)] := by
  have hsl : (stripF l).length ≤ l.length := woF_len _ _
  have hkl : (keptF l ign).length ≤ l.length := Nat.le_trans (woF_len _ _) hsl
  have hkm : ∀ f, f ∈ keptF l ign → f ∈ l := fun f hf => woF_mem (woF_mem hf)
  have hlen := h.len
  have hil := h.ilen
  have hvd : ∀ x, x ∈ [viaN, dateN] → x.length ≤ 140737488355328 := by decide
  have cs := strip89 (G := G) l (by omega) h.nm (Nat.le_trans h.sum (by decide)) h.els
  have cw := wo88 (G := G) (stripF l) (viaN :: dateN :: ign) (by omega) (fun f hf => h.nm f (woF_mem hf)) (by simp only [List.length_cons]; omega) (fun n hn => by
    rcases List.mem_cons.1 hn with rfl | hn
    · exact hvd _ (by simp)
    · rcases List.mem_cons.1 hn with rfl | hn
      · exact hvd _ (by simp)
      · exact h.inm n hn)
  refine ⟨⟨_, Tryz.func11, by decide, rfl⟩, fun w X vs hX hG hl hd => ?_⟩
  obtain ⟨v0, v1, rfl⟩ : ∃ v0 v1, vs = #[v0, v1] := by
    obtain ⟨l⟩ := vs
    match l, hl with
    | [x, y], _ => exact ⟨x, y, rfl⟩
  refine (fields_go l ign (keptF l ign) w X ⟨hX, hG⟩ v0 v1 (hd 0 _ v0 rfl rfl) (hd 1 _ v1 rfl rfl) (stripF l) cs cw (fun f hf => lowA (G := G) f.1 (h.nm f (hkm f hf))) (by omega) (by omega) (fun f hf => h.nm f (hkm f hf)) (fun f hf => join58 (G := G) _ _ (by have := valsP_len f.1 (prs (keptF l ign)); have : (prs (keptF l ign)).length = (keptF l ign).length := List.length_map _; omega) (h.join f.1))).mono ?_
  rintro e w' ⟨v, rfl, hr, hb⟩
  exact ⟨v, rfl, .d _ _ hr, hb⟩
end Go.Proofs.YtbfkfmpfdafogaaGreatDoor

namespace Go.Proofs.YtbfkfmpfdafogaaGreatDoor
variable {G : List Go.Eng.Gl}
open Go.Eng
attribute [local irreducible] Hold
set_option maxRecDepth 100000

/-! The reference's With, Names, Fields. -/
theorem wiF_skip {s : Nm} : ∀ {a : List Nm}, (∀ x, x ∈ a → x < s) → ∀ b, wiF (a ++ b) s = a ++ wiF b s
  | [], _, b => rfl
  | x :: r, h, b => by
    rw [List.cons_append, List.cons_append, wiF, if_pos (h x (by simp)), wiF_skip (fun y hy => h y (by simp [hy])) b]
theorem less_dec (a b : List UInt8) : Op.bytesLess a b = decide (a < b) := Go.Proofs.bytesLess_eq a b
theorem with75 (l : List Nm) (s : Nm) (hl : l.length ≤ 1000000) : Does (CG G) 38 [strs l, .s s] [strs (wiF l s)] := by
  have hlen : (l.map D.s).length = l.length := by simp
  unfold strs
  refine Does.mk (n := 45) Tryz.func38 rfl rfl rfl (Nat.le_of_ble_eq_true rfl) ?_
  repeat refine seq_on ?_
  apply loop_inv (fun i : Nat => i ≤ l.length ∧ ∀ x, x ∈ l.take i → x < s) (fun i => ⟨[(0, .d (.sl 1 (l.map .s))), (1, .d (.s s)), (5, .d (.i .i64 (i : Int)))], [], 2⟩) (fun i => l.length - i) 0 ⟨Nat.zero_le _, fun x hx => by simp at hx⟩ []
  · ((repeat' constructor) <;> (first | refine hold ?_ | rfl) <;> first | with_reducible rfl | (congr 1 <;> omega) | (congr 1 <;> simp; done) | (simp; done) | exact encB_snoc _ _ | skip)
  · rintro i ⟨hi, hp⟩
    have hsk := wiF_skip hp (l.drop i)
    rw [List.take_append_drop] at hsk
    repeat refine seq_on ?_
    refine cmp_dec (fun h1 => ?_) (fun h1 => ?_)
    · have hi' : i < l.length := by omega
      have hdr : l.drop i = l[i] :: l.drop (i + 1) := List.drop_eq_getElem_cons hi'
      repeat refine seq_on ?_
      refine Eng.get_at i rfl (getStrs hi') ?_
      by_cases hlt : l[i] < s
      · refine cmp_is true (by rw [less_dec]; exact decide_eq_true hlt) ?_
        repeat refine seq_on ?_
        refine ar ⟨by omega, by omega⟩ ?_
        apply again (i + 1) [] ⟨by omega, fun x hx => by
          rw [List.take_succ_eq_append_getElem hi'] at hx
          rcases List.mem_append.1 hx with hx | hx
          · exact hp x hx
          · simp at hx; subst hx; exact hlt⟩ (by omega)
        ((repeat' constructor) <;> (first | refine hold ?_ | rfl) <;> first | with_reducible rfl | (congr 1 <;> omega) | (congr 1 <;> simp; done) | (simp; done) | exact encB_snoc _ _ | skip)
      · refine cmp_is false (by rw [less_dec]; exact decide_eq_false hlt) ?_
        repeat refine seq_on ?_
        refine cmp_yes (by omega) ?_
        refine Eng.get_at i rfl (getStrs hi') ?_
        by_cases he : l[i] = s
        · refine cmp_is true (decide_eq_true he) ?_
          repeat refine seq_on ?_
          refine fin_eqN ?_
          rw [hsk, hdr, wiF, if_neg hlt, if_pos he, ← hdr, List.take_append_drop]
        · refine cmp_is false (decide_eq_false he) ?_
          ((try refine And.intro (draw_ok (by kernel_rfl)) ?_); repeat refine seq_on ?_)
          refine bnd i rfl (by omega) ?_
          refine app_ok (by simp; omega) ?_
          refine app_ok (by simp; omega) ?_
          refine bnd i rfl (by omega) ?_
          refine app_ok (by simp; omega) ?_
          ((try refine And.intro (draw_ok (by kernel_rfl)) ?_); repeat refine seq_on ?_)
          refine fin_eqN ?_
          rw [hsk, hdr, wiF, if_neg hlt, if_neg he, ← hdr]
          simp
    · obtain rfl : i = l.length := by omega
      repeat refine seq_on ?_
      refine cmp_no (by omega) ?_
      ((try refine And.intro (draw_ok (by kernel_rfl)) ?_); repeat refine seq_on ?_)
      refine bnd l.length rfl (by omega) ?_
      refine app_ok (by simp; omega) ?_
      refine app_ok (by simp; omega) ?_
      refine bnd l.length rfl (by omega) ?_
      refine app_ok (by simp; omega) ?_
      ((try refine And.intro (draw_ok (by kernel_rfl)) ?_); repeat refine seq_on ?_)
      refine fin_eqN ?_
      rw [hsk, ← hlen, List.drop_length, List.take_length, hlen, List.take_length, List.drop_length]
      simp [wiF]
theorem namesR (l : List Fld) (hl : l.length ≤ 1000000) : Does (CG G) 15 [.sl 2 (l.map fldD)] [strs (distF (nmsF l))] := by
  have hlen : (l.map fldD).length = l.length := by simp
  have hnl : (nmsF l).length = l.length := List.length_map _
  refine Does.mk (n := 19) Tryz.func15 rfl rfl rfl (Nat.le_of_ble_eq_true rfl) ?_
  repeat refine seq_on ?_
  apply loop_inv (fun i : Nat => i ≤ l.length) (fun i => ⟨[(0, .d (.sl 2 (l.map fldD))), (3, .d (.sl 1 ((distF ((nmsF l).take i)).map .s))), (4, .d (.i .i64 (i : Int)))], [], 2⟩) (fun i => l.length - i) 0 (Nat.zero_le _) []
  · ((repeat' constructor) <;> (first | refine hold ?_ | rfl) <;> first | with_reducible rfl | (congr 1 <;> omega) | (congr 1 <;> simp; done) | (simp; done) | exact encB_snoc _ _ | skip)
  · intro i hi
    repeat refine seq_on ?_
    refine cmp_dec (fun h1 => ?_) (fun h1 => ?_)
    · have hi' : i < l.length := by omega
      have hdl := distF_len ((nmsF l).take i)
      have htl : ((nmsF l).take i).length ≤ i := by rw [List.length_take]; omega
      have c := with75 (G := G) (distF ((nmsF l).take i)) l[i].1 (by omega)
      have hs : (nmsF l).take (i + 1) = (nmsF l).take i ++ [l[i].1] := by
        rw [List.take_succ_eq_append_getElem (by omega)]
        simp [nmsF]
      rw [← distF_snoc, ← hs] at c
      unfold strs at c
      repeat refine seq_on ?_
      refine Eng.get_at i rfl (getFld hi') ?_
      repeat refine seq_on ?_
      refine call_by c ?_
      repeat refine seq_on ?_
      refine ar ⟨by omega, by omega⟩ ?_
      apply again (i + 1) [] (by omega) (by omega)
      ((repeat' constructor) <;> (first | refine hold ?_ | rfl) <;> first | with_reducible rfl | (congr 1 <;> omega) | (congr 1 <;> simp; done) | (simp; done) | exact encB_snoc _ _ | skip)
    · obtain rfl : i = l.length := by omega
      rw [List.take_of_length_le (by omega)]
      repeat refine seq_on ?_
      rfl
theorem low_low (s : Nm) : lowF (lowF s) = lowF s := by
  unfold lowF
  rw [List.map_map]
  refine List.map_congr_left fun c _ => ?_
  show low1 (low1 c) = low1 c
  unfold low1
  by_cases h : 65 ≤ c.toNat ∧ c.toNat ≤ 90
  · rw [if_pos h, if_neg]
    rw [UInt8.toNat_ofNat']
    omega
  · rw [if_neg h, if_neg h]
theorem valsP_low (n : Nm) (k : List Fld) : valsP (lowF n) (prs k) = valsF n k := by
  unfold valsP prs valsF isName
  rw [List.filter_map, List.map_map]
  rfl
theorem woF_two (a b : List Nm) (l : List Fld) : woF a (woF b l) = woF (b ++ a) l := by
  unfold woF anyN
  rw [List.filter_filter]
  congr 1
  funext f
  rw [List.any_append]
  cases (b.any fun n => isName n f) <;> simp
def viaL : List (List UInt8) := [[118, 105, 97], [100, 97, 116, 101]]
theorem kept_two (l : List Fld) (ign : List Nm) : woF ign (woF viaL (stripF l)) = keptF l ign := by
  rw [woF_two]
  unfold keptF
  refine woF_low ?_ _
  rw [List.map_append, show viaL.map lowF = [viaN, dateN].map lowF by decide]
  rfl
theorem fieldsR (l : List Fld) (ign : List Nm) (h : FOk l ign) : Does (CG G) 12 [.sl 2 (l.map fldD), strs ign] [.sl 2 ((normF l ign).map fldD)] := by
  have hlen := h.len
  have hil := h.ilen
  have c1 := stripR74 (G := G) l (by omega) h.nm h.sum h.els
  have hsl : (stripF l).length ≤ l.length := woF_len _ _
  have c2 := wo73 (G := G) (stripF l) viaL (by omega) (fun f hf => h.nm f (woF_mem hf)) (by decide) (by decide)
  have hvl : (woF viaL (stripF l)).length ≤ (stripF l).length := woF_len _ _
  have c3 := wo73 (G := G) (woF viaL (stripF l)) ign (by omega) (fun f hf => h.nm f (woF_mem (woF_mem hf))) (by omega) h.inm
  rw [kept_two] at c3
  have hkl : (keptF l ign).length ≤ l.length := Nat.le_trans (woF_len _ _) hsl
  have hkm : ∀ f, f ∈ keptF l ign → f.1.length ≤ 140737488355328 := fun f hf => h.nm f (woF_mem (woF_mem hf))
  have hj := h.join
  unfold normF groupF
  generalize woF viaL (stripF l) = x2 at c2 c3
  generalize stripF l = x1 at c1 c2
  generalize keptF l ign = k at c3 hkl hkm hj ⊢
  have hpn : (prs k).map (·.1) = k.map fun f => lowF f.1 := by unfold prs; rw [List.map_map]; rfl
  have hnl : (k.map fun f => lowF f.1).length = k.length := List.length_map _
  have hdl := distF_len (k.map fun f => lowF f.1)
  rw [hpn]
  have hklen : (k.map fldD).length = k.length := by simp
  have hmem : ∀ n, n ∈ distF (k.map fun f => lowF f.1) → ∃ f ∈ k, n = lowF f.1 := fun n hn => by
    obtain ⟨f, hf, rfl⟩ := List.mem_map.1 (mem_distF.1 hn)
    exact ⟨f, hf, rfl⟩
  generalize hN : distF (k.map fun f => lowF f.1) = N at hmem hdl
  have hNl : (N.map D.s).length = N.length := by simp
  unfold strs viaL at *
  refine Does.mk (n := 52) Tryz.func12 rfl rfl rfl (Nat.le_of_ble_eq_true rfl) ?_
  repeat refine seq_on ?_
  refine call_by c1 ?_
  refine call_by c2 ?_
  refine call_by c3 ?_
  repeat refine seq_on ?_
  apply loop_inv (fun i : Nat => i ≤ k.length) (fun i => ⟨[(5, .d (.sl 2 (k.map fldD))), (6, .d (.sl 1 ((distF ((k.map fun f => lowF f.1).take i)).map .s))), (7, .d (.i .i64 (i : Int)))], [], 2⟩) (fun i => k.length - i) 0 (Nat.zero_le _) []
  · ((repeat' constructor) <;> (first | refine hold ?_ | rfl) <;> first | with_reducible rfl | (congr 1 <;> omega) | (congr 1 <;> simp; done) | (simp; done) | exact encB_snoc _ _ | skip)
  · intro i hi
    repeat refine seq_on ?_
    refine cmp_dec (fun h1 => ?_) (fun h1 => ?_)
    · have hi' : i < k.length := by omega
      have hdl2 := distF_len ((k.map fun f => lowF f.1).take i)
      have htl : ((k.map fun f => lowF f.1).take i).length ≤ i := by rw [List.length_take]; omega
      have cl := lowR (G := G) k[i].1 (hkm _ (List.getElem_mem hi'))
      have c := with75 (G := G) (distF ((k.map fun f => lowF f.1).take i)) (lowF k[i].1) (by omega)
      have hs : (k.map fun f => lowF f.1).take (i + 1) = (k.map fun f => lowF f.1).take i ++ [lowF k[i].1] := by
        rw [List.take_succ_eq_append_getElem (by omega)]
        simp
      rw [← distF_snoc, ← hs] at c
      unfold strs at c
      repeat refine seq_on ?_
      refine Eng.get_at i rfl (getFld hi') ?_
      repeat refine seq_on ?_
      refine call_by cl ?_
      refine call_by c ?_
      repeat refine seq_on ?_
      refine ar ⟨by omega, by omega⟩ ?_
      apply again (i + 1) [] (by omega) (by omega)
      ((repeat' constructor) <;> (first | refine hold ?_ | rfl) <;> first | with_reducible rfl | (congr 1 <;> omega) | (congr 1 <;> simp; done) | (simp; done) | exact encB_snoc _ _ | skip)
    · obtain rfl : i = k.length := by omega
      rw [List.take_of_length_le (by omega), hN]
      repeat refine seq_on ?_
      apply loop_inv (fun i : Nat => i ≤ N.length) (fun i => ⟨[(5, .d (.sl 2 (k.map fldD))), (6, .d (.sl 1 (N.map .s))), (8, .os 16), (9, .d (.i .i64 (i : Int)))], [(16, some (.buf 2 (((N.take i).map (rowF (prs k))).map fldD)))], 2⟩) (fun i => N.length - i) 0 (Nat.zero_le _) [(16, _)]
      · ((repeat' constructor) <;> (first | refine hold ?_ | rfl) <;> first | with_reducible rfl | (congr 1 <;> omega) | (congr 1 <;> simp; done) | (simp; done) | exact encB_snoc _ _ | skip)
      · intro i hi
        repeat refine seq_on ?_
        refine cmp_dec (fun h1 => ?_) (fun h1 => ?_)
        · have hi' : i < N.length := by omega
          obtain ⟨f, hf, he⟩ := hmem _ (List.getElem_mem hi')
          have hv := valsR (G := G) k N[i] (by omega) (by rw [he]; unfold lowF; rw [List.length_map]; exact hkm f hf) hkm
          have hvv : valsF N[i] k = valsP N[i] (prs k) := by
            rw [he, ← valsP_low, low_low]
          rw [hvv] at hv
          have hvl := valsP_len N[i] (prs k)
          have hpl : (prs k).length = k.length := List.length_map _
          have cj := join59 (G := G) (valsP N[i] (prs k)) sepF (by omega) (hj _)
          unfold strs sepF at *
          repeat refine seq_on ?_
          refine Eng.get_at i rfl (getStrs hi') ?_
          refine Eng.get_at i rfl (getStrs hi') ?_
          refine call_by hv ?_
          refine call_by cj ?_
          refine app_ok (by simp; omega) ?_
          ((try refine And.intro (draw_ok (by kernel_rfl)) ?_); repeat refine seq_on ?_)
          refine ar ⟨by omega, by omega⟩ ?_
          apply again (i + 1) [(16, _)] (by omega) (by omega)
          ((repeat' constructor) <;> (first | refine hold ?_ | rfl) <;> first | with_reducible rfl | (congr 1 <;> omega) | (congr 1 <;> simp; done) | (simp; done) | exact encB_snoc _ _ | skip)
          all_goals (rw [List.take_succ_eq_append_getElem hi', List.map_append, List.map_append]; rfl)
        · obtain rfl : i = N.length := by omega
          rw [List.take_of_length_le (Nat.le_refl _)]
          repeat refine seq_on ?_
          rfl
end Go.Proofs.YtbfkfmpfdafogaaGreatDoor

namespace Go.Proofs.YtbfkfmpfdafogaaGreatDoor
variable {G : List Go.Eng.Gl}
open Go.Eng
attribute [local irreducible] Hold
set_option maxRecDepth 100000

theorem rd_fldN {w : World} {X : Nat → Prop} {f : Fld} {v : Value} (h : Rd w X (fldD f) v) : v = .agg #[.string ⟨f.1.toArray⟩, .string ⟨f.2.toArray⟩] := by
  unfold fldD at h
  cases h with
  | agg _ vs hl hr =>
    obtain ⟨l⟩ := vs
    match l, hl, hr with
    | [a, b], _, hr =>
      rw [(hr 0 _ a rfl rfl).sinv, (hr 1 _ b rfl rfl).sinv]

theorem eqFldN (f : Fld) : EqTy Tryz.prog 53 (fldD f) (fldD f) true := by
  refine ⟨by kernel_rfl, fun w X va vb ha hb => ?_⟩
  rw [rd_fldN ha, rd_fldN hb]
  have hS : Tryz.prog.underlying 53 = some (.struct (Tryz.prog.fieldsOf 53)) := by kernel_rfl
  have hp : Tryz.prog.stoodInHeld 53 = false := by kernel_rfl
  have u9 := Tryz.underlying9
  have a9 := Tryz.isAgg9
  have z9 := Tryz.sizeOf9
  show (Op.equalIn (9999 + 1) 53 _ _).run Tryz.prog w = _
  rw [run_equalIn_agg w 9999 53 _ _ hS hp]
  simp only [Program.fieldsOf, Tryz.underlying53]
  go_simp

theorem sameFN (fs : List Fld) (h : fs.length ≤ 9223372036854775807) : Does (CG G) 10 [.sl 2 (fs.map fldD), .sl 2 (fs.map fldD)] [.b true] := by
  have hl : (fs.map fldD).length = fs.length := by simp
  refine Does.mk (n := 26) Tryz.func10 rfl rfl rfl (Nat.le_of_ble_eq_true rfl) ?_
  repeat refine seq_on ?_
  refine cmp_no (by simp) ?_
  repeat refine seq_on ?_
  apply loop_inv (fun i : Nat => i ≤ fs.length) (fun i => ⟨[(0, .d (.sl 2 (fs.map fldD))), (1, .d (.sl 2 (fs.map fldD))), (5, .d (.i .i64 (i : Int)))], [], 2⟩) (fun i => fs.length - i) 0 (by omega) []
  · ((repeat' constructor) <;> (first | refine hold ?_ | rfl) <;> first | with_reducible rfl | (congr 1 <;> omega) | (congr 1 <;> simp; done) | (simp; done) | exact encB_snoc _ _ | skip)
  · intro i hi
    repeat refine seq_on ?_
    refine cmp_dec (fun h1 => ?_) (fun h1 => ?_)
    · rw [hl] at h1
      have hi' : i < fs.length := by omega
      repeat refine seq_on ?_
      refine Eng.get_at i rfl (x := fldD fs[i]) (by simp [hi']) ?_
      refine Eng.get_at i rfl (x := fldD fs[i]) (by simp [hi']) ?_
      refine eq_agg (eqFldN _) (cmp_is true rfl ?_)
      (refine ⟨draw_ok (by kernel_rfl), ?_⟩; repeat refine seq_on ?_)
      refine ar ⟨by omega, by omega⟩ ?_
      apply again (i + 1) [] (by omega) (by omega)
      ((repeat' constructor) <;> (first | refine hold ?_ | rfl) <;> first | with_reducible rfl | (congr 1 <;> omega) | (congr 1 <;> simp; done) | (simp; done) | exact encB_snoc _ _ | skip)
    · repeat refine seq_on ?_
      rfl

/-! Sizes of fields. -/
def fsz (l : List Fld) : Nat := (l.map fun f => f.1.length + f.2.length + 1).sum
theorem fsz_cons (f : Fld) (l : List Fld) : fsz (f :: l) = f.1.length + f.2.length + 1 + fsz l := by simp [fsz]
theorem fsz_len (l : List Fld) : l.length ≤ fsz l := by
  induction l with
  | nil => exact Nat.le_refl _
  | cons f r ih => rw [fsz_cons, List.length_cons]; omega
theorem fsz_mem {l : List Fld} {f : Fld} (h : f ∈ l) : f.1.length + f.2.length + 1 ≤ fsz l := by
  induction l with
  | nil => cases h
  | cons x r ih =>
    rw [fsz_cons]
    rcases List.mem_cons.1 h with rfl | h
    · omega
    · have := ih h; omega
theorem fsz_filter (p : Fld → Bool) (l : List Fld) : fsz (l.filter p) ≤ fsz l := by
  induction l with
  | nil => exact Nat.le_refl _
  | cons f r ih =>
    rw [List.filter_cons]
    split
    · rw [fsz_cons, fsz_cons]; omega
    · rw [fsz_cons]; omega
theorem fsz_take (l : List Fld) (n : Nat) : fsz (l.take n) ≤ fsz l := by
  induction l generalizing n with
  | nil => simp
  | cons f r ih =>
    cases n with
    | zero => simp [fsz]
    | succ n => rw [List.take_succ_cons, fsz_cons, fsz_cons]; have := ih n; omega
theorem fsz_prs (l : List Fld) : fsz (prs l) = fsz l := by
  unfold fsz prs
  rw [List.map_map]
  congr 1
  refine List.map_congr_left fun f _ => ?_
  simp [lowF]
theorem lsum_vals (p : Fld → Bool) (l : List Fld) : lsum ((l.filter p).map (·.2)) ≤ fsz l := by
  induction l with
  | nil => exact Nat.le_refl _
  | cons f r ih =>
    rw [List.filter_cons, fsz_cons]
    split
    · rw [List.map_cons]
      show (f.2.length + 1) + lsum _ ≤ _
      omega
    · omega
theorem lsum_mem {l : List (List UInt8)} {x : List UInt8} (h : x ∈ l) : x.length + 1 ≤ lsum l := by
  induction l with
  | nil => cases h
  | cons y r ih =>
    have e : lsum (y :: r) = y.length + 1 + lsum r := by simp [lsum]
    rw [e]
    rcases List.mem_cons.1 h with rfl | h
    · omega
    · have := ih h; omega
theorem joinF_len (l : List (List UInt8)) (sep : List UInt8) (h : sep.length ≤ 2) : (joinF l sep).length ≤ 2 * lsum l := by
  unfold joinF Lib.join
  induction l with
  | nil => simp
  | cons x r ih =>
    have e : lsum (x :: r) = x.length + 1 + lsum r := by simp [lsum]
    rw [e]
    cases r with
    | nil => simp; omega
    | cons y r =>
      rw [List.intercalate_cons_cons]
      simp only [List.length_append]
      omega
theorem lstF_mem {l : List (List UInt8)} {e : List UInt8} (h : e ∈ lstF l) : e.length ≤ lsum l := by
  obtain ⟨s, hs, he⟩ := List.mem_flatMap.1 h
  unfold elF keepT at he
  obtain ⟨t, ht, rfl⟩ := List.mem_map.1 (List.mem_filter.1 he).1
  have h1 := trimF_len t
  have h2 := splitF_mem ht
  have h3 := lsum_mem hs
  omega
theorem FOk.small {l : List Fld} {ign : List Nm} (h0 : l.length ≤ 1000000) (h : fsz l ≤ 2000000000) (h1 : ign.length ≤ 999990) (h2 : ∀ n, n ∈ ign → n.length ≤ 140737488355328) : FOk l ign := by
  have hk : fsz (keptF l ign) ≤ fsz l := Nat.le_trans (fsz_filter _ _) (fsz_filter _ _)
  refine ⟨h0, fun f hf => by have := fsz_mem hf; omega, ?_, fun e he => ?_, h1, h2, fun n => ?_⟩
  · have := lsum_vals (isName connN) l
    unfold valsF; omega
  · have := lstF_mem he
    have := lsum_vals (isName connN) l
    unfold valsF at *; omega
  · have h3 := joinF_len (valsP n (prs (keptF l ign))) sepF (by decide)
    have h4 := lsum_vals (fun f => decide (f.1 = n)) (prs (keptF l ign))
    rw [fsz_prs] at h4
    unfold valsP at *
    omega

/-! The fields that the source makes are small. -/
theorem n14_len : ∀ x, x ∈ n14 → x.length ≤ 15 := by decide
theorem v11_len : ∀ x, x ∈ v11 → x.length ≤ 40 := by decide
theorem fldF_small (l : List Int) (i : Nat) : (fldF l i).1.length + (fldF l i).2.length + 1 ≤ 56 := by
  unfold fldF
  have h1 := n14_len _ (ofF_mem l i n14 (by decide))
  have h2 := v11_len _ (ofF_mem l (nxt l i) v11 (by decide))
  have h3 := trimF_len (ofF l (nxt l i) v11)
  simp only
  omega
theorem fldsW_small (l : List Int) : ∀ (n i : Nat) (o : List Fld), fsz (fldsW l n i o).2 ≤ fsz o + 56 * n ∧ (fldsW l n i o).2.length = o.length + n
  | 0, i, o => ⟨Nat.le_refl _, rfl⟩
  | n + 1, i, o => by
    have h := fldsW_small l n (nxt l (nxt l i)) (o ++ [fldF l i])
    have h1 := fldF_small l i
    have e : fsz (o ++ [fldF l i]) = fsz o + ((fldF l i).1.length + (fldF l i).2.length + 1) := by simp [fsz]
    rw [e] at h
    simp only [fldsW]
    refine ⟨by omega, ?_⟩
    rw [h.2, List.length_append, List.length_singleton]; omega
theorem fldsF_small (l : List Int) (i : Nat) (most : Int) (hm : 0 ≤ most) : (fsz (fldsF l i most).2 : Int) ≤ 56 * most ∧ ((fldsF l i most).2.length : Int) ≤ most := by
  unfold fldsF
  have hr := nxV_lt l i (most + 1) (by omega)
  have h := fldsW_small l (nxV l i (most + 1)) (nxt l i) []
  have e : fsz ([] : List Fld) = 0 := rfl
  rw [e] at h
  rw [h.2, List.length_nil]
  omega
theorem madeF_small (l : List Int) (raw : List Fld) (wild : Bool) (h : fsz raw ≤ 4194304) : (madeF l raw wild).length ≤ 30 ∧ fsz (madeF l raw wild) ≤ 4194304 := by
  unfold madeF
  cases wild with
  | true =>
    simp only [if_true]
    have := fsz_take raw 30
    exact ⟨by rw [List.length_take]; omega, by omega⟩
  | false =>
    have := fldsF_small l 0 9 (by decide)
    simp only [Bool.false_eq_true, if_false]
    omega
end Go.Proofs.YtbfkfmpfdafogaaGreatDoor

namespace Go.Proofs.YtbfkfmpfdafogaaGreatDoor
variable {G : List Go.Eng.Gl}
open Go.Eng
attribute [local irreducible] Hold
set_option maxRecDepth 100000

def awIn : List Fld := [([88, 45, 66], [50]), ([120, 45, 97], [49]), ([88, 45, 66], [51]), ([68, 97, 116, 101], [110, 111, 119]), ([69], [53])]
def awOut : List Fld := [([120, 45, 97], [49]), ([120, 45, 98], [50, 44, 32, 51])]
theorem awEq : normF awIn [[101]] = awOut := by decide +kernel
theorem awake19 : Does (CG G) 16 [] [.b true] := by
  have c1 := fields46 (G := G) awIn [[101]] (FOk.small (by decide) (by decide) (by decide) (by decide))
  rw [awEq] at c1
  have c2 := sameFN (G := G) awOut (by decide)
  simp only [awIn, List.map, fldD, strs] at c1
  simp only [awOut, List.map, fldD] at c1 c2
  refine Does.mk (n := 15) Tryz.func16 rfl rfl rfl (Nat.le_of_ble_eq_true rfl) ?_
  repeat refine seq_on ?_
  refine call_by c1 ?_
  repeat refine seq_on ?_
  refine call_by c2 ?_
  repeat refine seq_on ?_
  rfl
theorem lawNormFields (l : List Int) (raw : List Fld) (ign : List Nm) (wild : Bool) (hl : l.length ≤ 9223372036854775807) (hr : fsz raw ≤ 4194304) (hi : ∀ n, n ∈ ign → n.length ≤ 140737488355328) :
    Does (CG G) 3 [ints l, .sl 2 (raw.map fldD), strs ign, .b wild] [.b true] := by
  have hm := made44 (G := G) l raw wild hl
  have hs := madeF_small l raw wild hr
  generalize madeF l raw wild = x at hm hs
  have hil : (ign.map D.s).length = ign.length := List.length_map _
  have h1 := fields46 (G := G) x (ign.take 10) (FOk.small (by omega) (by omega) (by rw [List.length_take]; omega) (fun n hn => hi n (List.mem_of_mem_take hn)))
  have h2 := fieldsR (G := G) x (ign.take 10) (FOk.small (by omega) (by omega) (by rw [List.length_take]; omega) (fun n hn => hi n (List.mem_of_mem_take hn)))
  have hnl : (normF x (ign.take 10)).length ≤ 30 := by
    unfold normF groupF
    rw [List.length_map]
    refine Nat.le_trans (distF_len _) ?_
    rw [List.length_map]
    unfold prs keptF
    rw [List.length_map]
    exact Nat.le_trans (woF_len _ _) (Nat.le_trans (woF_len _ _) hs.1)
  have h3 := sameFN (G := G) (normF x (ign.take 10)) (by omega)
  have h4 := names49 (G := G) x (by omega)
  have h5 := namesR (G := G) x (by omega)
  have hdl : (distF (nmsF x)).length ≤ 30 := Nat.le_trans (distF_len _) (by unfold nmsF; rw [List.length_map]; exact hs.1)
  have h6 := sameS48 (G := G) (distF (nmsF x)) (by omega)
  have h7 := awake19 (G := G)
  generalize normF x (ign.take 10) = y at h1 h2 h3
  change Does _ _ [_] [strs (distF (nmsF x))] at h4
  generalize distF (nmsF x) = z at h4 h5 h6
  unfold strs at *
  refine Does.mk (n := 36) Tryz.func3 rfl rfl rfl (Nat.le_of_ble_eq_true rfl) ?_
  repeat refine seq_on ?_
  refine call_by hm ?_
  repeat refine seq_on ?_
  have fin : ∀ b : Bool, b = true → b = true := fun _ h => h
  refine cmp_dec (fun h => ?_) (fun h => ?_)
  · repeat refine seq_on ?_
    refine bnd 10 rfl (by omega) ?_
    rw [← List.map_take]
    repeat refine seq_on ?_
    refine call_by h1 ?_
    refine call_by h2 ?_
    refine call_by h3 ?_
    refine call_by h4 ?_
    refine call_by h5 ?_
    refine call_by h6 ?_
    refine call_by h7 ?_
    rfl
  · rw [List.take_of_length_le (by omega)] at h1 h2
    repeat refine seq_on ?_
    refine call_by h1 ?_
    refine call_by h2 ?_
    refine call_by h3 ?_
    refine call_by h4 ?_
    refine call_by h5 ?_
    refine call_by h6 ?_
    refine call_by h7 ?_
    rfl
end Go.Proofs.YtbfkfmpfdafogaaGreatDoor

namespace Go.Proofs.YtbfkfmpfdafogaaGreatDoor
open Go.Eng
attribute [local irreducible] Hold
set_option maxRecDepth 100000

/-! What normalizing does not look at: the case of names, the order of fields with different names; and that twice is once. -/
def lowL (l : List Fld) : List Fld := l.map fun f => (lowF f.1, f.2)
theorem isName_low (n : Nm) (f : Fld) : isName n (lowF f.1, f.2) = isName n f := by unfold isName; rw [low_low]
theorem anyN_lowF (ns : List Nm) (f : Fld) : anyN ns (lowF f.1, f.2) = anyN ns f := by unfold anyN; simp only [isName_low]
theorem woF_lowL (ns : List Nm) (l : List Fld) : woF ns (lowL l) = lowL (woF ns l) := by
  unfold woF lowL
  rw [List.filter_map]
  congr 1
  refine List.filter_congr fun f _ => ?_
  simp only [Function.comp, anyN_lowF]
theorem valsF_lowL (n : Nm) (l : List Fld) : valsF n (lowL l) = valsF n l := by
  unfold valsF lowL
  rw [List.filter_map, List.map_map]
  congr 1
  refine List.filter_congr fun f _ => ?_
  simp only [Function.comp, isName_low]
theorem prs_lowL (l : List Fld) : prs (lowL l) = prs l := by
  unfold prs lowL
  rw [List.map_map]
  refine List.map_congr_left fun f _ => ?_
  simp only [Function.comp, low_low]
theorem norm_low (l : List Fld) (ign : List Nm) : normF (lowL l) ign = normF l ign := by
  unfold normF keptF stripF stripN
  rw [valsF_lowL, woF_lowL, woF_lowL, prs_lowL]
theorem group_ext {p q : List Fld} (h1 : ∀ x, x ∈ p.map (·.1) ↔ x ∈ q.map (·.1)) (h2 : ∀ n, valsP n p = valsP n q) : groupF p = groupF q := by
  have e : distF (p.map (·.1)) = distF (q.map (·.1)) := asc_ext (distF_asc _) (distF_asc _) fun x => by rw [mem_distF, mem_distF]; exact h1 x
  unfold groupF
  rw [e]
  refine List.map_congr_left fun n _ => ?_
  unfold rowF
  rw [h2]
theorem two_filter (q : Fld → Bool) (A B : List Fld) (f g : Fld) (h : q f = false ∨ q g = false) : (A ++ f :: g :: B).filter q = (A ++ g :: f :: B).filter q := by
  rw [List.filter_append, List.filter_append]
  congr 1
  rcases h with h | h <;> cases h1 : q f <;> cases h2 : q g <;> simp_all [List.filter]
theorem norm_swap (A B : List Fld) (f g : Fld) (ign : List Nm) (hne : lowF f.1 ≠ lowF g.1) : normF (A ++ f :: g :: B) ign = normF (A ++ g :: f :: B) ign := by
  have hv : ∀ n, valsF n (A ++ f :: g :: B) = valsF n (A ++ g :: f :: B) := fun n => by
    unfold valsF
    rw [two_filter]
    unfold isName
    by_cases h : lowF f.1 = lowF n
    · exact .inr (decide_eq_false fun h2 => hne (h.trans h2.symm))
    · exact .inl (decide_eq_false h)
  unfold normF keptF stripF stripN
  rw [hv, woF_two, woF_two]
  generalize (fixedN ++ (lstF (valsF connN (A ++ g :: f :: B))).filter keepE) ++ (viaN :: dateN :: ign) = ns
  refine group_ext (fun x => ?_) fun n => ?_
  · have hp : (woF ns (A ++ f :: g :: B)).Perm (woF ns (A ++ g :: f :: B)) := (List.Perm.append_left A (List.Perm.swap g f B)).filter _
    exact ((hp.map _).map _).mem_iff
  · have e : ∀ k : List Fld, valsP n (prs (woF ns k)) = (k.filter fun x => decide (lowF x.1 = n) && !anyN ns x).map (·.2) := fun k => by
      unfold valsP prs woF
      rw [List.filter_map, List.map_map, List.filter_filter]
      rfl
    rw [e, e, two_filter]
    by_cases h : lowF f.1 = n
    · refine .inr ?_
      rw [decide_eq_false fun h2 => hne (h.trans h2.symm), Bool.false_and]
    · refine .inl ?_
      rw [decide_eq_false h, Bool.false_and]

/-- Fields with ascending names in small letters, none of which the code strikes, stay as they are. -/
theorem valsP_one {l : List Fld} (hn : (l.map (·.1)).Nodup) {f : Fld} (hf : f ∈ l) : valsP f.1 l = [f.2] := by
  induction l with
  | nil => cases hf
  | cons x r ih =>
    rw [List.map_cons, List.nodup_cons] at hn
    obtain ⟨h1, h2⟩ := hn
    unfold valsP
    rw [List.filter_cons]
    rcases List.mem_cons.1 hf with rfl | hr
    · rw [if_pos (by simp), List.map_cons]
      have : (r.filter fun y => decide (y.1 = f.1)) = [] := List.filter_eq_nil_iff.2 fun y hy => by
        simp only [decide_eq_true_eq]
        exact fun e => h1 (List.mem_map.2 ⟨y, hy, e⟩)
      rw [this]; rfl
    · have hx : x.1 ≠ f.1 := fun e => h1 (List.mem_map.2 ⟨f, hr, e.symm⟩)
      rw [if_neg (by simpa using hx)]
      exact ih h2 hr
theorem group_self {l : List Fld} (h : Asc (l.map (·.1))) : groupF l = l := by
  unfold groupF
  rw [distF_self h, List.map_map]
  refine (List.map_congr_left fun f hf => ?_).trans (List.map_id l)
  simp only [Function.comp, rowF, id]
  rw [valsP_one (asc_nodup h) hf]
  unfold joinF
  rw [Go.Lib.join_one]
/-- What the code strikes whatever the fields are. -/
def struck : List Nm := fixedN ++ [viaN, dateN]
theorem woF_all {ns : List Nm} {l : List Fld} (h : ∀ f ∈ l, anyN ns f = false) : woF ns l = l := List.filter_eq_self.2 fun f hf => by rw [h f hf]; rfl
theorem anyN_app (a b : List Nm) (f : Fld) : anyN (a ++ b) f = (anyN a f || anyN b f) := List.any_append
theorem norm_self {l : List Fld} {ign : List Nm} (ha : Asc (l.map (·.1))) (hlow : ∀ f ∈ l, lowF f.1 = f.1) (hs : ∀ f ∈ l, anyN struck f = false) (hi : ∀ f ∈ l, anyN ign f = false) : normF l ign = l := by
  have hsp : ∀ f ∈ l, anyN fixedN f = false ∧ anyN [viaN, dateN] f = false := fun f hf => by
    have := hs f hf
    unfold struck at this
    rw [anyN_app, Bool.or_eq_false_iff] at this
    exact this
  have hv : valsF connN l = [] := by
    unfold valsF
    rw [List.filter_eq_nil_iff.2 fun f hf h => ?_]
    · rfl
    · have h1 := (hsp f hf).1
      unfold anyN at h1
      rw [List.any_eq_false] at h1
      exact h1 connN (by decide) h
  have hst : stripN l = fixedN := by unfold stripN; rw [hv]; rfl
  have hk : keptF l ign = l := by
    unfold keptF stripF
    rw [hst, woF_all fun f hf => (hsp f hf).1]
    refine woF_all fun f hf => ?_
    rw [show viaN :: dateN :: ign = [viaN, dateN] ++ ign from rfl, anyN_app, (hsp f hf).2, hi f hf]
    rfl
  have hp : prs l = l := by
    unfold prs
    refine (List.map_congr_left fun f hf => ?_).trans (List.map_id l)
    rw [hlow f hf]; rfl
  unfold normF
  rw [hk, hp, group_self ha]
/-- .. and such are the normalized ones. -/
theorem norm_names {l : List Fld} {ign : List Nm} {g : Fld} (h : g ∈ normF l ign) : ∃ f ∈ l, g.1 = lowF f.1 ∧ anyN struck f = false ∧ anyN ign f = false := by
  unfold normF groupF at h
  obtain ⟨n, hn, rfl⟩ := List.mem_map.1 h
  rw [mem_distF] at hn
  unfold prs at hn
  rw [List.map_map] at hn
  obtain ⟨f, hf, rfl⟩ := List.mem_map.1 hn
  unfold keptF woF at hf
  obtain ⟨h1, h2⟩ := List.mem_filter.1 hf
  unfold stripF woF stripN at h1
  obtain ⟨h3, h4⟩ := List.mem_filter.1 h1
  refine ⟨f, h3, rfl, ?_, ?_⟩
  · rw [anyN_app] at h4
    rw [show viaN :: dateN :: ign = [viaN, dateN] ++ ign from rfl, anyN_app] at h2
    unfold struck
    rw [anyN_app]
    cases h5 : anyN fixedN f <;> cases h6 : anyN [viaN, dateN] f <;> simp_all
  · rw [show viaN :: dateN :: ign = [viaN, dateN] ++ ign from rfl, anyN_app] at h2
    cases h6 : anyN ign f <;> simp_all
theorem norm_asc (l : List Fld) (ign : List Nm) : Asc ((normF l ign).map (·.1)) := by
  unfold normF groupF
  rw [List.map_map]
  have : ((·.1) ∘ rowF (prs (keptF l ign))) = id := rfl
  rw [this, List.map_id]
  exact distF_asc _
theorem norm_twice (l : List Fld) (a b : List Nm) (h : ∀ f ∈ l, anyN a f = false → anyN b f = false) : normF (normF l a) b = normF l a := by
  have key : ∀ g ∈ normF l a, ∃ f ∈ l, g.1 = lowF f.1 ∧ anyN struck f = false ∧ anyN a f = false := fun g hg => norm_names hg
  have hlow : ∀ g ∈ normF l a, lowF g.1 = g.1 := fun g hg => by
    obtain ⟨f, _, e, _⟩ := key g hg
    rw [e, low_low]
  have tr : ∀ (ns : List Nm) (g f : Fld), g.1 = lowF f.1 → anyN ns g = anyN ns f := fun ns g f e => by
    unfold anyN isName
    rw [e, low_low]
  refine norm_self (norm_asc l a) hlow (fun g hg => ?_) fun g hg => ?_
  · obtain ⟨f, _, e, h1, _⟩ := key g hg
    rw [tr _ _ _ e]; exact h1
  · obtain ⟨f, hf, e, _, h2⟩ := key g hg
    rw [tr _ _ _ e]; exact h f hf h2
theorem norm_len (l : List Fld) (ign : List Nm) : (normF l ign).length ≤ l.length := by
  unfold normF groupF
  rw [List.length_map]
  refine Nat.le_trans (distF_len _) ?_
  rw [List.length_map]
  unfold prs keptF
  rw [List.length_map]
  exact Nat.le_trans (woF_len _ _) (woF_len _ _)
theorem fsz_bound {l : List Fld} {m : Nat} (h : ∀ f ∈ l, f.1.length + f.2.length + 1 ≤ m) : fsz l ≤ l.length * m := by
  induction l with
  | nil => simp [fsz]
  | cons f r ih =>
    rw [fsz_cons, List.length_cons, Nat.succ_mul]
    have := h f (by simp)
    have := ih fun g hg => h g (by simp [hg])
    omega
theorem norm_fsz (l : List Fld) (ign : List Nm) : fsz (normF l ign) ≤ l.length * (3 * fsz l + 1) := by
  refine Nat.le_trans (fsz_bound (m := 3 * fsz l + 1) fun g hg => ?_) (Nat.mul_le_mul_right _ (norm_len l ign))
  obtain ⟨f, hf, e, _⟩ := norm_names hg
  have h1 := fsz_mem hf
  have h2 : g.1.length = f.1.length := by rw [e]; simp [lowF]
  unfold normF groupF at hg
  obtain ⟨n, _, rfl⟩ := List.mem_map.1 hg
  have h3 := joinF_len (valsP n (prs (keptF l ign))) sepF (by decide)
  have h4 := lsum_vals (fun f => decide (f.1 = n)) (prs (keptF l ign))
  rw [fsz_prs] at h4
  have h5 : fsz (keptF l ign) ≤ fsz l := Nat.le_trans (fsz_filter _ _) (fsz_filter _ _)
  simp only [rowF] at h2 ⊢
  unfold valsP at *
  omega
end Go.Proofs.YtbfkfmpfdafogaaGreatDoor

namespace Go.Proofs.YtbfkfmpfdafogaaGreatDoor
variable {G : List Go.Eng.Gl}
open Go.Eng
attribute [local irreducible] Hold
set_option maxRecDepth 100000

theorem rd_nilN {w : World} {X : Nat → Prop} {z z' : Nat} {v : Value} (h : Rd w X (.sl z []) v) : Rd w X (.sl z' []) v := by
  cases h with
  | slnil => exact .slnil z'
  | sle _ a => exact .sle z' a _
  | sl _ _ blk off len cap arr T fz f hh hX hl hc hw h1 h2 =>
    refine .sl z' [] blk off len cap arr T fz f hh hX hl hc ?_ ?_ ?_ <;> intro j <;> simp
theorem Does.convN {f : FuncId} {ds ds' rs : List D} (h : Does (CG G) f ds rs) (hl : ds'.length = ds.length) (hc : ∀ (j : Nat) (d' : D), ds'[j]? = some d' → ∃ d, ds[j]? = some d ∧ ∀ (w : World) (X : Nat → Prop) (v : Value), Rd w X d' v → Rd w X d v) : Does (CG G) f ds' rs := by
  refine ⟨h.1, fun w X vs hX hG hlen hr => h.2 w X vs hX hG (by omega) fun j d v hd hv => ?_⟩
  have hj : j < ds'.length := by rw [hl]; exact (List.getElem?_eq_some_iff.1 hd).1
  obtain ⟨d2, h2, h3⟩ := hc j ds'[j] (by simp [hj])
  rw [hd] at h2; cases h2
  exact h3 w X v (hr j _ v (by simp [hj]) hv)
theorem made44n (l : List Int) (hl : l.length ≤ 9223372036854775807) : Does (CG G) 9 [ints l, .sl 1 [], .b false] [.sl 2 ((madeF l [] false).map fldD)] := by
  refine Does.convN (made44 (G := G) l [] false hl) rfl fun j d hj => ?_
  match j, hj with
  | 0, hj => exact ⟨_, rfl, fun _ _ _ h => by cases hj; exact h⟩
  | 1, hj => exact ⟨_, rfl, fun _ _ _ h => by cases hj; exact rd_nilN h⟩
  | 2, hj => exact ⟨_, rfl, fun _ _ _ h => by cases hj; exact h⟩
def etag1 : List Nm := [[101, 116, 97, 103]]
def etag2 : List Nm := [[69, 84, 97, 103]]
theorem asc_prev {y : List Fld} (h : Asc (y.map (·.1))) {i : Nat} (h0 : 0 < i) (hi : i < y.length) : y[i - 1].1 < y[i].1 := by
  have := (List.pairwise_iff_getElem.1 h) (i - 1) i (by simp; omega) (by simpa using hi) (by omega)
  simpa using this
/-- Two neighbours change places. -/
def swapL (l : List Fld) (k : Nat) : List Fld := (l.set k (l.getD (k + 1) ([], []))).set (k + 1) (l.getD k ([], []))
theorem swapL_len (l : List Fld) (k : Nat) : (swapL l k).length = l.length := by simp [swapL]
theorem split_two {l : List Fld} {k : Nat} (h : k + 1 < l.length) : l = l.take k ++ l[k] :: l[k + 1] :: l.drop (k + 2) := by
  have h1 : l.drop k = l[k] :: l.drop (k + 1) := List.drop_eq_getElem_cons (by omega)
  have h2 : l.drop (k + 1) = l[k + 1] :: l.drop (k + 2) := List.drop_eq_getElem_cons h
  rw [← h2, ← h1, List.take_append_drop]
theorem set_two (A B : List Fld) (f g : Fld) : ((A ++ f :: g :: B).set A.length g).set (A.length + 1) f = A ++ g :: f :: B := by simp
theorem swapL_eq {l : List Fld} {k : Nat} (h : k + 1 < l.length) : swapL l k = l.take k ++ l[k + 1] :: l[k] :: l.drop (k + 2) := by
  have hk : (l.take k).length = k := by rw [List.length_take]; omega
  have e1 : l.getD (k + 1) ([], []) = l[k + 1] := by simp [List.getD, h]
  have e2 : l.getD k ([], []) = l[k] := by have : k < l.length := by omega
                                           simp [List.getD, this]
  unfold swapL
  rw [e1, e2]
  have hs := split_two h
  have ht := set_two (l.take k) (l.drop (k + 2)) l[k] l[k + 1]
  rw [hk, ← hs] at ht
  exact ht
theorem swapL_map {l : List Fld} {k : Nat} (h : k + 1 < l.length) : ((l.map fldD).set k (fldD l[k + 1])).set (k + 1) (fldD l[k]) = (swapL l k).map fldD := by
  have e1 : l.getD (k + 1) ([], []) = l[k + 1] := by simp [List.getD, h]
  have e2 : l.getD k ([], []) = l[k] := by have : k < l.length := by omega
                                           simp [List.getD, this]
  unfold swapL
  rw [e1, e2, List.map_set, List.map_set]
theorem swapL_mem {l : List Fld} {k : Nat} (h : k + 1 < l.length) {f : Fld} : f ∈ swapL l k ↔ f ∈ l := by
  rw [swapL_eq h]
  conv => rhs; rw [split_two h]
  simp only [List.mem_append, List.mem_cons]
  constructor <;> (rintro (h | h | h | h) <;> simp [h])
theorem swapL_norm {l : List Fld} {k : Nat} {ign : List Nm} (h : k + 1 < l.length) (hne : lowF l[k].1 ≠ lowF l[k + 1].1) : normF (swapL l k) ign = normF l ign := by
  rw [swapL_eq h, ← norm_swap _ _ _ _ ign hne, ← split_two h]
def stepG (x : List Fld) (i : Nat) : List Fld := lowL (x.take i)
end Go.Proofs.YtbfkfmpfdafogaaGreatDoor

