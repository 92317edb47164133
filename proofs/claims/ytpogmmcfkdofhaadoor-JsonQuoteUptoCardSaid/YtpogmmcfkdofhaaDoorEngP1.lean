/-
  What one view says of another.
-/
import Derived.Test.YtpogmmcfkdofhaaDoorEngP
namespace Go.Eng
open Go.RowKit (Below)

def hasN (l : List Nat) (x : Nat) : Bool := match l with | [] => false | y :: r => match Nat.beq y x with | true => true | false => hasN r x
def meetN (l m : List Nat) : Bool := match l with | [] => false | x :: r => match hasN m x with | true => true | false => meetN r m

theorem hasN_iff {l : List Nat} {x : Nat} : hasN l x = true ↔ x ∈ l := by
  induction l with
  | nil => simp [hasN]
  | cons y r ih =>
    simp only [hasN]
    split
    · rename_i hb; simp [Nat.eq_of_beq_eq_true hb]
    · rename_i hb
      rw [ih]
      have : x ≠ y := fun h => by subst h; simp at hb
      simp [this]

theorem meetN_iff {l m : List Nat} : meetN l m = true ↔ ∃ x, x ∈ l ∧ x ∈ m := by
  induction l with
  | nil => simp [meetN]
  | cons y r ih =>
    simp only [meetN]
    split
    · rename_i hb; exact ⟨fun _ => ⟨y, List.mem_cons_self, hasN_iff.1 hb⟩, fun _ => rfl⟩
    · rename_i hb
      rw [ih]
      constructor
      · rintro ⟨x, h1, h2⟩; exact ⟨x, List.mem_cons_of_mem _ h1, h2⟩
      · rintro ⟨x, h1, h2⟩
        rcases List.mem_cons.1 h1 with rfl | h1
        · rw [hasN_iff.2 h2] at hb; cases hb
        · exact ⟨x, h1, h2⟩

def names (st : AS) (k : Nat) : Prop := k / 16 < st.nx

/-! ### What one view says of another -/

def rho (l : List (Nat × Nat)) (k : Nat) : Nat := match look l k with | some j => j | none => k

/-- What is left to the prover. -/
def Hold (p : Prop) : Prop := p
theorem hold {p : Prop} (h : p) : Hold p := h
theorem Hold.out {p : Prop} (h : Hold p) : p := h
theorem blt_lt {m n : Nat} (h : Nat.blt m n = true) : m < n := by simp [Nat.blt] at h; omega

def celLe0 (ρ : List (Nat × Nat)) (N : Nat) (a b : AV) : Prop :=
  match b with
  | .any => True
  | .d y => match a with | .d x => Hold (x = y) | _ => False
  | .op k i j => match a with | .op k' i' j' => k' = rho ρ k ∧ i' = i ∧ j' = j ∧ Nat.blt (k / 16) N = true | _ => False
  | .os k => match a with | .os k' => k' = rho ρ k ∧ Nat.blt (k / 16) N = true | _ => False
  | .nl s => match a with | .nl s' => s' = s | _ => False
  | .pp y j => match a with | .pp x i => Hold (x = y) ∧ i = j | _ => False
  | .gp g => match a with | .gp g' => g' = g | _ => False
  | _ => False

def celsLe0 (ρ : List (Nat × Nat)) (N : Nat) : List AV → List AV → Prop
  | [], [] => True
  | a :: l, b :: m => celLe0 ρ N a b ∧ celsLe0 ρ N l m
  | _, _ => False

/-- chk: which rows (of st) may be read as data from now on. -/
def celLe (st : AS) (chk : List Nat → Bool) (ρ : List (Nat × Nat)) (N : Nat) (a b : AV) : Prop :=
  match b with
  | .any => True
  | .d y => match a with | .d x => Hold (x = y) | a => toDK st a fun d us => Hold (d = y) ∧ chk us = true
  | .op k i j => match a with | .op k' i' j' => k' = rho ρ k ∧ i' = i ∧ j' = j ∧ Nat.blt (k / 16) N = true | _ => False
  | .os k => match a with | .os k' => k' = rho ρ k ∧ Nat.blt (k / 16) N = true | _ => False
  | .nl s => match a with | .nl s' => s' = s | _ => False
  | .pp y j => match a with | .pp x i => Hold (x = y) ∧ i = j | _ => False
  | .gp g => match a with | .gp g' => g' = g | _ => False
  | .fn g xs ys => match a with | .fn g' xs' ys' => g' = g ∧ celsLe0 ρ N xs' xs ∧ celsLe0 ρ N ys' ys | _ => False
  | _ => False

def celsLe (st : AS) (chk : List Nat → Bool) (ρ : List (Nat × Nat)) (N : Nat) : List AV → List AV → Prop
  | [], [] => True
  | a :: l, b :: m => celLe st chk ρ N a b ∧ celsLe st chk ρ N l m
  | _, _ => False

def avLe (st : AS) (chk : List Nat → Bool) (ρ : List (Nat × Nat)) (N : Nat) (a b : AV) : Prop :=
  match b with
  | .agg m => match a with | .agg l => celsLe st chk ρ N l m | _ => False
  | .tup m => match a with | .tup l => celsLe st chk ρ N l m | _ => False
  | b => celLe st chk ρ N a b

def envLe (st : AS) (chk : List Nat → Bool) (ρ : List (Nat × Nat)) (N : Nat) (env : List (Nat × AV)) : List (Nat × AV) → Prop
  | [] => True
  | (t, b) :: r => lookK env t (fun a => avLe st chk ρ N a b) ∧ envLe st chk ρ N env r

def entLe (st : AS) (chk : List Nat → Bool) (ρ : List (Nat × Nat)) (N : Nat) (e e' : Ent) : Prop :=
  match e, e' with
  | .box l, .box m => celsLe st chk ρ N l m ∧ m.all AV.one = true
  | .arr s xs, .arr s' ys => s = s' ∧ Hold (xs = ys)
  | .buf s xs, .buf s' ys => s = s' ∧ Hold (xs = ys)
  | _, _ => False

def ownLe (chk : List Nat → Bool) (ρ : List (Nat × Nat)) (N : Nat) (st : AS) : List (Nat × Option Ent) → Prop
  | [] => True
  | (k, some e') :: r => (Nat.blt (k / 16) N = true ∧ ownK st (rho ρ k) fun e => entLe st chk ρ N e e') ∧ ownLe chk ρ N st r
  | (_, none) :: _ => False

def injN (ρ : List (Nat × Nat)) : List (Nat × Option Ent) → Bool
  | [] => true
  | (k, _) :: r => (r.all fun x => !Nat.beq (rho ρ k) (rho ρ x.1)) && injN ρ r

/-- The names below 16 stay. -/
def fixB (ρ : List (Nat × Nat)) : Bool := ρ.all fun x => Nat.ble 16 x.1
theorem fixB_rho {ρ : List (Nat × Nat)} (h : fixB ρ = true) {k : Nat} (hk : k < 16) : rho ρ k = k := by
  unfold rho
  cases hl : look ρ k with
  | none => rfl
  | some j =>
    have := List.all_eq_true.1 h _ (look_mem hl)
    have := Nat.le_of_ble_eq_true this
    simp only at this; omega

def keptOf (ρ : List (Nat × Nat)) (own : List (Nat × Option Ent)) : List Nat := own.map fun x => rho ρ x.1
def offB (l : List Nat) (us : List Nat) : Bool := !meetN us l

/-- The view st says at least what st' says, its names turned by ρ. -/
def LeK (ρ : List (Nat × Nat)) (st st' : AS) : Prop :=
  envLe st (offB (keptOf ρ st'.own)) ρ st'.nx st.env st'.env ∧ ownLe (offB (keptOf ρ st'.own)) ρ st'.nx st st'.own ∧ injN ρ st'.own = true ∧ (fixB ρ && Nat.ble 1 st'.nx) = true

theorem celLe0_read {ρ : List (Nat × Nat)} {N : Nat} {w : World} {α : Nat → Loc} {X X' : Nat → Prop} (hX : ∀ b, X' b → X b) {a b : AV} {v : Value} (h : celLe0 ρ N a b) (hr : RdA w α X a v) :
    RdA w (fun k => α (rho ρ k)) X' b v ∧ b.ok (fun k => k / 16 < N) := by
  have hm : ∀ {x : D} {u : Value}, Rd w X x u → Rd w X' x u := fun h => h.mono fun b o hb hn => ⟨hb, fun h => hn (hX b h)⟩
  unfold celLe0 at h
  split at h
  · exact ⟨.any v, .any⟩
  · split at h
    · have h := h.out; subst h; exact ⟨.d _ _ (hm hr.dinv), .d _⟩
    · cases h
  · split at h
    · obtain ⟨rfl, rfl, rfl, hk⟩ := h
      cases hr
      exact ⟨.op _ _ _, .op _ _ _ (blt_lt hk)⟩
    · cases h
  · split at h
    · obtain ⟨rfl, hk⟩ := h
      cases hr with
      | os _ ho => exact ⟨RdA.os (α := fun k => α (rho ρ k)) _ ho, .os _ (blt_lt hk)⟩
    · cases h
  · split at h
    · subst h; cases hr; exact ⟨.nl _, .nl _⟩
    · cases h
  · split at h
    · obtain ⟨h0, rfl⟩ := h
      have h0 := h0.out; subst h0
      cases hr with
      | pp _ _ blk off arr T fz f hh hx h1 h2 => exact ⟨.pp _ _ blk off arr T fz f hh (fun h => hx (hX _ h)) h1 fun j c hc => hm (h2 j c hc), .pp _ _⟩
    · cases h
  · split at h
    · subst h; cases hr; exact ⟨.gp _, .gp _⟩
    · cases h
  · cases h

theorem celsLe0_read {ρ : List (Nat × Nat)} {N : Nat} {w : World} {α : Nat → Loc} {X X' : Nat → Prop} (hX : ∀ b, X' b → X b) : ∀ {l m : List AV}, celsLe0 ρ N l m →
    l.length = m.length ∧ ∀ (j : Nat) (a b : AV), l[j]? = some a → m[j]? = some b → ∀ v, RdA w α X a v → RdA w (fun k => α (rho ρ k)) X' b v ∧ b.ok (fun k => k / 16 < N)
  | [], [], _ => ⟨rfl, fun j a b h => by simp at h⟩
  | a :: l, b :: m, h => by
    obtain ⟨h1, h2⟩ := celsLe0_read hX h.2
    refine ⟨by simp [h1], fun j x y hx hy v hr => ?_⟩
    cases j with
    | zero => simp at hx hy; subst hx hy; exact celLe0_read hX h.1 hr
    | succ j => exact h2 j x y (by simpa using hx) (by simpa using hy) v hr
  | [], _ :: _, h => h.elim
  | _ :: _, [], h => h.elim

/-- What readings by LeK want of the world. -/
structure LeW (st : AS) (chk : List Nat → Bool) (w : World) (α : Nat → Loc) (X X' : Nat → Prop) : Prop where
  sub : ∀ b, X' b → X b
  own : ∀ us, chk us = true → ∀ k, k ∈ us → ∀ e, st.ss.own k = some e → Own w α X k e
  out : ∀ us, chk us = true → ∀ k, k ∈ us → ∀ e, st.ss.own k = some e → (α k).nil = false → ¬ X' (α k).blk

theorem no_meet {l m : List Nat} (h : meetN l m = false) {x : Nat} (hx : x ∈ l) : x ∉ m := by
  intro hm
  have := meetN_iff.2 ⟨x, hx, hm⟩
  rw [h] at this; cases this

theorem celLe_read {st : AS} {chk : List Nat → Bool} {ρ : List (Nat × Nat)} {N : Nat} {w : World} {α : Nat → Loc} {X X' : Nat → Prop} (hW : LeW st chk w α X X') {a b : AV} {v : Value} (h : celLe st chk ρ N a b) (hr : RdA w α X a v) :
    RdA w (fun k => α (rho ρ k)) X' b v ∧ b.ok (fun k => k / 16 < N) := by
  have hX := hW.sub
  have hm : ∀ {x : D} {u : Value}, Rd w X x u → Rd w X' x u := fun h => h.mono fun b o hb hn => ⟨hb, fun h => hn (hX b h)⟩
  unfold celLe at h
  split at h
  · exact ⟨.any v, .any⟩
  · split at h
    · have h := h.out; subst h; exact ⟨.d _ _ (hm hr.dinv), .d _⟩
    · obtain ⟨d, us, ⟨h1, h2⟩, h3⟩ := toDK_out h
      have h1 := h1.out; subst h1
      refine ⟨.d _ _ (h3.rd w α X X' v hr (fun k hk e he => hW.own us h2 k hk e he) hX fun k hk hnil => ?_), .d _⟩
      obtain ⟨e, he⟩ := h3.ent k hk
      exact hW.out us h2 k hk e he hnil
  · split at h
    · obtain ⟨rfl, rfl, rfl, hk⟩ := h
      cases hr
      exact ⟨.op _ _ _, .op _ _ _ (blt_lt hk)⟩
    · cases h
  · split at h
    · obtain ⟨rfl, hk⟩ := h
      cases hr with
      | os _ ho => exact ⟨RdA.os (α := fun k => α (rho ρ k)) _ ho, .os _ (blt_lt hk)⟩
    · cases h
  · split at h
    · subst h; cases hr; exact ⟨.nl _, .nl _⟩
    · cases h
  · split at h
    · obtain ⟨h0, rfl⟩ := h
      have h0 := h0.out; subst h0
      cases hr with
      | pp _ _ blk off arr T fz f hh hx h1 h2 => exact ⟨.pp _ _ blk off arr T fz f hh (fun h => hx (hX _ h)) h1 fun j c hc => hm (h2 j c hc), .pp _ _⟩
    · cases h
  · split at h
    · subst h; cases hr; exact ⟨.gp _, .gp _⟩
    · cases h
  · split at h
    · obtain ⟨rfl, h1, h2⟩ := h
      obtain ⟨h3, h4⟩ := celsLe0_read (w := w) (α := α) hX h1
      obtain ⟨h5, h6⟩ := celsLe0_read (w := w) (α := α) hX h2
      have go : ∀ {l m : List AV} {vs : Array Value}, l.length = m.length → (∀ (j : Nat) (a b : AV), l[j]? = some a → m[j]? = some b → ∀ v, RdA w α X a v → RdA w (fun k => α (rho ρ k)) X' b v ∧ b.ok (fun k => k / 16 < N)) →
          l.length = vs.size → (∀ (j : Nat) (c : AV) (v : Value), l[j]? = some c → vs[j]? = some v → RdA w α X c v) →
          m.length = vs.size ∧ (∀ (j : Nat) (c : AV) (v : Value), m[j]? = some c → vs[j]? = some v → RdA w (fun k => α (rho ρ k)) X' c v) ∧ ∀ c, c ∈ m → c.ok (fun k => k / 16 < N) := by
        intro l m vs h1 h2 hl hc
        have hg : ∀ (j : Nat) (c : AV), m[j]? = some c → ∃ a u, l[j]? = some a ∧ vs[j]? = some u := by
          intro j c hj
          have : j < m.length := (List.getElem?_eq_some_iff.1 hj).1
          exact ⟨l[j]'(by omega), vs[j]'(by omega), by simp [show j < l.length by omega], by simp [show j < vs.size by omega]⟩
        refine ⟨by omega, fun j c u hj hu => ?_, fun c hc' => ?_⟩
        · obtain ⟨a, u', ha, _⟩ := hg j c hj
          exact (h2 j a c ha hj u (hc j a u ha hu)).1
        · obtain ⟨j, hj⟩ := List.mem_iff_getElem?.1 hc'
          obtain ⟨a, u', ha, hu⟩ := hg j c hj
          exact (h2 j a c ha hj u' (hc j a u' ha hu)).2
      cases hr with
      | fn _ _ _ va vb l1 l2 c1 c2 =>
        obtain ⟨q1, q2, q3⟩ := go h3 h4 l1 c1
        obtain ⟨q4, q5, q6⟩ := go h5 h6 l2 c2
        exact ⟨.fn _ _ _ va vb q1 q4 q2 q5, .fn _ _ _ q3 q6⟩
    · cases h
  · cases h

theorem celsLe_get {st : AS} {chk : List Nat → Bool} {ρ : List (Nat × Nat)} {N : Nat} : ∀ {l m : List AV}, celsLe st chk ρ N l m → l.length = m.length ∧ ∀ (j : Nat) (a b : AV), l[j]? = some a → m[j]? = some b → celLe st chk ρ N a b
  | [], [], _ => ⟨rfl, fun j a b h => by simp at h⟩
  | a :: l, b :: m, h => by
    obtain ⟨h1, h2⟩ := celsLe_get h.2
    refine ⟨by simp [h1], fun j x y hx hy => ?_⟩
    cases j with
    | zero => simp at hx hy; subst hx hy; exact h.1
    | succ j => exact h2 j x y (by simpa using hx) (by simpa using hy)
  | [], _ :: _, h => h.elim
  | _ :: _, [], h => h.elim

theorem avLe_read {st : AS} {chk : List Nat → Bool} {ρ : List (Nat × Nat)} {N : Nat} {w : World} {α : Nat → Loc} {X X' : Nat → Prop} (hW : LeW st chk w α X X') {a b : AV} {v : Value} (h : avLe st chk ρ N a b) (hr : RdA w α X a v) :
    RdA w (fun k => α (rho ρ k)) X' b v ∧ b.ok (fun k => k / 16 < N) := by
  have go : ∀ {l m : List AV} {vs : Array Value}, celsLe st chk ρ N l m → l.length = vs.size → (∀ (j : Nat) (c : AV) (v : Value), l[j]? = some c → vs[j]? = some v → RdA w α X c v) →
      m.length = vs.size ∧ (∀ (j : Nat) (c : AV) (v : Value), m[j]? = some c → vs[j]? = some v → RdA w (fun k => α (rho ρ k)) X' c v) ∧ ∀ c, c ∈ m → c.ok (fun k => k / 16 < N) := by
    intro l m vs h hl hc
    obtain ⟨h1, h2⟩ := celsLe_get h
    have hg : ∀ (j : Nat) (c : AV), m[j]? = some c → ∃ a u, l[j]? = some a ∧ vs[j]? = some u := by
      intro j c hj
      have : j < m.length := (List.getElem?_eq_some_iff.1 hj).1
      exact ⟨l[j]'(by omega), vs[j]'(by omega), by simp [show j < l.length by omega], by simp [show j < vs.size by omega]⟩
    refine ⟨by omega, fun j c u hj hu => ?_, fun c hc' => ?_⟩
    · obtain ⟨a, u', ha, _⟩ := hg j c hj
      exact (celLe_read hW (h2 j a c ha hj) (hc j a u ha hu)).1
    · obtain ⟨j, hj⟩ := List.mem_iff_getElem?.1 hc'
      obtain ⟨a, u', ha, hu⟩ := hg j c hj
      exact (celLe_read hW (h2 j a c ha hj) (hc j a u' ha hu)).2
  unfold avLe at h
  split at h
  · split at h
    · cases hr with
      | agg _ vs hl hc => obtain ⟨h1, h2, h3⟩ := go h hl hc; exact ⟨.agg _ vs h1 h2, .agg _ h3⟩
    · cases h
  · split at h
    · cases hr with
      | tup _ vs hl hc => obtain ⟨h1, h2, h3⟩ := go h hl hc; exact ⟨.tup _ vs h1 h2, .tup _ h3⟩
    · cases h
  · exact celLe_read hW h hr

theorem envLe_get {st : AS} {chk : List Nat → Bool} {ρ : List (Nat × Nat)} {N : Nat} {env : List (Nat × AV)} : ∀ {l : List (Nat × AV)}, envLe st chk ρ N env l → ∀ t b, look l t = some b → ∃ a, look env t = some a ∧ avLe st chk ρ N a b
  | [], _, t, b, h => by simp [look] at h
  | (y, c) :: r, h, t, b, hl => by
    simp only [look] at hl
    split at hl
    · rename_i hb
      cases hl
      have := Nat.eq_of_beq_eq_true hb; subst this
      exact lookK_out h.1
    · exact envLe_get h.2 t b hl

theorem ownLe_get {chk : List Nat → Bool} {ρ : List (Nat × Nat)} {N : Nat} {st : AS} : ∀ {l : List (Nat × Option Ent)}, ownLe chk ρ N st l → ∀ k oe, look l k = some oe → ∃ e' e, oe = some e' ∧ k / 16 < N ∧ st.ss.own (rho ρ k) = some e ∧ entLe st chk ρ N e e'
  | [], _, k, oe, h => by simp [look] at h
  | (y, some e') :: r, h, k, oe, hl => by
    simp only [look] at hl
    split at hl
    · rename_i hb
      cases hl
      have := Nat.eq_of_beq_eq_true hb; subst this
      obtain ⟨e, h1, h2⟩ := ownK_out h.1.2
      exact ⟨e', e, rfl, blt_lt h.1.1, h1, h2⟩
    · exact ownLe_get h.2 k oe hl
  | (_, none) :: _, h, _, _, _ => h.elim

theorem injN_get {ρ : List (Nat × Nat)} : ∀ {l : List (Nat × Option Ent)}, injN ρ l = true → ∀ k k' oe oe', look l k = some oe → look l k' = some oe' → rho ρ k = rho ρ k' → k = k'
  | [], _, k, _, _, _, h, _, _ => by simp [look] at h
  | (y, e) :: r, h, k, k', oe, oe', h1, h2, he => by
    simp only [injN, Bool.and_eq_true] at h
    have hall := List.all_eq_true.1 h.1
    have no : ∀ j o, look r j = some o → rho ρ y ≠ rho ρ j := by
      intro j o hj hr
      have := hall _ (look_mem hj)
      simp [hr] at this
    simp only [look] at h1 h2
    cases hb : Nat.beq k y <;> cases hb' : Nat.beq k' y <;> simp only [hb, hb'] at h1 h2
    · exact injN_get h.2 k k' oe oe' h1 h2 he
    · rw [Nat.eq_of_beq_eq_true hb'] at he; exact absurd he.symm (no _ _ h1)
    · rw [Nat.eq_of_beq_eq_true hb] at he; exact absurd he (no _ _ h2)
    · rw [Nat.eq_of_beq_eq_true hb, Nat.eq_of_beq_eq_true hb']

theorem entLe_kind {st : AS} {chk : List Nat → Bool} {ρ : List (Nat × Nat)} {N : Nat} {e e' : Ent} (h : entLe st chk ρ N e e') : e.sz = e'.sz ∧ e.len = e'.len := by
  unfold entLe at h
  split at h
  · exact ⟨(celsLe_get h.1).1, rfl⟩
  · obtain ⟨rfl, h⟩ := h; have h := h.out; subst h; exact ⟨rfl, rfl⟩
  · obtain ⟨rfl, h⟩ := h; have h := h.out; subst h; exact ⟨rfl, rfl⟩
  · cases h

theorem entLe_cases {st : AS} {chk : List Nat → Bool} {ρ : List (Nat × Nat)} {N : Nat} {e e' : Ent} (h : entLe st chk ρ N e e') : (∃ l m, e = .box l ∧ e' = .box m ∧ celsLe st chk ρ N l m ∧ m.all AV.one = true) ∨ (e = e' ∧ e'.vars = [] ∧ ∀ cs, e' ≠ .box cs) := by
  unfold entLe at h
  split at h
  · exact .inl ⟨_, _, rfl, rfl, h⟩
  · obtain ⟨rfl, h⟩ := h; have h := h.out; subst h; exact .inr ⟨rfl, rfl, fun cs h => by cases h⟩
  · obtain ⟨rfl, h⟩ := h; have h := h.out; subst h; exact .inr ⟨rfl, rfl, fun cs h => by cases h⟩
  · cases h

/-- An owned entry, read by what LeK leaves. -/
theorem entLe_own {st : AS} {chk : List Nat → Bool} {ρ : List (Nat × Nat)} {N : Nat} {w : World} {α : Nat → Loc} {X X' : Nat → Prop} (hW : LeW st chk w α X X') {k : Nat} {e e' : Ent} (h6 : entLe st chk ρ N e e') (ho : Own w α X (rho ρ k) e) :
    Own w (fun k => α (rho ρ k)) X' k e' ∧ ∀ x, x ∈ e'.vars → x.ok (fun k => k / 16 < N) := by
  obtain ⟨hsz, hlen⟩ := entLe_kind h6
  have hm : ∀ {x : D} {u : Value}, Rd w X x u → Rd w X' x u := fun h => h.mono fun b o hb hn => ⟨hb, fun h => hn (hW.sub b h)⟩
  rcases entLe_cases h6 with ⟨l, m', rfl, rfl, hc1, hc2⟩ | ⟨rfl, hv, hnb⟩
  · rcases ho with ⟨_, ⟨sz, he⟩, _⟩ | ⟨hnil, arr, T, fz, cap, hB⟩
    · cases he
    obtain ⟨hl1, hl2⟩ := celsLe_get hc1
    have hget : ∀ (m : Nat) (c : AV), m'[m]? = some c → ∃ u, arr[(α (rho ρ k)).off + 0 * (Ent.box l).sz + m]? = some u ∧ RdA w (fun k => α (rho ρ k)) X' c u ∧ c.ok (fun k => k / 16 < N) := by
      intro m c hc
      have hlt : m < l.length := by rw [hl1]; exact (List.getElem?_eq_some_iff.1 hc).1
      obtain ⟨u, h7, h8⟩ := hB.rd 0 m l[m] (by simp [Ent.cell, hlt])
      have := celLe_read hW (hl2 m _ c (by simp [hlt]) hc) h8
      exact ⟨u, h7, this.1, this.2⟩
    refine ⟨.inr ⟨hnil, arr, T, fz, cap, hB.heap, by rw [← hsz]; exact hB.hsz, by rw [← hlen]; exact hB.len, by rw [← hsz]; exact hB.bnd, by rw [← hsz]; exact hB.nf, List.all_eq_true.1 hc2, fun j m c hc => ?_, (fun sz xs he => by cases he), hB.hone⟩, fun x hx => ?_⟩
    · rw [← hsz]
      simp only [Ent.cell] at hc
      split at hc
      · rename_i hj
        subst hj
        obtain ⟨u, h7, h8, _⟩ := hget m c hc
        exact ⟨u, h7, h8⟩
      · cases hc
    · obtain ⟨m, hm'⟩ := List.mem_iff_getElem?.1 (show x ∈ m' from hx)
      obtain ⟨u, _, _, h9⟩ := hget m x hm'
      exact h9
  · refine ⟨?_, fun x hx => by rw [hv] at hx; cases hx⟩
    rcases ho with ⟨hnil, ⟨sz, he⟩, hv⟩ | ⟨hnil, arr, T, fz, cap, hB⟩
    · exact .inl ⟨hnil, ⟨sz, he⟩, hv⟩
    · refine .inr ⟨hnil, arr, T, fz, cap, hB.heap, hB.hsz, hB.len, hB.bnd, hB.nf, hB.wid, fun j m c hc => ?_, hB.hv, hB.hone⟩
      obtain ⟨u, h7, h8⟩ := hB.rd j m c hc
      refine ⟨u, h7, ?_⟩
      cases e with
      | box cs => exact absurd rfl (hnb cs)
      | arr s xs =>
        simp only [Ent.cell, Option.bind_eq_some_iff, Option.map_eq_some_iff] at hc
        obtain ⟨x, _, y, _, rfl⟩ := hc
        exact .d _ _ (hm h8.dinv)
      | buf s xs =>
        simp only [Ent.cell, Option.bind_eq_some_iff, Option.map_eq_some_iff] at hc
        obtain ⟨x, _, y, _, rfl⟩ := hc
        exact .d _ _ (hm h8.dinv)

theorem own_look {st : AS} {k : Nat} {e : Ent} (h : st.ss.own k = some e) : look st.own k = some (some e) := by
  simp only [AS.ss] at h
  cases hl : look st.own k with
  | none => simp [hl] at h
  | some oe => simp only [hl] at h; rw [h]

theorem mem_kept {ρ : List (Nat × Nat)} {own : List (Nat × Option Ent)} {k : Nat} {oe : Option Ent} (h : look own k = some oe) : rho ρ k ∈ keptOf ρ own :=
  List.mem_map.2 ⟨(k, oe), look_mem h, rfl⟩

theorem LeK.sim {ρ : List (Nat × Nat)} {st st' : AS} (h : LeK ρ st st') {G : List Gl} {X0 : Nat → Prop} {F : Fr} {w0 : World} {n : Nat} {α : Nat → Loc} {a : Act} {w : World} (hs : Sim G X0 F w0 n (names st) α st.ss a w)
    (hfix : ∀ k l, F.fix k = some l → k < 16) :
    Sim G X0 F w0 n (names st') (fun k => α (rho ρ k)) st'.ss a w := by
  obtain ⟨h1, h2, h3, hf⟩ := h
  simp only [Bool.and_eq_true] at hf
  obtain ⟨hf, hf2⟩ := hf
  have hown : ∀ k e', st'.ss.own k = some e' → ∃ e, k / 16 < st'.nx ∧ st.ss.own (rho ρ k) = some e ∧ entLe st (offB (keptOf ρ st'.own)) ρ st'.nx e e' ∧ look st'.own k = some (some e') := by
    intro k e' hk
    have hl := own_look hk
    obtain ⟨e1, e, h4, h5, h6, h7⟩ := ownLe_get h2 k _ hl
    cases h4
    exact ⟨e, h5, h6, h7, hl⟩
  have hX : ∀ b, XX (fun k => α (rho ρ k)) st'.ss.own X0 b → XX α st.ss.own X0 b := by
    rintro b (⟨k, e', hk, hnil, rfl⟩ | hx)
    · obtain ⟨e, _, h5, _⟩ := hown k e' hk
      exact .inl ⟨_, e, h5, hnil, rfl⟩
    · exact .inr hx
  have hW : LeW st (offB (keptOf ρ st'.own)) w α (XX α st.ss.own X0) (XX (fun k => α (rho ρ k)) st'.ss.own X0) := by
    refine ⟨hX, fun _ _ k _ e he => hs.own k e he, fun us hus k hku e hk hnil => ?_⟩
    have hnk : k ∉ keptOf ρ st'.own := no_meet (by simpa [offB] using hus) hku
    rintro (⟨k', e', hk', hnil', hb⟩ | hx)
    · obtain ⟨e2, _, h5, _, h7⟩ := hown k' e' hk'
      have := hs.inj _ _ _ _ h5 hk hnil' hnil hb
      exact hnk (this ▸ mem_kept h7)
    · exact (hs.mine k e hk hnil).2 hx
  refine ⟨hs.size, hs.defers, fun t b ht => ?_, fun t b ht => ?_, fun k e' hk => ?_, fun k e' hk => ?_, fun k e k' e' hk hk' hn hn' hb => ?_, fun k e' hk hn => ?_, hs.x0, hs.fr, hs.grow, hs.os, hs.tape, hs.output, hs.gl, fun k l hk => ?_⟩
  · obtain ⟨a, ha, hl⟩ := envLe_get h1 t b ht
    exact (avLe_read hW hl (hs.env t a ha)).1
  · obtain ⟨a, ha, hl⟩ := envLe_get h1 t b ht
    exact (avLe_read hW hl (hs.env t a ha)).2
  · obtain ⟨e, _, h5, h6, _⟩ := hown k e' hk
    exact (entLe_own hW h6 (hs.own _ e h5)).1
  · obtain ⟨e, h4, h5, h6, _⟩ := hown k e' hk
    exact ⟨h4, (entLe_own hW h6 (hs.own _ e h5)).2⟩
  · obtain ⟨e1, _, h5, _, h6⟩ := hown k e hk
    obtain ⟨e2, _, h7, _, h8⟩ := hown k' e' hk'
    exact injN_get h3 k k' _ _ h6 h8 (hs.inj _ _ _ _ h5 h7 hn hn' hb)
  · obtain ⟨e, _, h5, _⟩ := hown k e' hk
    exact hs.mine _ e h5 hn
  · have h4 := hfix k l hk
    obtain ⟨h5, h6⟩ := hs.fix k l hk
    refine ⟨?_, ?_⟩
    case refine_2 =>
      simp only [names] at h6 ⊢
      have := Nat.le_of_ble_eq_true hf2; omega
    show α (rho ρ k) = l
    rw [fixB_rho hf h4]
    exact (hs.fix k l hk).1

end Go.Eng
