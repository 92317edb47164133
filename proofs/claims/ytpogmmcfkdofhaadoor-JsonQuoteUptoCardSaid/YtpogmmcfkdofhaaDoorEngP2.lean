/-
  Calls: of functions with a contract over data, and of functions with a contract over rows that the caller lends; function values.
-/
import Derived.Test.YtpogmmcfkdofhaaDoorEngP1
namespace Go.Eng
open Go.RowKit (Below)

def argA : Nat → List AV → List (Nat × AV)
  | _, [] => []
  | i, a :: l => (i, a) :: argA (i + 1) l

theorem argA_look : ∀ (as : List AV) (i t : Nat) (av : AV), look (argA i as) t = some av → i ≤ t ∧ as[t - i]? = some av
  | [], i, t, av, h => by simp [argA, look] at h
  | a :: as, i, t, av, h => by
    simp only [argA, look] at h
    split at h
    · rename_i hb
      have := Nat.eq_of_beq_eq_true hb
      subst this
      cases h
      exact ⟨Nat.le_refl _, by simp⟩
    · obtain ⟨h1, h2⟩ := argA_look as (i + 1) t av h
      refine ⟨by omega, ?_⟩
      rw [show t - i = (t - (i + 1)) + 1 by omega]
      simpa using h2

theorem argA_get : ∀ (as : List AV) (i j : Nat) (av : AV), as[j]? = some av → look (argA i as) (i + j) = some av
  | [], i, j, av, h => by simp at h
  | a :: as, i, 0, av, h => by simp at h; subst h; simp [argA, look]
  | a :: as, i, j + 1, av, h => by
    have := argA_get as (i + 1) j av (by simpa using h)
    simp only [argA, look]
    split
    · rename_i hb
      have := Nat.eq_of_beq_eq_true hb
      omega
    · rw [show i + (j + 1) = i + 1 + j by omega]; exact this

def retOf (us : Array Value) : Value := if h : us.size = 1 then us[0] else .tuple us

/-- A function that has a body. -/
def HasBody (C : Ctx) (f : FuncId) : Prop := ∃ fn, C.P.funcs[f]? = some fn ∧ (fn.name == "runtime.NumGoroutine") = false ∧ fn.body.isNone = false

/-- THE CONTRACT OF A FUNCTION THAT IS LENT ROWS: called at what reads as bs, the rows own lent (names below 16), it returns what reads as rs, and the rows are own' then (names from 16 to 31 are new). -/
def DoesH (C : Ctx) (f : FuncId) (bs : List AV) (own : List (Nat × Option Ent)) (rs : List AV) (own' : List (Nat × Option Ent)) : Prop :=
  HasBody C f ∧
  ∀ (w : World) (X : Nat → Prop) (F : Fr) (α : Nat → Loc) (vs : Array Value), (∀ k l, F.fix k = some l → k < 16) →
    Sim C.G X F w bs.length (names ⟨argA 0 bs, own, 1⟩) α (AS.ss ⟨argA 0 bs, own, 1⟩) ⟨vs, []⟩ w →
    Calls C.P f vs w fun e w' => ∃ α' us, e = .returned (retOf us) ∧ Sim C.G X F w rs.length (names ⟨argA 0 rs, own', 2⟩) α' (AS.ss ⟨argA 0 rs, own', 2⟩) ⟨us, []⟩ w'

/-! #### What the call leaves, in the caller's names -/

def rn (ρ : List (Nat × Nat)) (nm k : Nat) : Nat := match Nat.blt k 16 with | true => rho ρ k | false => 16 * nm + (k - 16)

def rnK (keys : List Nat) (ρ : List (Nat × Nat)) (nm k : Nat) (K : Nat → Prop) : Prop :=
  match Nat.blt k 16 with
  | true => match hasN keys k with | true => (match rho ρ k with | 0 => K 0 | m + 1 => K (m + 1)) | false => False
  | false => match Nat.blt k 32 with | true => (match 16 * nm + (k - 16) with | 0 => K 0 | m + 1 => K (m + 1)) | false => False

theorem rnK_out {keys : List Nat} {ρ : List (Nat × Nat)} {nm k : Nat} {K : Nat → Prop} (h : rnK keys ρ nm k K) : K (rn ρ nm k) ∧ ((k < 16 ∧ k ∈ keys) ∨ (16 ≤ k ∧ k < 32)) := by
  unfold rnK at h
  unfold rn
  split at h
  · rename_i hb
    have h1 := blt_lt hb
    split at h
    · rename_i hk
      refine ⟨?_, .inl ⟨h1, hasN_iff.1 hk⟩⟩
      split at h
      · rename_i h0; simpa [h0] using h
      · rename_i m h0; simpa [h0] using h
    · cases h
  · rename_i hb
    split at h
    · rename_i hb2
      have h1 := blt_lt hb2
      have h2 : ¬ k < 16 := by
        intro hlt
        have : Nat.blt k 16 = true := by simp [Nat.blt]; omega
        rw [this] at hb; cases hb
      refine ⟨?_, .inr ⟨by omega, h1⟩⟩
      split at h
      · rename_i h0; simpa [h0] using h
      · rename_i m h0; simpa [h0] using h
    · cases h

def AV.rn0 (ρ : List (Nat × Nat)) (nm : Nat) : AV → AV
  | .op k i j => .op (rn ρ nm k) i j
  | .os k => .os (rn ρ nm k)
  | a => a

def AV.rn (ρ : List (Nat × Nat)) (nm : Nat) : AV → AV
  | .agg cs => .agg (cs.map (AV.rn0 ρ nm))
  | .tup cs => .tup (cs.map (AV.rn0 ρ nm))
  | .fn g as bs => .fn g (as.map (AV.rn0 ρ nm)) (bs.map (AV.rn0 ρ nm))
  | a => a.rn0 ρ nm

/-- Which names are known. -/
def KN (keys : List Nat) (k : Nat) : Prop := (k < 16 ∧ k ∈ keys) ∨ (16 ≤ k ∧ k < 32)

/-- One level: no parts. -/
def rc0K (keys : List Nat) (ρ : List (Nat × Nat)) (nm : Nat) (a : AV) (K : AV → Prop) : Prop :=
  match a with
  | .any => K .any
  | .d x => K (.d x)
  | .op k i j => rnK keys ρ nm k fun k => K (.op k i j)
  | .os k => rnK keys ρ nm k fun k => K (.os k)
  | .nl s => K (.nl s)
  | .pp x j => K (.pp x j)
  | .gp g => K (.gp g)
  | _ => False

theorem rc0K_out {keys : List Nat} {ρ : List (Nat × Nat)} {nm : Nat} {a : AV} {K : AV → Prop} (h : rc0K keys ρ nm a K) : K (a.rn0 ρ nm) ∧ a.ok (KN keys) ∧ (∀ cs, a ≠ .agg cs) ∧ (∀ cs, a ≠ .tup cs) ∧ ∀ g xs ys, a ≠ .fn g xs ys := by
  unfold rc0K at h
  split at h
  · exact ⟨h, .any, by simp, by simp, by simp⟩
  · exact ⟨h, .d _, by simp, by simp, by simp⟩
  · obtain ⟨h1, h2⟩ := rnK_out h; exact ⟨h1, .op _ _ _ h2, by simp, by simp, by simp⟩
  · obtain ⟨h1, h2⟩ := rnK_out h; exact ⟨h1, .os _ h2, by simp, by simp, by simp⟩
  · exact ⟨h, .nl _, by simp, by simp, by simp⟩
  · exact ⟨h, .pp _ _, by simp, by simp, by simp⟩
  · exact ⟨h, .gp _, by simp, by simp, by simp⟩
  · cases h

def rcs0K (keys : List Nat) (ρ : List (Nat × Nat)) (nm : Nat) : List AV → (List AV → Prop) → Prop
  | [], K => K []
  | a :: l, K => rc0K keys ρ nm a fun a => rcs0K keys ρ nm l fun l => K (a :: l)

/-- A list without parts of parts. -/
def Simple (keys : List Nat) (l : List AV) : Prop := ∀ a, a ∈ l → a.ok (KN keys) ∧ (∀ cs, a ≠ .agg cs) ∧ (∀ cs, a ≠ .tup cs) ∧ ∀ g xs ys, a ≠ .fn g xs ys

theorem rcs0K_out {keys : List Nat} {ρ : List (Nat × Nat)} {nm : Nat} {l : List AV} {K : List AV → Prop} (h : rcs0K keys ρ nm l K) : K (l.map (AV.rn0 ρ nm)) ∧ Simple keys l := by
  induction l generalizing K with
  | nil => exact ⟨h, fun a ha => by cases ha⟩
  | cons a l ih =>
    obtain ⟨h1, h2⟩ := rc0K_out h
    obtain ⟨h3, h4⟩ := ih h1
    exact ⟨h3, fun b hb => by
      rcases List.mem_cons.1 hb with rfl | hb
      · exact h2
      · exact h4 b hb⟩

def rcK (keys : List Nat) (ρ : List (Nat × Nat)) (nm : Nat) (a : AV) (K : AV → Prop) : Prop :=
  match a with
  | .agg cs => rcs0K keys ρ nm cs fun cs => K (.agg cs)
  | .tup cs => rcs0K keys ρ nm cs fun cs => K (.tup cs)
  | .fn g as bs => rcs0K keys ρ nm as fun as => rcs0K keys ρ nm bs fun bs => K (.fn g as bs)
  | a => rc0K keys ρ nm a K

/-- What a renaming of a is good for. -/
structure Ren (keys : List Nat) (ρ : List (Nat × Nat)) (nm : Nat) (a : AV) : Prop where
  ok : a.ok (KN keys)
  one : (a.rn ρ nm).one = a.one
  okr : ∀ q : Nat → Prop, (∀ k, KN keys k → q (Eng.rn ρ nm k)) → (a.rn ρ nm).ok q
  rd : ∀ (w : World) (α α' : Nat → Loc) (X X' : Nat → Prop) (v : Value), RdA w α' X a v → (∀ b, (∃ o, w.heap[b]? = some o) → X' b → X b) → (∀ k, KN keys k → α (Eng.rn ρ nm k) = α' k) → RdA w α X' (a.rn ρ nm) v

theorem ren0_rd {keys : List Nat} {ρ : List (Nat × Nat)} {nm : Nat} {a : AV} (h : a.ok (KN keys)) (h1 : ∀ cs, a ≠ .agg cs) (h2 : ∀ cs, a ≠ .tup cs) (h3 : ∀ g xs ys, a ≠ .fn g xs ys) :
    (a.rn0 ρ nm).one = a.one ∧ (∀ q : Nat → Prop, (∀ k, KN keys k → q (Eng.rn ρ nm k)) → (a.rn0 ρ nm).ok q) ∧
    ∀ (w : World) (α α' : Nat → Loc) (X X' : Nat → Prop) (v : Value), RdA w α' X a v → (∀ b, (∃ o, w.heap[b]? = some o) → X' b → X b) → (∀ k, KN keys k → α (Eng.rn ρ nm k) = α' k) → RdA w α X' (a.rn0 ρ nm) v := by
  have hm : ∀ {w : World} {X X' : Nat → Prop} {x : D} {u : Value}, (∀ b, (∃ o, w.heap[b]? = some o) → X' b → X b) → Rd w X x u → Rd w X' x u :=
    fun hX h => h.mono fun b o hb hn => ⟨hb, fun h => hn (hX b ⟨o, hb⟩ h)⟩
  cases h with
  | any => exact ⟨rfl, fun q _ => .any, fun w α α' X X' v hr _ _ => .any v⟩
  | d x => exact ⟨rfl, fun q _ => .d x, fun w α α' X X' v hr hX _ => .d _ _ (hm hX hr.dinv)⟩
  | agg cs _ => exact absurd rfl (h1 cs)
  | op k i j hk =>
    refine ⟨rfl, fun q hq => .op _ _ _ (hq k hk), fun w α α' X X' v hr hX hα => ?_⟩
    cases hr
    rw [← hα k hk]; exact .op _ _ _
  | os k hk =>
    refine ⟨rfl, fun q hq => .os _ (hq k hk), fun w α α' X X' v hr hX hα => ?_⟩
    cases hr with
    | os _ ho => rw [← hα k hk] at ho ⊢; exact .os _ ho
  | nl s => exact ⟨rfl, fun q _ => .nl s, fun w α α' X X' v hr _ _ => by cases hr; exact .nl _⟩
  | pp x i =>
    refine ⟨rfl, fun q _ => .pp x i, fun w α α' X X' v hr hX _ => ?_⟩
    cases hr with
    | pp _ _ blk off arr T fz f hh hx g1 g2 => exact .pp _ _ blk off arr T fz f hh (fun h => hx (hX _ ⟨_, hh⟩ h)) g1 fun j c hc => hm hX (g2 j c hc)
  | gp g => exact ⟨rfl, fun q _ => .gp g, fun w α α' X X' v hr _ _ => by cases hr; exact .gp _⟩
  | tup cs _ => exact absurd rfl (h2 cs)
  | fn g as bs _ _ => exact absurd rfl (h3 g as bs)

theorem rcK_out {keys : List Nat} {ρ : List (Nat × Nat)} {nm : Nat} {a : AV} {K : AV → Prop} (h : rcK keys ρ nm a K) : K (a.rn ρ nm) ∧ Ren keys ρ nm a := by
  have lst : ∀ {cs : List AV}, Simple keys cs → ∀ {w : World} {α α' : Nat → Loc} {X X' : Nat → Prop} {vs : Array Value}, (∀ (j : Nat) (c : AV) (v : Value), cs[j]? = some c → vs[j]? = some v → RdA w α' X c v) →
      (∀ b, (∃ o, w.heap[b]? = some o) → X' b → X b) → (∀ k, KN keys k → α (Eng.rn ρ nm k) = α' k) → ∀ (j : Nat) (c : AV) (v : Value), (cs.map (AV.rn0 ρ nm))[j]? = some c → vs[j]? = some v → RdA w α X' c v := by
    intro cs hs w α α' X X' vs hc hX hα j c v h1 h2
    simp only [List.getElem?_map, Option.map_eq_some_iff] at h1
    obtain ⟨a, ha, rfl⟩ := h1
    obtain ⟨g1, g2, g3, g4⟩ := hs a (List.mem_of_getElem? ha)
    exact (ren0_rd g1 g2 g3 g4).2.2 w α α' X X' v (hc j a v ha h2) hX hα
  have lok : ∀ {cs : List AV}, Simple keys cs → ∀ q : Nat → Prop, (∀ k, KN keys k → q (Eng.rn ρ nm k)) → ∀ c, c ∈ cs.map (AV.rn0 ρ nm) → c.ok q := by
    intro cs hs q hq c hc
    obtain ⟨a, ha, rfl⟩ := List.mem_map.1 hc
    obtain ⟨g1, g2, g3, g4⟩ := hs a ha
    exact (ren0_rd g1 g2 g3 g4).2.1 q hq
  have base : (∀ cs, a ≠ .agg cs) → (∀ cs, a ≠ .tup cs) → (∀ g xs ys, a ≠ .fn g xs ys) → rc0K keys ρ nm a K → K (a.rn ρ nm) ∧ Ren keys ρ nm a := by
    intro h1 h2 h3 h
    obtain ⟨hk, hok, _⟩ := rc0K_out h
    have e : a.rn ρ nm = a.rn0 ρ nm := by
      cases a <;> first | rfl | exact absurd rfl (h1 _) | exact absurd rfl (h2 _) | exact absurd rfl (h3 _ _ _)
    obtain ⟨g1, g2, g3⟩ := ren0_rd (ρ := ρ) (nm := nm) hok h1 h2 h3
    rw [e]
    exact ⟨hk, hok, by rw [e]; exact g1, by rw [e]; exact g2, by rw [e]; exact g3⟩
  unfold rcK at h
  split at h
  · obtain ⟨h1, h2⟩ := rcs0K_out h
    refine ⟨h1, .agg _ fun c hc => (h2 c hc).1, rfl, fun q hq => .agg _ (lok h2 q hq), fun w α α' X X' v hr hX hα => ?_⟩
    cases hr with
    | agg _ vs hl hc => exact .agg _ vs (by simpa using hl) (lst h2 hc hX hα)
  · obtain ⟨h1, h2⟩ := rcs0K_out h
    refine ⟨h1, .tup _ fun c hc => (h2 c hc).1, rfl, fun q hq => .tup _ (lok h2 q hq), fun w α α' X X' v hr hX hα => ?_⟩
    cases hr with
    | tup _ vs hl hc => exact .tup _ vs (by simpa using hl) (lst h2 hc hX hα)
  · obtain ⟨h1, h2⟩ := rcs0K_out h
    obtain ⟨h3, h4⟩ := rcs0K_out h1
    refine ⟨h3, .fn _ _ _ (fun c hc => (h2 c hc).1) fun c hc => (h4 c hc).1, rfl, fun q hq => .fn _ _ _ (lok h2 q hq) (lok h4 q hq), fun w α α' X X' v hr hX hα => ?_⟩
    cases hr with
    | fn _ _ _ va vb l1 l2 c1 c2 => exact .fn _ _ _ va vb (by simpa using l1) (by simpa using l2) (lst h2 c1 hX hα) (lst h4 c2 hX hα)
  · rename_i h1 h2 h3
    exact base h1 h2 h3 h

def rcsK (keys : List Nat) (ρ : List (Nat × Nat)) (nm : Nat) : List AV → (List AV → Prop) → Prop
  | [], K => K []
  | a :: l, K => rcK keys ρ nm a fun a => rcsK keys ρ nm l fun l => K (a :: l)

theorem rcsK_out {keys : List Nat} {ρ : List (Nat × Nat)} {nm : Nat} {l : List AV} {K : List AV → Prop} (h : rcsK keys ρ nm l K) : K (l.map (AV.rn ρ nm)) ∧ ∀ a, a ∈ l → Ren keys ρ nm a := by
  induction l generalizing K with
  | nil => exact ⟨h, fun a ha => by cases ha⟩
  | cons a l ih =>
    obtain ⟨h1, h2⟩ := rcK_out h
    obtain ⟨h3, h4⟩ := ih h1
    exact ⟨h3, fun b hb => by
      rcases List.mem_cons.1 hb with rfl | hb
      · exact h2
      · exact h4 b hb⟩

def Ent.rn (ρ : List (Nat × Nat)) (nm : Nat) : Ent → Ent
  | .box cs => .box (cs.map (AV.rn ρ nm))
  | e => e

def reK (keys : List Nat) (ρ : List (Nat × Nat)) (nm : Nat) (e : Ent) (K : Ent → Prop) : Prop :=
  match e with
  | .box cs => rcsK keys ρ nm cs fun cs => K (.box cs)
  | .arr s xs => K (.arr s xs)
  | .buf s xs => K (.buf s xs)

theorem reK_out {keys : List Nat} {ρ : List (Nat × Nat)} {nm : Nat} {e : Ent} {K : Ent → Prop} (h : reK keys ρ nm e K) : K (e.rn ρ nm) ∧ ∀ a, a ∈ e.vars → Ren keys ρ nm a := by
  unfold reK at h
  split at h
  · exact rcsK_out h
  · exact ⟨h, fun a ha => by cases ha⟩
  · exact ⟨h, fun a ha => by cases ha⟩

/-- The rows after the call, ahead of the row tail. -/
def updHK (keys : List Nat) (ρ : List (Nat × Nat)) (nm : Nat) (tail : List (Nat × Option Ent)) : List (Nat × Option Ent) → (List (Nat × Option Ent) → Prop) → Prop
  | [], K => K tail
  | (k, some e) :: r, K => rnK keys ρ nm k fun k => reK keys ρ nm e fun e => updHK keys ρ nm tail r fun u => K ((k, some e) :: u)
  | (_, none) :: _, _ => False

def rnEnt (ρ : List (Nat × Nat)) (nm : Nat) (x : Nat × Option Ent) : Nat × Option Ent := (rn ρ nm x.1, x.2.map (Ent.rn ρ nm))

theorem updHK_out {keys : List Nat} {ρ : List (Nat × Nat)} {nm : Nat} {tail : List (Nat × Option Ent)} {l : List (Nat × Option Ent)} {K : List (Nat × Option Ent) → Prop} (h : updHK keys ρ nm tail l K) :
    K (l.map (rnEnt ρ nm) ++ tail) ∧ ∀ k oe, (k, oe) ∈ l → KN keys k ∧ ∃ e, oe = some e ∧ ∀ a, a ∈ e.vars → Ren keys ρ nm a := by
  induction l generalizing K with
  | nil => exact ⟨h, fun k oe hk => by cases hk⟩
  | cons x l ih =>
    obtain ⟨k, oe⟩ := x
    cases oe with
    | none => exact h.elim
    | some e =>
      obtain ⟨h1, h2⟩ := rnK_out h
      obtain ⟨h3, h4⟩ := reK_out h1
      obtain ⟨h5, h6⟩ := ih h3
      refine ⟨h5, fun k' oe' hk' => ?_⟩
      rcases List.mem_cons.1 hk' with he | hk'
      · cases he; exact ⟨h2, e, rfl, h4⟩
      · exact h6 k' oe' hk'

def outK (rs : List AV) (K : AV → Prop) : Prop := match rs with | [r] => K r | rs => K (.tup rs)
def outAV (rs : List AV) : AV := match rs with | [r] => r | rs => .tup rs
theorem outK_out {rs : List AV} {K : AV → Prop} (h : outK rs K) : K (outAV rs) := by
  unfold outK at h; unfold outAV
  split at h
  · exact h
  · exact h

def nones (l : List Nat) : List (Nat × Option Ent) := match l with | [] => [] | k :: r => (k, none) :: nones r
theorem nones_eq (l : List Nat) : nones l = l.map fun k => (k, none) := by
  induction l with
  | nil => rfl
  | cons k r ih => simp [nones, ih]

def appN (l m : List Nat) : List Nat := match l with | [] => m | x :: r => x :: appN r m
theorem appN_eq (l m : List Nat) : appN l m = l ++ m := by
  induction l with
  | nil => rfl
  | cons k r ih => simp [appN, ih]

def subN (l m : List Nat) : Bool := match l with | [] => true | x :: r => match hasN m x with | true => subN r m | false => false
theorem subN_get {l m : List Nat} (h : subN l m = true) : ∀ x, x ∈ l → x ∈ m := by
  induction l with
  | nil => intro x hx; cases hx
  | cons y r ih =>
    simp only [subN] at h
    split at h
    · rename_i hb
      intro x hx
      rcases List.mem_cons.1 hx with rfl | hx
      · exact hasN_iff.1 hb
      · exact ih h x hx
    · cases h

/-- Rows that may be read as data: those of us. -/
def chkH (us vs : List Nat) : Bool := subN vs us

def leArgs (st : AS) (chk : List Nat → Bool) (ρ : List (Nat × Nat)) : List AV → List AV → Prop
  | [], [] => True
  | a :: l, b :: m => avLe st chk ρ 1 a b ∧ leArgs st chk ρ l m
  | _, _ => False

theorem leArgs_get {st : AS} {chk : List Nat → Bool} {ρ : List (Nat × Nat)} : ∀ {l m : List AV}, leArgs st chk ρ l m → l.length = m.length ∧ ∀ (j : Nat) (a b : AV), l[j]? = some a → m[j]? = some b → avLe st chk ρ 1 a b
  | [], [], _ => ⟨rfl, fun j a b h => by simp at h⟩
  | a :: l, b :: m, h => by
    obtain ⟨h1, h2⟩ := leArgs_get h.2
    refine ⟨by simp [h1], fun j x y hx hy => ?_⟩
    cases j with
    | zero => simp at hx hy; subst hx hy; exact h.1
    | succ j => exact h2 j x y (by simpa using hx) (by simpa using hy)
  | [], _ :: _, h => h.elim
  | _ :: _, [], h => h.elim

def keysOf (own : List (Nat × Option Ent)) : List Nat := match own with | [] => [] | x :: r => x.1 :: keysOf r
theorem keysOf_eq (own : List (Nat × Option Ent)) : keysOf own = own.map (·.1) := by
  induction own with
  | nil => rfl
  | cons k r ih => simp [keysOf, ih]

def keptN (ρ : List (Nat × Nat)) (own : List (Nat × Option Ent)) : List Nat := match own with | [] => [] | x :: r => rho ρ x.1 :: keptN ρ r
theorem keptN_eq (ρ : List (Nat × Nat)) (own : List (Nat × Option Ent)) : keptN ρ own = keptOf ρ own := by
  induction own with
  | nil => rfl
  | cons k r ih => simp [keptN, ih, keptOf]

/-- The caller's view says at least what the contract asks. -/
structure LeH (st : AS) (ρ : List (Nat × Nat)) (us : List Nat) (as bs : List AV) (own : List (Nat × Option Ent)) : Prop where
  args : leArgs st (chkH us) ρ as bs
  rows : ownLe (chkH us) ρ 1 st own
  inj : injN ρ own = true
  off : offB (keptN ρ own) us = true

/-- A call of f with as; ρ: the caller's names of the rows that are lent; us: rows that are read as data (and given up). -/
structure CallHK (C : Ctx) (st : AS) (nm : Nat) (f : FuncId) (as : List AV) (K : KO) : Prop where
  out : ∃ bs own rs own' ρ us, DoesH C f bs own rs own' ∧ LeH st ρ us as bs own ∧
    updHK (keysOf own) ρ nm (nones (appN (keptN ρ own) us)) own' fun upd => rcsK (keysOf own) ρ nm rs fun rs => outK rs fun out => K out upd (appN (keptN ρ own) us)

/-- Rows that are handed over as data. -/
def osIn : List AV → List Nat → List Nat
  | [], r => r
  | a :: l, r => match a with | .os k => k :: osIn l r | _ => osIn l r
def usOf : List AV → List AV → List Nat
  | a :: l, b :: m => match b with
    | .d _ => (match a with | .os k => k :: usOf l m | .agg cs => osIn cs (usOf l m) | _ => usOf l m)
    | _ => usOf l m
  | _, _ => []

theorem callh {C : Ctx} {st : AS} {nm : Nat} {f : FuncId} {as : List AV} {K : KO} {bs : List AV} {own : List (Nat × Option Ent)} {rs : List AV} {own' : List (Nat × Option Ent)} (ρ : List (Nat × Nat))
    (h : DoesH C f bs own rs own') (h1 : LeH st ρ (usOf as bs) as bs own) (h2 : updHK (keysOf own) ρ nm (nones (appN (keptN ρ own) (usOf as bs))) own' fun upd => rcsK (keysOf own) ρ nm rs fun rs => outK rs fun out => K out upd (appN (keptN ρ own) (usOf as bs))) :
    CallHK C st nm f as K := ⟨bs, own, rs, own', ρ, _, h, h1, h2⟩

theorem callh_by {C : Ctx} {st : AS} {nm : Nat} {f : FuncId} {as : List AV} {K : KO} {bs : List AV} {own : List (Nat × Option Ent)} {rs : List AV} {own' : List (Nat × Option Ent)} (ρ : List (Nat × Nat)) (us : List Nat)
    (h : DoesH C f bs own rs own') (h1 : LeH st ρ us as bs own) (h2 : updHK (keysOf own) ρ nm (nones (appN (keptN ρ own) us)) own' fun upd => rcsK (keysOf own) ρ nm rs fun rs => outK rs fun out => K out upd (appN (keptN ρ own) us)) :
    CallHK C st nm f as K := ⟨bs, own, rs, own', ρ, us, h, h1, h2⟩

/-- The call of f with ds. -/
structure CallK (C : Ctx) (f : FuncId) (ds : List D) (K : List D → Prop) (alt : Prop) : Prop where
  out : (∃ rs, Does C f ds rs ∧ K rs) ∨ alt
theorem call_by {C : Ctx} {f : FuncId} {ds rs : List D} {K : List D → Prop} {alt : Prop} (h : Does C f ds rs) (h1 : K rs) : CallK C f ds K alt := ⟨.inl ⟨rs, h, h1⟩⟩
theorem call_alt {C : Ctx} {f : FuncId} {ds : List D} {K : List D → Prop} {alt : Prop} (h : alt) : CallK C f ds K alt := ⟨.inr h⟩

def AV.plain0 : AV → Bool
  | .d _ | .nl _ | .os _ => true
  | _ => false
def plain0s : List AV → Bool
  | [] => true
  | a :: l => match a.plain0 with | true => plain0s l | false => false
def AV.plain : AV → Bool
  | .d _ | .nl _ | .os _ => true
  | .agg cs => plain0s cs
  | _ => false
def plains : List AV → Bool
  | [] => true
  | a :: l => match a.plain with | true => plains l | false => false

def goK (C : Ctx) (st : AS) (nm : Nat) (f : FuncId) (as : List AV) (K : KO) : Prop :=
  match plains as with
  | true => argsK st as fun ds us => CallK C f ds (fun rs => retK rs us K) (CallHK C st nm f as K)
  | false => CallHK C st nm f as K

end Go.Eng
