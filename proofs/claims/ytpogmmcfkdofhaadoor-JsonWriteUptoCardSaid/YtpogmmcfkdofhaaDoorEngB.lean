/-
  The view's steps: what one operation must show to carry Sim on (Sim.upd), records of operations, a region in the text's order and a region that draws its order (its conflicting operations are ordered by edges).
-/
import Derived.Test.YtpogmmcfkdofhaaDoorEngA
namespace Go.Eng

def look {β : Type} : List (Nat × β) → Nat → Option β
  | [], _ => none
  | (y, v) :: r, x => match Nat.beq x y with | true => some v | false => look r x

theorem look_mem {β : Type} {l : List (Nat × β)} {x : Nat} {v : β} (h : look l x = some v) : (x, v) ∈ l := by
  induction l with
  | nil => simp [look] at h
  | cons y l ih =>
    obtain ⟨y, u⟩ := y
    simp only [look] at h
    split at h
    · rename_i hb
      have : x = y := Nat.eq_of_beq_eq_true hb
      cases h; subst this; exact List.mem_cons_self
    · exact List.mem_cons_of_mem _ (ih h)

/-- The slots' and the entries' turn of one operation. -/
def SS.upd (S : SS) (dst : Option Nat) (out : AV) (upd : List (Nat × Option Ent)) : SS :=
  ⟨fun t => if dst = some t then some out else S.env t, fun k => match look upd k with | some oe => oe | none => S.own k⟩

theorem put_size (a : Act) (dst : Option Nat) (v : Value) : (a.put dst v).tmps.size = a.tmps.size := by
  cases dst <;> simp [Act.put]

theorem put_defers' (a : Act) (dst : Option Nat) (v : Value) : (a.put dst v).defers = a.defers := by
  cases dst <;> simp [Act.put]

theorem put_get (a : Act) (d : Nat) (v : Value) (h : d < a.tmps.size) : (a.put (some d) v).tmps.getD d undef = v := by
  simp [Act.put, Array.getD, h]

theorem put_get_ne (a : Act) (dst : Option Nat) (t : Nat) (v : Value) (h : dst ≠ some t) : (a.put dst v).tmps.getD t undef = a.tmps.getD t undef := by
  cases dst with
  | none => rfl
  | some d =>
    have hne : d ≠ t := fun e => h (by rw [e])
    simp [Act.put, Array.getD_eq_getD_getElem?, Array.getElem?_setIfInBounds_ne hne]

theorem Sim.mono {G : List Gl} {X0 : Nat → Prop} {F : Fr} {w0 : World} {n : Nat} {p q : Nat → Prop} {α : Nat → Loc} {S : SS} {a : Act} {w : World}
    (h : Sim G X0 F w0 n p α S a w) (hp : ∀ k, p k → q k) : Sim G X0 F w0 n q α S a w :=
  { h with
    ok := fun t av ht => (h.ok t av ht).mono hp
    oko := fun k e hk => ⟨hp k (h.oko k e hk).1, fun x hx => ((h.oko k e hk).2 x hx).mono hp⟩
    fix := fun k l hk => ⟨(h.fix k l hk).1, hp k (h.fix k l hk).2⟩ }

theorem Sim.upd {G : List Gl} {X0 : Nat → Prop} {F : Fr} {w0 : World} {n : Nat} {p : Nat → Prop} {α : Nat → Loc} {S : SS} {a : Act} {w : World}
    (h : Sim G X0 F w0 n p α S a w) (q : Nat → Prop) (hp : ∀ k, p k → q k) (α' : Nat → Loc) (w' : World) (dst : Option Nat) (hd : ∀ d, dst = some d → d < n)
    (out : AV) (upd : List (Nat × Option Ent)) (v : Value)
    (hα : ∀ k, p k → α' k = α k) (hgrow : w.heap.size ≤ w'.heap.size) (hos : w'.os = w.os) (ht : w'.tape = w.tape) (ho : w'.output = w.output)
    (hheap : ∀ b, b < w.heap.size → (∀ k e, S.own k = some e → (look upd k).isSome = true → (α k).nil = false → (α k).blk ≠ b) → w'.heap[b]? = w.heap[b]?)
    (hup : ∀ k e, look upd k = some (some e) → q k)
    (hblk : ∀ k e, look upd k = some (some e) → (α' k).nil = false → w.heap.size ≤ (α' k).blk ∨ ∃ k0 e0, S.own k0 = some e0 ∧ (look upd k0).isSome = true ∧ (α k0).nil = false ∧ (α k0).blk = (α' k).blk)
    (hinj : ∀ k e k' e', look upd k = some (some e) → look upd k' = some (some e') → (α' k).nil = false → (α' k').nil = false → (α' k).blk = (α' k').blk → k = k')
    (hown : (∀ b o, w.heap[b]? = some o → ¬ XX α S.own X0 b → w'.heap[b]? = some o ∧ ¬ XX α' (S.upd dst out upd).own X0 b) →
      ∀ k e, look upd k = some (some e) → Own w' α' (XX α' (S.upd dst out upd).own X0) k e ∧ ∀ x, x ∈ e.vars → x.ok q)
    (hout : (∀ b o, w.heap[b]? = some o → ¬ XX α S.own X0 b → w'.heap[b]? = some o ∧ ¬ XX α' (S.upd dst out upd).own X0 b) →
      RdA w' α' (XX α' (S.upd dst out upd).own X0) out v) (hok : out.ok q) :
    Sim G X0 F w0 n q α' (S.upd dst out upd) (a.put dst v) w' := by
  have hlive : ∀ k e, S.own k = some e → look upd k = none → (S.upd dst out upd).own k = some e := by
    intro k e h1 h2; simp [SS.upd, h2, h1]
  have hcase : ∀ k e, (S.upd dst out upd).own k = some e → look upd k = some (some e) ∨ (look upd k = none ∧ S.own k = some e) := by
    intro k e hk
    simp only [SS.upd] at hk
    cases hl : look upd k with
    | none => simp only [hl] at hk; exact .inr ⟨rfl, hk⟩
    | some oe => simp only [hl] at hk; subst hk; exact .inl rfl
  have hold : ∀ b, XX α' (S.upd dst out upd).own X0 b → b < w.heap.size → XX α S.own X0 b := by
    rintro b (⟨k, e, hk, hn, rfl⟩ | hx) hlt
    · rcases hcase k e hk with hl | ⟨hl, hs⟩
      · rcases hblk k e hl hn with hge | ⟨k0, e0, h1, _, h3, h4⟩
        · omega
        · exact .inl ⟨k0, e0, h1, h3, h4⟩
      · have := hα k (h.oko k e hs).1
        rw [this] at hn
        exact .inl ⟨k, e, hs, hn, by rw [this]⟩
    · exact .inr hx
  have hw : ∀ b o, w.heap[b]? = some o → ¬ XX α S.own X0 b → w'.heap[b]? = some o ∧ ¬ XX α' (S.upd dst out upd).own X0 b := by
    intro b o hb hx
    have hlt : b < w.heap.size := by
      rcases Nat.lt_or_ge b w.heap.size with hlt | hge
      · exact hlt
      · rw [Array.getElem?_eq_none hge] at hb; cases hb
    refine ⟨?_, fun hX => hx (hold b hX hlt)⟩
    rw [hheap b hlt fun k e hk _ hn he => hx (.inl ⟨k, e, hk, hn, he⟩)]; exact hb
  refine ⟨?_, ?_, ?_, ?_, ?_, ?_, ?_, ?_, h.x0, ?_, Nat.le_trans h.grow hgrow, hos.trans h.os, ht.trans h.tape, ho.trans h.output, h.gl, fun k l hk => ⟨(hα k (h.fix k l hk).2).trans (h.fix k l hk).1, hp k (h.fix k l hk).2⟩⟩
  · rw [put_size]; exact h.size
  · rw [put_defers']; exact h.defers
  · intro t av ht'
    by_cases hdt : dst = some t
    · simp only [SS.upd, hdt, if_true] at ht'
      cases ht'
      rw [hdt, put_get _ _ _ (by rw [h.size]; exact hd t hdt)]
      rw [← hdt]; exact hout hw
    · simp only [SS.upd, hdt, if_false] at ht'
      rw [put_get_ne _ _ _ _ hdt]
      exact (h.env t av ht').mono hw hα (h.ok t av ht')
  · intro t av ht'
    by_cases hdt : dst = some t
    · simp only [SS.upd, hdt, if_true] at ht'
      cases ht'; exact hok
    · simp only [SS.upd, hdt, if_false] at ht'
      exact (h.ok t av ht').mono hp
  · intro k e hk
    rcases hcase k e hk with hl | ⟨hl, hs⟩
    · exact (hown hw k e hl).1
    · refine Own.mono hw hα (h.oko k e hs).1 (h.oko k e hs).2 (fun hn => ?_) (h.own k e hs)
      refine hheap _ ((h.own k e hs).lt hn) fun k1 e1 h1 h2 h3 h4 => ?_
      have := h.inj k1 e1 k e h1 hs h3 hn h4
      subst this; rw [hl] at h2; cases h2
  · intro k e hk
    rcases hcase k e hk with hl | ⟨_, hs⟩
    · exact ⟨hup k _ hl, (hown hw k e hl).2⟩
    · exact ⟨hp k (h.oko k e hs).1, fun x hx => ((h.oko k e hs).2 x hx).mono hp⟩
  · intro k e k' e' hk hk' hn hn' hb
    rcases hcase k e hk with hl | ⟨hl, hs⟩ <;> rcases hcase k' e' hk' with hl' | ⟨hl', hs'⟩
    · exact hinj k e k' e' hl hl' hn hn' hb
    · rw [hα k' (h.oko k' e' hs').1] at hn' hb
      have hlt := (h.own k' e' hs').lt hn'
      rcases hblk k e hl hn with hge | ⟨k0, e0, h1, h2, h3, h4⟩
      · omega
      · have := h.inj k0 e0 k' e' h1 hs' h3 hn' (h4.trans hb)
        subst this; rw [hl'] at h2; cases h2
    · rw [hα k (h.oko k e hs).1] at hn hb
      have hlt := (h.own k e hs).lt hn
      rcases hblk k' e' hl' hn' with hge | ⟨k0, e0, h1, h2, h3, h4⟩
      · omega
      · have := h.inj k0 e0 k e h1 hs h3 hn (h4.trans hb.symm)
        subst this; rw [hl] at h2; cases h2
    · rw [hα k (h.oko k e hs).1] at hn hb
      rw [hα k' (h.oko k' e' hs').1] at hn' hb
      exact h.inj k e k' e' hs hs' hn hn' hb
  · intro k e hk hn
    rcases hcase k e hk with hl | ⟨_, hs⟩
    · rcases hblk k e hl hn with hge | ⟨k0, e0, h1, _, h3, h4⟩
      · refine ⟨.inl (Nat.le_trans h.grow hge), fun hx => ?_⟩
        have h1 := h.x0 _ hx
        have h2 := h.grow
        omega
      · rw [← h4]; exact h.mine k0 e0 h1 h3
    · rw [hα k (h.oko k e hs).1] at hn ⊢
      exact h.mine k e hs hn
  · intro b hb hF
    rw [hheap b (Nat.lt_of_lt_of_le hb h.grow) ?_]
    · exact h.fr b hb hF
    · intro k e h1 _ h3 h4
      subst h4
      rcases (h.mine k e h1 h3).1 with hge | hf
      · omega
      · exact hF hf

/-- An operation that leaves the world alone. -/
theorem Sim.pure {G : List Gl} {X0 : Nat → Prop} {F : Fr} {w0 : World} {n : Nat} {p : Nat → Prop} {α : Nat → Loc} {S : SS} {a : Act} {w : World}
    (h : Sim G X0 F w0 n p α S a w) (dst : Option Nat) (hd : ∀ d, dst = some d → d < n) (out : AV) (v : Value)
    (hout : RdA w α (XX α S.own X0) out v) (hok : out.ok p) : Sim G X0 F w0 n p α (S.upd dst out []) (a.put dst v) w := by
  have e : (S.upd dst out []).own = S.own := by funext k; simp [SS.upd, look]
  exact h.upd p (fun _ h => h) α w dst hd out [] v (fun _ _ => rfl) (Nat.le_refl _) rfl rfl rfl (fun _ _ _ => rfl)
    (fun _ _ hl => by simp [look] at hl) (fun _ _ hl => by simp [look] at hl) (fun _ _ _ _ hl => by simp [look] at hl) (fun _ _ _ hl => by simp [look] at hl)
    (fun _ => by rw [e]; exact hout) hok

/-! ### Records -/

structure Rec where
  ins : List (Nat × AV)
  fp : List (Nat × Ent)
  out : AV
  upd : List (Nat × Option Ent)

def Rec.pre (r : Rec) (S : SS) : Prop := (∀ t av, (t, av) ∈ r.ins → S.env t = some av) ∧ ∀ k e, (k, e) ∈ r.fp → S.own k = some e

def dstOf (ops : Array Oper) (i : Nat) : Option Nat := (ops[i]?).bind (·.dst)

def fam (nm k : Nat) : Prop := k / 16 = nm

/-- The record speaks true of operation i at whatever view meets its premises. -/
def Valid (P : Program) (G : List Gl) (ops : Array Oper) (n N i : Nat) (r : Rec) : Prop :=
  ∀ (X0 : Nat → Prop) (F : Fr) (w0 : World) (p : Nat → Prop) (α : Nat → Loc) (S : SS) (a : Act) (w : World) (Q : Exit → Act → World → Prop) (K : Act → World → Prop),
    Sim G X0 F w0 n p α S a w → r.pre S → (∀ k, fam (N + i) k → ¬ p k) →
    (∀ α' a' w', Sim G X0 F w0 n (fun k => p k ∨ fam (N + i) k) α' (S.upd (dstOf ops i) r.out r.upd) a' w' → K a' w') → wpOp P ops Q i K a w

def Chain (ops : Array Oper) : SS → List (Nat × Rec) → SS → Prop
  | S, [], S' => S' = S
  | S, (i, r) :: l, S' => r.pre S ∧ Chain ops (S.upd (dstOf ops i) r.out r.upd) l S'

def PD (N : Nat) (done : Nat → Prop) (k : Nat) : Prop := k / 16 < N ∨ ∃ j, done j ∧ fam (N + j) k

theorem seq_sound {P : Program} {ops : Array Oper} {n N : Nat} {G : List Gl} {X0 : Nat → Prop} {F : Fr} {w0 : World} {Q : Exit → Act → World → Prop} {S' : SS} :
    ∀ (l : List (Nat × Rec)) (S : SS) (done : Nat → Prop) (α : Nat → Loc) (a : Act) (w : World),
      (∀ x, x ∈ l → Valid P G ops n N x.1 x.2) → Chain ops S l S' → l.Pairwise (fun x y => x.1 < y.1) → (∀ x, x ∈ l → ¬ done x.1) →
      Sim G X0 F w0 n (PD N done) α S a w →
      (∀ α' a' w', Sim G X0 F w0 n (PD N fun j => done j ∨ ∃ x, x ∈ l ∧ x.1 = j) α' S' a' w' → Q .normal a' w') →
      wpOps P ops Q (l.map (·.1)) a w := by
  intro l
  induction l with
  | nil =>
    intro S done α a w _ hc _ _ hs hq
    simp only [Chain] at hc; subst hc
    exact hq α a w (hs.mono fun k hk => hk.imp id fun ⟨j, h1, h2⟩ => ⟨j, .inl h1, h2⟩)
  | cons x l ih =>
    obtain ⟨i, r⟩ := x
    intro S done α a w hv hc hp hd hs hq
    obtain ⟨hpre, hc⟩ := hc
    rw [List.map_cons, wpOps_cons]
    refine hv (i, r) List.mem_cons_self X0 F w0 _ α S a w Q _ hs hpre ?_ ?_
    · rintro k hk (hlt | ⟨j, hj, hj'⟩)
      · simp only [fam] at hk; omega
      · simp only [fam] at hk hj'
        have : j = i := by omega
        subst this; exact hd (j, r) List.mem_cons_self hj
    · intro α' a' w' hs'
      have hp' := List.pairwise_cons.1 hp
      refine ih _ (fun j => done j ∨ j = i) α' a' w' (fun x hx => hv x (List.mem_cons_of_mem _ hx)) hc hp'.2 ?_ (hs'.mono ?_) ?_
      · rintro x hx (hdx | he)
        · exact hd x (List.mem_cons_of_mem _ hx) hdx
        · have := hp'.1 x hx; simp only at this; omega
      · rintro k ((hlt | ⟨j, hj, hj'⟩) | hf)
        · exact .inl hlt
        · exact .inr ⟨j, .inl hj, hj'⟩
        · exact .inr ⟨i, .inr rfl, hf⟩
      · intro α'' a'' w'' hs''
        refine hq α'' a'' w'' (hs''.mono ?_)
        rintro k (hlt | ⟨j, (hj | rfl) | ⟨x, hx, hxj⟩, hj'⟩)
        · exact .inl hlt
        · exact .inr ⟨j, .inl hj, hj'⟩
        · exact .inr ⟨j, .inr ⟨(j, r), List.mem_cons_self, rfl⟩, hj'⟩
        · exact .inr ⟨j, .inr ⟨x, List.mem_cons_of_mem _ hx, hxj⟩, hj'⟩

/-- Two records that may change places. -/
structure Indep (d1 : Option Nat) (r1 : Rec) (d2 : Option Nat) (r2 : Rec) : Prop where
  t12 : ∀ d, d1 = some d → (∀ av, (d, av) ∉ r2.ins) ∧ d2 ≠ some d
  t21 : ∀ d, d2 = some d → ∀ av, (d, av) ∉ r1.ins
  o12 : ∀ k, (look r1.upd k).isSome = true → (∀ e, (k, e) ∉ r2.fp) ∧ look r2.upd k = none
  o21 : ∀ k, (look r2.upd k).isSome = true → ∀ e, (k, e) ∉ r1.fp

theorem Indep.swap {d1 d2 : Option Nat} {r1 r2 : Rec} (h : Indep d1 r1 d2 r2) {S : SS} (h1 : r1.pre S) (h2 : r2.pre (S.upd d1 r1.out r1.upd)) :
    r2.pre S ∧ r1.pre (S.upd d2 r2.out r2.upd) ∧ (S.upd d1 r1.out r1.upd).upd d2 r2.out r2.upd = (S.upd d2 r2.out r2.upd).upd d1 r1.out r1.upd := by
  refine ⟨⟨fun t av ht => ?_, fun k e hk => ?_⟩, ⟨fun t av ht => ?_, fun k e hk => ?_⟩, ?_⟩
  · have := h2.1 t av ht
    by_cases hd : d1 = some t
    · exact absurd ht ((h.t12 t hd).1 av)
    · simpa [SS.upd, hd] using this
  · have := h2.2 k e hk
    cases hl : look r1.upd k with
    | none => simpa [SS.upd, hl] using this
    | some oe => exact absurd hk ((h.o12 k (by rw [hl]; rfl)).1 e)
  · by_cases hd : d2 = some t
    · exact absurd ht (h.t21 t hd av)
    · simpa [SS.upd, hd] using h1.1 t av ht
  · cases hl : look r2.upd k with
    | none => simpa [SS.upd, hl] using h1.2 k e hk
    | some oe => exact absurd hk (h.o21 k (by rw [hl]; rfl) e)
  · simp only [SS.upd, SS.mk.injEq]
    constructor
    · funext t
      by_cases hd1 : d1 = some t
      · have := (h.t12 t hd1).2
        simp [hd1, this]
      · by_cases hd2 : d2 = some t <;> simp [hd1, hd2]
    · funext k
      cases hl1 : look r1.upd k with
      | none => cases hl2 : look r2.upd k <;> simp
      | some oe =>
        have := (h.o12 k (by rw [hl1]; rfl)).2
        simp [this]

theorem bubble {ops : Array Oper} {i : Nat} {r : Rec} {l2 : List (Nat × Rec)} {S' : SS} : ∀ (l1 : List (Nat × Rec)) (S : SS),
    (∀ x, x ∈ l1 → Indep (dstOf ops x.1) x.2 (dstOf ops i) r) → Chain ops S (l1 ++ (i, r) :: l2) S' →
    r.pre S ∧ Chain ops (S.upd (dstOf ops i) r.out r.upd) (l1 ++ l2) S' := by
  intro l1
  induction l1 with
  | nil => intro S _ hc; exact hc
  | cons x l1 ih =>
    obtain ⟨j, q⟩ := x
    intro S hi hc
    obtain ⟨hq, hc⟩ := hc
    obtain ⟨hr, hc⟩ := ih _ (fun x hx => hi x (List.mem_cons_of_mem _ hx)) hc
    obtain ⟨h1, h2, h3⟩ := (hi (j, q) List.mem_cons_self).swap hq hr
    exact ⟨h1, h2, by rw [← h3]; exact hc⟩

/-- x stands ahead of y in the text: they do not touch each other, or an edge orders them. -/
def Apart (ops : Array Oper) (x y : Nat × Rec) : Prop :=
  x.1 < y.1 ∧ (Indep (dstOf ops x.1) x.2 (dstOf ops y.1) y.2 ∨ ∃ o, ops[y.1]? = some o ∧ ∃ e ∈ o.after, Region.binds .any e = true ∧ e.on = x.1)

theorem any_sound {P : Program} {ops : Array Oper} {n N : Nat} {G : List Gl} {X0 : Nat → Prop} {F : Fr} {w0 : World} {Q : Exit → Act → World → Prop} {S' : SS}
    (hback : ∀ j o, ops[j]? = some o → ∀ e ∈ o.after, Region.binds .any e = true → e.on < j) :
    ∀ (fuel : Nat) (l : List (Nat × Rec)) (listed : Array Bool) (S : SS) (done : Nat → Prop) (α : Nat → Loc) (a : Act) (w : World),
      l.length ≤ fuel → listed.size = ops.size → (∀ j, j < ops.size → (listed.getD j true = false ↔ ∃ x, x ∈ l ∧ x.1 = j)) → (∀ x, x ∈ l → x.1 < ops.size) →
      (∀ x, x ∈ l → Valid P G ops n N x.1 x.2) → Chain ops S l S' → l.Pairwise (Apart ops) → (∀ x, x ∈ l → ¬ done x.1) →
      Sim G X0 F w0 n (PD N done) α S a w →
      (∀ α' a' w', Sim G X0 F w0 n (PD N fun j => done j ∨ ∃ x, x ∈ l ∧ x.1 = j) α' S' a' w' → Q .normal a' w') →
      wpAny P .any ops Q fuel listed a w := by
  have fin : ∀ (l : List (Nat × Rec)) (S : SS) (done : Nat → Prop) (α : Nat → Loc) (a : Act) (w : World), l = [] → Chain ops S l S' → Sim G X0 F w0 n (PD N done) α S a w →
      (∀ α' a' w', Sim G X0 F w0 n (PD N fun j => done j ∨ ∃ x, x ∈ l ∧ x.1 = j) α' S' a' w' → Q .normal a' w') → Q .normal a w := by
    intro l S done α a w hl hc hs hq
    subst hl
    simp only [Chain] at hc; subst hc
    exact hq α a w (hs.mono fun k hk => hk.imp id fun ⟨j, h1, h2⟩ => ⟨j, .inl h1, h2⟩)
  have first : ∀ (l : List (Nat × Rec)) (listed : Array Bool), (∀ j, j < ops.size → (listed.getD j true = false ↔ ∃ x, x ∈ l ∧ x.1 = j)) → (∀ x, x ∈ l → x.1 < ops.size) → listed.size = ops.size →
      l.Pairwise (Apart ops) → Region.ready .any ops listed = [] → l = [] := by
    intro l listed hl hlt hsz hp hr
    cases l with
    | nil => rfl
    | cons x l =>
      exfalso
      have hx := hlt x List.mem_cons_self
      have : x.1 ∈ Region.ready .any ops listed := by
        rw [mem_ready]
        refine ⟨(hl _ hx).2 ⟨x, List.mem_cons_self, rfl⟩, ops[x.1], Array.getElem?_eq_getElem hx, fun e he hb => ?_⟩
        have hlt2 := hback x.1 _ (Array.getElem?_eq_getElem hx) e he hb
        have hes : e.on < ops.size := by omega
        cases hg : listed.getD e.on true with
        | false =>
          obtain ⟨y, hy, hye⟩ := (hl _ hes).1 hg
          rcases List.mem_cons.1 hy with rfl | hy
          · omega
          · have := ((List.pairwise_cons.1 hp).1 y hy).1
            omega
        | true =>
          have : e.on < listed.size := by omega
          simpa [Array.getD, this] using hg
      rw [hr] at this; cases this
  intro fuel
  induction fuel with
  | zero =>
    intro l listed S done α a w hf hsz hl hlt hv hc hp hd hs hq
    have h0 : l = [] := List.eq_nil_of_length_eq_zero (by omega)
    refine ⟨?_, fin l S done α a w h0 hc hs hq⟩
    subst h0
    cases hr : Region.ready .any ops listed with
    | nil => rfl
    | cons j js =>
      exfalso
      have : j ∈ Region.ready .any ops listed := by rw [hr]; exact List.mem_cons_self
      rw [mem_ready] at this
      obtain ⟨h1, o, ho, _⟩ := this
      have hj : j < ops.size := (Array.getElem?_eq_some_iff.1 ho).1
      obtain ⟨x, hx, _⟩ := (hl j hj).1 h1
      cases hx
  | succ fuel ih =>
    intro l listed S done α a w hf hsz hl hlt hv hc hp hd hs hq
    refine ⟨fun hr => fin l S done α a w (first l listed hl hlt hsz hp hr) hc hs hq, fun i hi => ?_⟩
    rw [mem_ready] at hi
    obtain ⟨hun, o, ho, hall⟩ := hi
    have hio : i < ops.size := (Array.getElem?_eq_some_iff.1 ho).1
    obtain ⟨⟨i', r⟩, hx, rfl⟩ := (hl i hio).1 hun
    simp only at ho hio hun
    obtain ⟨l1, l2, rfl⟩ := List.append_of_mem hx
    have hp' := List.pairwise_append.1 hp
    have hind : ∀ x, x ∈ l1 → Indep (dstOf ops x.1) x.2 (dstOf ops i') r := by
      intro x hx1
      rcases (hp'.2.2 x hx1 (i', r) List.mem_cons_self).2 with h | ⟨o', ho', e, he, hb, hon⟩
      · exact h
      · simp only at ho'
        rw [ho] at ho'; cases ho'
        have h1 := hall e he hb
        rw [hon] at h1
        have h2 := (hl x.1 (hlt x (List.mem_append_left _ hx1))).2 ⟨x, List.mem_append_left _ hx1, rfl⟩
        have : x.1 < listed.size := by rw [hsz]; exact hlt x (List.mem_append_left _ hx1)
        simp [Array.getD, this] at h1 h2
        rw [h1] at h2; cases h2
    obtain ⟨hpre, hc'⟩ := bubble l1 S hind hc
    have hne : ∀ x, x ∈ l1 ++ l2 → x.1 ≠ i' := by
      intro x hx1 he
      rcases List.mem_append.1 hx1 with h | h
      · have := (hp'.2.2 x h (i', r) List.mem_cons_self).1; simp only at this; omega
      · have := ((List.pairwise_cons.1 hp'.2.1).1 x h).1; simp only at this; omega
    have hsub : ∀ x, x ∈ l1 ++ l2 → x ∈ l1 ++ (i', r) :: l2 := by
      intro x hx1
      rcases List.mem_append.1 hx1 with h | h
      · exact List.mem_append_left _ h
      · exact List.mem_append_right _ (List.mem_cons_of_mem _ h)
    refine hv (i', r) hx X0 F w0 _ α S a w Q _ hs hpre ?_ ?_
    · rintro k hk (hlt1 | ⟨j, hj, hj'⟩)
      · simp only [fam] at hk; omega
      · simp only [fam] at hk hj'
        have : j = i' := by omega
        subst this; exact hd (j, r) hx hj
    · intro α' a' w' hs'
      refine ih (l1 ++ l2) (listed.setIfInBounds i' true) _ (fun j => done j ∨ j = i') α' a' w' ?_ (by simpa using hsz) ?_ (fun x h => hlt x (hsub x h)) (fun x h => hv x (hsub x h)) hc' ?_ ?_ (hs'.mono ?_) ?_
      · simp only [List.length_append, List.length_cons] at hf ⊢; omega
      · intro j hj
        by_cases hji : j = i'
        · subst hji
          have : j < listed.size := by omega
          constructor
          · intro h; simp [Array.getD, this] at h
          · rintro ⟨x, h1, h2⟩; exact absurd h2 (hne x h1)
        · rw [getD_set_ne true (fun e => hji e.symm), hl j hj]
          constructor
          · rintro ⟨x, h1, rfl⟩
            rcases List.mem_append.1 h1 with h | h
            · exact ⟨x, List.mem_append_left _ h, rfl⟩
            · rcases List.mem_cons.1 h with rfl | h
              · exact absurd rfl hji
              · exact ⟨x, List.mem_append_right _ h, rfl⟩
          · rintro ⟨x, h1, h2⟩; exact ⟨x, hsub x h1, h2⟩
      · refine List.pairwise_append.2 ⟨hp'.1, (List.pairwise_cons.1 hp'.2.1).2, fun x h1 y h2 => hp'.2.2 x h1 y (List.mem_cons_of_mem _ h2)⟩
      · rintro x h1 (h2 | h2)
        · exact hd x (hsub x h1) h2
        · exact hne x h1 h2
      · rintro k ((h1 | ⟨j, hj, hj'⟩) | hf')
        · exact .inl h1
        · exact .inr ⟨j, .inl hj, hj'⟩
        · exact .inr ⟨i', .inr rfl, hf'⟩
      · intro α'' a'' w'' hs''
        refine hq α'' a'' w'' (hs''.mono ?_)
        rintro k (h1 | ⟨j, (hj | rfl) | ⟨x, h2, h3⟩, hj'⟩)
        · exact .inl h1
        · exact .inr ⟨j, .inl hj, hj'⟩
        · exact .inr ⟨j, .inr ⟨(j, r), hx, rfl⟩, hj'⟩
        · exact .inr ⟨j, .inr ⟨x, hsub x h2, h3⟩, hj'⟩

end Go.Eng
