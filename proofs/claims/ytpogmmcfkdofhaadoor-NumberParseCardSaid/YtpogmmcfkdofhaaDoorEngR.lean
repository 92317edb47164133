/-
  Bodies: sequences, tests, blocks, loops; what one view says of another; functions and their contracts.
-/
import Derived.Test.YtpogmmcfkdofhaaDoorEngQ
namespace Go.Eng
open Go.RowKit (Below)

def hasN (l : List Nat) (x : Nat) : Bool := match l with | [] => false | y :: r => match Nat.beq y x with | true => true | false => hasN r x
def meetN (l m : List Nat) : Bool := match l with | [] => false | x :: r => match hasN m x with | true => true | false => meetN r m

theorem hasN_iff {l : List Nat} {x : Nat} : hasN l x = true ↔ x ∈ l := by
  induction l with
  | nil => simp [hasN]
  | cons y r ih =>
    simp only [hasN]
    split
    · rename_i hb; simp [Nat.eq_of_beq_eq_true hb]
    · rename_i hb
      rw [ih]
      have : x ≠ y := fun h => by subst h; simp at hb
      simp [this]

theorem meetN_iff {l m : List Nat} : meetN l m = true ↔ ∃ x, x ∈ l ∧ x ∈ m := by
  induction l with
  | nil => simp [meetN]
  | cons y r ih =>
    simp only [meetN]
    split
    · rename_i hb; exact ⟨fun _ => ⟨y, List.mem_cons_self, hasN_iff.1 hb⟩, fun _ => rfl⟩
    · rename_i hb
      rw [ih]
      constructor
      · rintro ⟨x, h1, h2⟩; exact ⟨x, List.mem_cons_of_mem _ h1, h2⟩
      · rintro ⟨x, h1, h2⟩
        rcases List.mem_cons.1 h1 with rfl | h1
        · rw [hasN_iff.2 h2] at hb; cases hb
        · exact ⟨x, h1, h2⟩

def conflB (ops : Array Oper) (x y : Fp) : Bool :=
  meetN x.o.dst.toList (y.o.looksAt ops) || meetN x.o.dst.toList y.o.dst.toList || meetN y.o.dst.toList (x.o.looksAt ops) || meetN x.wr (y.rd ++ y.wr) || meetN y.wr x.rd

def edgeB (x y : Fp) : Bool := y.o.after.toList.any fun e => Nat.beq e.on x.i && Region.binds .any e

/-- fps: the latest first. -/
def sepB (ops : Array Oper) : List Fp → Bool
  | [] => true
  | y :: r => (r.all fun x => !conflB ops x y || edgeB x y) && sepB ops r

def backB (l : List Oper) (i : Nat) : Bool :=
  match l with | [] => true | o :: r => (o.after.toList.all fun e => !Region.binds .any e || Nat.blt e.on i) && backB r (i + 1)

theorem backB_get {l : List Oper} {i : Nat} (h : backB l i = true) : ∀ j o, l[j]? = some o → ∀ e ∈ o.after, Region.binds .any e = true → e.on < i + j := by
  induction l generalizing i with
  | nil => intro j o hj; simp at hj
  | cons x r ih =>
    intro j o hj e he hb
    simp only [backB, Bool.and_eq_true] at h
    cases j with
    | zero =>
      simp at hj; subst hj
      have := List.all_eq_true.1 h.1 e (by simpa using he)
      simp [hb, Nat.blt] at this
      omega
    | succ j =>
      have := ih h.2 j o (by simpa using hj) e he hb
      omega

/-- A region that draws its order: what it touches is ordered. -/
structure DrawOk (C : Ctx) (ops : Array Oper) (fps : List Fp) : Prop where
  out : (C.P.follows .mixedOrders && sepB ops fps && backB ops.toList 0) = true
theorem draw_ok {C : Ctx} {ops : Array Oper} {fps : List Fp} (h : (C.P.follows .mixedOrders && sepB ops fps && backB ops.toList 0) = true) : DrawOk C ops fps := ⟨h⟩

noncomputable def regK (C : Ctx) (n : Nat) (ops : Array Oper) (draw : Bool) (st : AS) (K : AS → Prop) : Prop :=
  opsK C n ops.toList ops.toList 0 st [] fun st' fps => match draw with
    | true => DrawOk C ops fps ∧ bumpK st' ops.toList.length K
    | false => bumpK st' ops.toList.length K

def names (st : AS) (k : Nat) : Prop := k / 16 < st.nx

theorem apart_of {ops : Array Oper} {fs : List Fp} {rs : List (Nat × Rec)} (hlen : fs.length = rs.length) (h : ∀ (j : Nat) (f : Fp) (x : Nat × Rec), fs[j]? = some f → rs[j]? = some x → f.i = x.1 ∧ FpOf ops f x.2)
    (hp : rs.Pairwise fun x y => x.1 < y.1) (hs : sepB ops fs.reverse = true) : rs.Pairwise (Apart ops) := by
  have key : ∀ (l : List Fp), sepB ops l = true → l.Pairwise fun y x => conflB ops x y = true → edgeB x y = true := by
    intro l
    induction l with
    | nil => intro _; exact List.Pairwise.nil
    | cons y r ih =>
      intro h
      simp only [sepB, Bool.and_eq_true] at h
      refine List.pairwise_cons.2 ⟨fun x hx hc => ?_, ih h.2⟩
      have := List.all_eq_true.1 h.1 x hx
      simpa [hc] using this
  have hpw := List.pairwise_reverse.1 (key _ hs)
  rw [List.pairwise_iff_getElem] at hpw hp ⊢
  intro i j hi hj hij
  have hi' : i < fs.length := by omega
  have hj' : j < fs.length := by omega
  have h1 := h i fs[i] rs[i] (by simp) (by simp)
  have h2 := h j fs[j] rs[j] (by simp) (by simp)
  have h3 := hpw i j hi' hj' hij
  refine ⟨hp i j hi hj hij, ?_⟩
  obtain ⟨e1, a1, b1, c1, d1⟩ := h1
  obtain ⟨e2, a2, b2, c2, d2⟩ := h2
  have hd1 : dstOf ops rs[i].1 = fs[i].o.dst := by rw [← e1]; simp [dstOf, a1]
  have hd2 : dstOf ops rs[j].1 = fs[j].o.dst := by rw [← e2]; simp [dstOf, a2]
  cases hc : conflB ops fs[i] fs[j] with
  | true =>
    have he := h3 hc
    unfold edgeB at he
    obtain ⟨e, he1, he2⟩ := List.any_eq_true.1 he
    simp only [Bool.and_eq_true] at he2
    refine .inr ⟨fs[j].o, by rw [← e2]; exact a2, e, by simpa using he1, he2.2, by rw [Nat.eq_of_beq_eq_true he2.1]; exact e1⟩
  | false =>
    refine .inl ?_
    rw [hd1, hd2]
    simp only [conflB, Bool.or_eq_false_iff] at hc
    obtain ⟨⟨⟨⟨q1, q2⟩, q3⟩, q4⟩, q5⟩ := hc
    have no : ∀ {l m : List Nat} {x : Nat}, meetN l m = false → x ∈ l → x ∉ m := by
      intro l m x h hx hm
      have := meetN_iff.2 ⟨x, hx, hm⟩
      rw [h] at this; cases this
    refine ⟨fun d hd => ⟨fun av hm => no q1 (by rw [hd]; simp) (b2 d av hm), fun hd' => no q2 (x := d) (by rw [hd]; simp) (by rw [hd']; simp)⟩, fun d hd av hm => no q3 (by rw [hd]; simp) (b1 d av hm), fun k hk => ⟨fun e he => ?_, ?_⟩, fun k hk e he => ?_⟩
    · exact no q4 (d1 k hk) (List.mem_append_left _ (c2 k e he))
    · cases hl : look rs[j].2.upd k with
      | none => rfl
      | some oe => exact absurd (List.mem_append_right _ (d2 k (by rw [hl]; rfl))) (no q4 (d1 k hk))
    · exact no q5 (d2 k hk) (c1 k e he)

theorem regK_sound {C : Ctx} {n id : Nat} {ops : Array Oper} {draw : Bool} {st : AS} {K : AS → Prop} {X0 F : Nat → Prop} {w0 : World} {α : Nat → Loc} {a : Act} {w : World} {Q : Exit → Act → World → Prop}
    (hs : Sim C.G X0 F w0 n (names st) α st.ss a w) (h : regK C n ops draw st K) (hq : ∀ st' α' a' w', K st' → Sim C.G X0 F w0 n (names st') α' st'.ss a' w' → Q .normal a' w') :
    (Code.region id ops draw).wp C.P Q a w := by
  unfold regK at h
  obtain ⟨st', fs, rs, h, hnx, hch, hval, hix, hlen, hfp⟩ := opsK_out ops.toList 0 st [] _ (fun j => by simp) h
  rw [List.append_nil] at h
  have hN : ∀ k, names st k → PD st.nx (fun _ => False) k := fun k hk => .inl hk
  have hpair : rs.Pairwise fun x y => x.1 < y.1 := by
    have : (rs.map (·.1)).Pairwise (· < ·) := by rw [hix]; exact List.pairwise_lt_range'
    exact (List.pairwise_map.1 this)
  have hlt : ∀ x, x ∈ rs → x.1 < ops.size := by
    intro x hx
    have : x.1 ∈ rs.map (·.1) := List.mem_map.2 ⟨x, hx, rfl⟩
    rw [hix, List.mem_range'] at this
    obtain ⟨i, hi, he⟩ := this
    simp at hi; omega
  have hall : ∀ j, j < ops.size → ∃ x, x ∈ rs ∧ x.1 = j := by
    intro j hj
    have : j ∈ rs.map (·.1) := by rw [hix, List.mem_range']; exact ⟨j, by simpa using hj, by omega⟩
    obtain ⟨x, hx, he⟩ := List.mem_map.1 this
    exact ⟨x, hx, he⟩
  have fin : ∀ st2 : AS, st2.ss = st'.ss → st2.nx = st.nx + ops.toList.length → K st2 → ∀ α' a' w', Sim C.G X0 F w0 n (PD st.nx fun j => False ∨ ∃ x, x ∈ rs ∧ x.1 = j) α' st'.ss a' w' → Q .normal a' w' := by
    intro st2 h1 h2 hk α' a' w' hS
    refine hq st2 α' a' w' hk ?_
    rw [h1]
    refine hS.mono ?_
    rintro k (hk | ⟨j, hj | ⟨x, hx, hxj⟩, hf⟩)
    · simp only [names, h2]; omega
    · exact hj.elim
    · have := hlt x hx
      simp only [names, h2, fam, Array.length_toList] at *; omega
  cases draw with
  | false =>
    refine wp_region ?_
    have h := bumpK_out h
    rw [hnx] at h
    have := seq_sound (Q := Q) rs st.ss (fun _ => False) α a w hval hch hpair (fun _ _ h => h) (hs.mono hN) (fin ⟨st'.env, st'.own, st.nx + ops.toList.length⟩ rfl rfl h)
    rw [hix] at this
    simpa [List.range_eq_range'] using this
  | true =>
    obtain ⟨hd, h⟩ := h
    replace h := bumpK_out h
    rw [hnx] at h
    replace hd := hd.out
    simp only [Bool.and_eq_true] at hd
    obtain ⟨⟨hm, hsep⟩, hback⟩ := hd
    refine wp_region_any hm ?_
    have hsd : Sim C.G X0 F w0 n (PD st.nx fun _ => False) α st.ss a { w with drawn := w.drawn + 1 } := by
      have := hs.mono hN
      exact ⟨this.size, this.defers, fun t av ht => RdA.mono (w := w) (w' := { w with drawn := w.drawn + 1 }) (p := fun _ => True) (X := XX α st.ss.own X0) (X' := XX α st.ss.own X0) (α := α) (α' := α) (fun b o (hb : w.heap[b]? = some o) hn => ⟨hb, hn⟩) (fun _ _ => rfl) (this.env t av ht) ((this.ok t av ht).mono fun _ _ => trivial), this.ok,
        fun k e hk => Own.mono (w := w) (w' := { w with drawn := w.drawn + 1 }) (p := fun _ => True) (X := XX α st.ss.own X0) (X' := XX α st.ss.own X0) (α := α) (α' := α) (fun b o (hb : w.heap[b]? = some o) hn => ⟨hb, hn⟩) (fun _ _ => rfl) trivial (fun x hx => ((this.oko k e hk).2 x hx).mono fun _ _ => trivial) (fun _ => rfl) (this.own k e hk), this.oko, this.inj, this.mine, this.x0, this.fr, this.grow, this.os, this.tape, this.output, this.gl⟩
    refine any_sound (S' := st'.ss) (N := st.nx) (fun j o hj => by have := backB_get hback j o (by simpa using hj); simpa using this) ops.size rs _ st.ss (fun _ => False) α a _ ?_ (by simp) ?_ hlt hval hch (apart_of hlen hfp hpair hsep) (fun _ _ h => h) hsd (fin ⟨st'.env, st'.own, st.nx + ops.toList.length⟩ rfl rfl h)
    · have : rs.length = ops.size := by have := congrArg List.length hix; simpa using this
      omega
    · intro j hj
      simp only [Array.getD_eq_getD_getElem?, Array.getElem?_replicate, hj, if_true, Option.getD_some, true_iff]
      exact hall j hj


/-! ### What one view says of another -/

def rho (l : List (Nat × Nat)) (k : Nat) : Nat := match look l k with | some j => j | none => k

/-- What is left to the prover. -/
def Hold (p : Prop) : Prop := p
theorem hold {p : Prop} (h : p) : Hold p := h
theorem Hold.out {p : Prop} (h : Hold p) : p := h
theorem blt_lt {m n : Nat} (h : Nat.blt m n = true) : m < n := by simp [Nat.blt] at h; omega

def celLe (ρ : List (Nat × Nat)) (N : Nat) (a b : AV) : Prop :=
  match b with
  | .any => True
  | .d y => match a with | .d x => Hold (x = y) | _ => False
  | .op k i j => match a with | .op k' i' j' => k' = rho ρ k ∧ i' = i ∧ j' = j ∧ Nat.blt (k / 16) N = true | _ => False
  | .os k => match a with | .os k' => k' = rho ρ k ∧ Nat.blt (k / 16) N = true | _ => False
  | .nl s => match a with | .nl s' => s' = s | _ => False
  | .pp y j => match a with | .pp x i => Hold (x = y) ∧ i = j | _ => False
  | .gp g => match a with | .gp g' => g' = g | _ => False
  | _ => False

def celsLe (ρ : List (Nat × Nat)) (N : Nat) : List AV → List AV → Prop
  | [], [] => True
  | a :: l, b :: m => celLe ρ N a b ∧ celsLe ρ N l m
  | _, _ => False

def avLe (ρ : List (Nat × Nat)) (N : Nat) (a b : AV) : Prop :=
  match b with
  | .agg m => match a with | .agg l => celsLe ρ N l m | _ => False
  | .tup m => match a with | .tup l => celsLe ρ N l m | _ => False
  | b => celLe ρ N a b

def envLe (ρ : List (Nat × Nat)) (N : Nat) (env : List (Nat × AV)) : List (Nat × AV) → Prop
  | [] => True
  | (t, b) :: r => lookK env t (fun a => avLe ρ N a b) ∧ envLe ρ N env r

def entLe (ρ : List (Nat × Nat)) (N : Nat) (e e' : Ent) : Prop :=
  match e, e' with
  | .box l, .box m => celsLe ρ N l m ∧ m.all AV.one = true
  | .arr s xs, .arr s' ys => s = s' ∧ Hold (xs = ys)
  | .buf s xs, .buf s' ys => s = s' ∧ Hold (xs = ys)
  | _, _ => False

def ownLe (ρ : List (Nat × Nat)) (N : Nat) (st : AS) : List (Nat × Option Ent) → Prop
  | [] => True
  | (k, some e') :: r => (Nat.blt (k / 16) N = true ∧ ownK st (rho ρ k) fun e => entLe ρ N e e') ∧ ownLe ρ N st r
  | (_, none) :: _ => False

def injN (ρ : List (Nat × Nat)) : List (Nat × Option Ent) → Bool
  | [] => true
  | (k, _) :: r => (r.all fun x => !Nat.beq (rho ρ k) (rho ρ x.1)) && injN ρ r

/-- The view st says at least what st' says, its names turned by ρ. -/
def LeK (ρ : List (Nat × Nat)) (st st' : AS) : Prop := envLe ρ st'.nx st.env st'.env ∧ ownLe ρ st'.nx st st'.own ∧ injN ρ st'.own = true

theorem celLe_read {ρ : List (Nat × Nat)} {N : Nat} {w : World} {α : Nat → Loc} {X X' : Nat → Prop} (hX : ∀ b, X' b → X b) {a b : AV} {v : Value} (h : celLe ρ N a b) (hr : RdA w α X a v) :
    RdA w (fun k => α (rho ρ k)) X' b v ∧ b.ok (fun k => k / 16 < N) := by
  have hm : ∀ {x : D} {u : Value}, Rd w X x u → Rd w X' x u := fun h => h.mono fun b o hb hn => ⟨hb, fun h => hn (hX b h)⟩
  unfold celLe at h
  split at h
  · exact ⟨.any v, .any⟩
  · split at h
    · have h := h.out; subst h; exact ⟨.d _ _ (hm hr.dinv), .d _⟩
    · cases h
  · split at h
    · obtain ⟨rfl, rfl, rfl, hk⟩ := h
      cases hr
      exact ⟨.op _ _ _, .op _ _ _ (blt_lt hk)⟩
    · cases h
  · split at h
    · obtain ⟨rfl, hk⟩ := h
      cases hr with
      | os _ ho => exact ⟨RdA.os (α := fun k => α (rho ρ k)) _ ho, .os _ (blt_lt hk)⟩
    · cases h
  · split at h
    · subst h; cases hr; exact ⟨.nl _, .nl _⟩
    · cases h
  · split at h
    · obtain ⟨h0, rfl⟩ := h
      have h0 := h0.out; subst h0
      cases hr with
      | pp _ _ blk off arr T fz f hh hx h1 h2 => exact ⟨.pp _ _ blk off arr T fz f hh (fun h => hx (hX _ h)) h1 fun j c hc => hm (h2 j c hc), .pp _ _⟩
    · cases h
  · split at h
    · subst h; cases hr; exact ⟨.gp _, .gp _⟩
    · cases h
  · cases h

theorem celsLe_get {ρ : List (Nat × Nat)} {N : Nat} : ∀ {l m : List AV}, celsLe ρ N l m → l.length = m.length ∧ ∀ (j : Nat) (a b : AV), l[j]? = some a → m[j]? = some b → celLe ρ N a b
  | [], [], _ => ⟨rfl, fun j a b h => by simp at h⟩
  | a :: l, b :: m, h => by
    obtain ⟨h1, h2⟩ := celsLe_get h.2
    refine ⟨by simp [h1], fun j x y hx hy => ?_⟩
    cases j with
    | zero => simp at hx hy; subst hx hy; exact h.1
    | succ j => exact h2 j x y (by simpa using hx) (by simpa using hy)
  | [], _ :: _, h => h.elim
  | _ :: _, [], h => h.elim

theorem avLe_read {ρ : List (Nat × Nat)} {N : Nat} {w : World} {α : Nat → Loc} {X X' : Nat → Prop} (hX : ∀ b, X' b → X b) {a b : AV} {v : Value} (h : avLe ρ N a b) (hr : RdA w α X a v) :
    RdA w (fun k => α (rho ρ k)) X' b v ∧ b.ok (fun k => k / 16 < N) := by
  have go : ∀ {l m : List AV} {vs : Array Value}, celsLe ρ N l m → l.length = vs.size → (∀ (j : Nat) (c : AV) (v : Value), l[j]? = some c → vs[j]? = some v → RdA w α X c v) →
      m.length = vs.size ∧ (∀ (j : Nat) (c : AV) (v : Value), m[j]? = some c → vs[j]? = some v → RdA w (fun k => α (rho ρ k)) X' c v) ∧ ∀ c, c ∈ m → c.ok (fun k => k / 16 < N) := by
    intro l m vs h hl hc
    obtain ⟨h1, h2⟩ := celsLe_get h
    have hg : ∀ (j : Nat) (c : AV), m[j]? = some c → ∃ a u, l[j]? = some a ∧ vs[j]? = some u := by
      intro j c hj
      have : j < m.length := (List.getElem?_eq_some_iff.1 hj).1
      exact ⟨l[j]'(by omega), vs[j]'(by omega), by simp [show j < l.length by omega], by simp [show j < vs.size by omega]⟩
    refine ⟨by omega, fun j c u hj hu => ?_, fun c hc' => ?_⟩
    · obtain ⟨a, u', ha, _⟩ := hg j c hj
      exact (celLe_read hX (h2 j a c ha hj) (hc j a u ha hu)).1
    · obtain ⟨j, hj⟩ := List.mem_iff_getElem?.1 hc'
      obtain ⟨a, u', ha, hu⟩ := hg j c hj
      exact (celLe_read hX (h2 j a c ha hj) (hc j a u' ha hu)).2
  unfold avLe at h
  split at h
  · split at h
    · cases hr with
      | agg _ vs hl hc => obtain ⟨h1, h2, h3⟩ := go h hl hc; exact ⟨.agg _ vs h1 h2, .agg _ h3⟩
    · cases h
  · split at h
    · cases hr with
      | tup _ vs hl hc => obtain ⟨h1, h2, h3⟩ := go h hl hc; exact ⟨.tup _ vs h1 h2, .tup _ h3⟩
    · cases h
  · exact celLe_read hX h hr

theorem envLe_get {ρ : List (Nat × Nat)} {N : Nat} {env : List (Nat × AV)} : ∀ {l : List (Nat × AV)}, envLe ρ N env l → ∀ t b, look l t = some b → ∃ a, look env t = some a ∧ avLe ρ N a b
  | [], _, t, b, h => by simp [look] at h
  | (y, c) :: r, h, t, b, hl => by
    simp only [look] at hl
    split at hl
    · rename_i hb
      cases hl
      have := Nat.eq_of_beq_eq_true hb; subst this
      exact lookK_out h.1
    · exact envLe_get h.2 t b hl

theorem ownLe_get {ρ : List (Nat × Nat)} {N : Nat} {st : AS} : ∀ {l : List (Nat × Option Ent)}, ownLe ρ N st l → ∀ k oe, look l k = some oe → ∃ e' e, oe = some e' ∧ k / 16 < N ∧ st.ss.own (rho ρ k) = some e ∧ entLe ρ N e e'
  | [], _, k, oe, h => by simp [look] at h
  | (y, some e') :: r, h, k, oe, hl => by
    simp only [look] at hl
    split at hl
    · rename_i hb
      cases hl
      have := Nat.eq_of_beq_eq_true hb; subst this
      obtain ⟨e, h1, h2⟩ := ownK_out h.1.2
      exact ⟨e', e, rfl, blt_lt h.1.1, h1, h2⟩
    · exact ownLe_get h.2 k oe hl
  | (_, none) :: _, h, _, _, _ => h.elim

theorem injN_get {ρ : List (Nat × Nat)} : ∀ {l : List (Nat × Option Ent)}, injN ρ l = true → ∀ k k' oe oe', look l k = some oe → look l k' = some oe' → rho ρ k = rho ρ k' → k = k'
  | [], _, k, _, _, _, h, _, _ => by simp [look] at h
  | (y, e) :: r, h, k, k', oe, oe', h1, h2, he => by
    simp only [injN, Bool.and_eq_true] at h
    have hall := List.all_eq_true.1 h.1
    have no : ∀ j o, look r j = some o → rho ρ y ≠ rho ρ j := by
      intro j o hj hr
      have := hall _ (look_mem hj)
      simp [hr] at this
    simp only [look] at h1 h2
    cases hb : Nat.beq k y <;> cases hb' : Nat.beq k' y <;> simp only [hb, hb'] at h1 h2
    · exact injN_get h.2 k k' oe oe' h1 h2 he
    · rw [Nat.eq_of_beq_eq_true hb'] at he; exact absurd he.symm (no _ _ h1)
    · rw [Nat.eq_of_beq_eq_true hb] at he; exact absurd he (no _ _ h2)
    · rw [Nat.eq_of_beq_eq_true hb, Nat.eq_of_beq_eq_true hb']

theorem entLe_kind {ρ : List (Nat × Nat)} {N : Nat} {e e' : Ent} (h : entLe ρ N e e') : e.sz = e'.sz ∧ e.len = e'.len := by
  unfold entLe at h
  split at h
  · exact ⟨(celsLe_get h.1).1, rfl⟩
  · obtain ⟨rfl, rfl⟩ := h; exact ⟨rfl, rfl⟩
  · obtain ⟨rfl, rfl⟩ := h; exact ⟨rfl, rfl⟩
  · cases h

theorem entLe_cases {ρ : List (Nat × Nat)} {N : Nat} {e e' : Ent} (h : entLe ρ N e e') : (∃ l m, e = .box l ∧ e' = .box m ∧ celsLe ρ N l m ∧ m.all AV.one = true) ∨ (e = e' ∧ e'.vars = [] ∧ ∀ cs, e' ≠ .box cs) := by
  unfold entLe at h
  split at h
  · exact .inl ⟨_, _, rfl, rfl, h⟩
  · obtain ⟨rfl, rfl⟩ := h; exact .inr ⟨rfl, rfl, fun cs h => by cases h⟩
  · obtain ⟨rfl, rfl⟩ := h; exact .inr ⟨rfl, rfl, fun cs h => by cases h⟩
  · cases h

theorem LeK.sim {ρ : List (Nat × Nat)} {st st' : AS} (h : LeK ρ st st') {G : List Gl} {X0 F : Nat → Prop} {w0 : World} {n : Nat} {α : Nat → Loc} {a : Act} {w : World} (hs : Sim G X0 F w0 n (names st) α st.ss a w) :
    ∃ α', Sim G X0 F w0 n (names st') α' st'.ss a w := by
  obtain ⟨h1, h2, h3⟩ := h
  have hown : ∀ k e', st'.ss.own k = some e' → ∃ e, k / 16 < st'.nx ∧ st.ss.own (rho ρ k) = some e ∧ entLe ρ st'.nx e e' ∧ look st'.own k = some (some e') := by
    intro k e' hk
    simp only [AS.ss] at hk
    cases hl : look st'.own k with
    | none => simp [hl] at hk
    | some oe =>
      simp only [hl] at hk
      subst hk
      obtain ⟨e1, e, h4, h5, h6, h7⟩ := ownLe_get h2 k _ hl
      cases h4
      exact ⟨e, h5, h6, h7, rfl⟩
  have hX : ∀ b, XX (fun k => α (rho ρ k)) st'.ss.own X0 b → XX α st.ss.own X0 b := by
    rintro b (⟨k, e', hk, hnil, rfl⟩ | hx)
    · obtain ⟨e, _, h5, _⟩ := hown k e' hk
      exact .inl ⟨_, e, h5, hnil, rfl⟩
    · exact .inr hx
  refine ⟨fun k => α (rho ρ k), hs.size, hs.defers, fun t b ht => ?_, fun t b ht => ?_, fun k e' hk => ?_, fun k e' hk => ?_, fun k e k' e' hk hk' hn hn' hb => ?_, fun k e' hk hn => ?_, hs.x0, hs.fr, hs.grow, hs.os, hs.tape, hs.output, hs.gl⟩
  · obtain ⟨a, ha, hl⟩ := envLe_get h1 t b ht
    exact (avLe_read hX hl (hs.env t a ha)).1
  · obtain ⟨a, ha, hl⟩ := envLe_get h1 t b ht
    exact (avLe_read (X' := XX (fun k => α (rho ρ k)) st'.ss.own X0) hX hl (hs.env t a ha)).2
  · obtain ⟨e, _, h5, h6, _⟩ := hown k e' hk
    have ho := hs.own _ e h5
    obtain ⟨hsz, hlen⟩ := entLe_kind h6
    have hm : ∀ {x : D} {u : Value}, Rd w (XX α st.ss.own X0) x u → Rd w (XX (fun k => α (rho ρ k)) st'.ss.own X0) x u := fun h => h.mono fun b o hb hn => ⟨hb, fun h => hn (hX b h)⟩
    rcases entLe_cases h6 with ⟨l, m', rfl, rfl, hc1, hc2⟩ | ⟨rfl, _, hnb⟩
    · rcases ho with ⟨_, ⟨sz, he⟩, _⟩ | ⟨hnil, arr, T, fz, cap, hB⟩
      · cases he
      refine .inr ⟨hnil, arr, T, fz, cap, hB.heap, by rw [← hsz]; exact hB.hsz, by rw [← hlen]; exact hB.len, by rw [← hsz]; exact hB.bnd, by rw [← hsz]; exact hB.nf, List.all_eq_true.1 hc2, fun j m c hc => ?_, (fun sz xs he => by cases he), hB.hone⟩
      rw [← hsz]
      obtain ⟨hl1, hl2⟩ := celsLe_get hc1
      simp only [Ent.cell] at hc
      split at hc
      · rename_i hj
        subst hj
        have hlt : m < l.length := by rw [hl1]; exact (List.getElem?_eq_some_iff.1 hc).1
        obtain ⟨u, h7, h8⟩ := hB.rd 0 m l[m] (by simp [Ent.cell, hlt])
        exact ⟨u, h7, (celLe_read hX (hl2 m _ c (by simp [hlt]) hc) h8).1⟩
      · cases hc
    · rcases ho with ⟨hnil, ⟨sz, he⟩, hv⟩ | ⟨hnil, arr, T, fz, cap, hB⟩
      · exact .inl ⟨hnil, ⟨sz, he⟩, hv⟩
      · refine .inr ⟨hnil, arr, T, fz, cap, hB.heap, hB.hsz, hB.len, hB.bnd, hB.nf, hB.wid, fun j m c hc => ?_, hB.hv, hB.hone⟩
        obtain ⟨u, h7, h8⟩ := hB.rd j m c hc
        refine ⟨u, h7, ?_⟩
        cases e with
        | box cs => exact absurd rfl (hnb cs)
        | arr s xs =>
          simp only [Ent.cell, Option.bind_eq_some_iff, Option.map_eq_some_iff] at hc
          obtain ⟨x, _, y, _, rfl⟩ := hc
          exact .d _ _ (hm h8.dinv)
        | buf s xs =>
          simp only [Ent.cell, Option.bind_eq_some_iff, Option.map_eq_some_iff] at hc
          obtain ⟨x, _, y, _, rfl⟩ := hc
          exact .d _ _ (hm h8.dinv)
  · obtain ⟨e, h4, h5, h6, _⟩ := hown k e' hk
    refine ⟨h4, fun x hx => ?_⟩
    rcases entLe_cases h6 with ⟨l, m', rfl, rfl, hc1, hc2⟩ | ⟨rfl, hv, _⟩
    · obtain ⟨hl1, hl2⟩ := celsLe_get hc1
      obtain ⟨m, hm⟩ := List.mem_iff_getElem?.1 (show x ∈ m' from hx)
      have hlt : m < l.length := by rw [hl1]; exact (List.getElem?_eq_some_iff.1 hm).1
      rcases hs.own _ _ h5 with ⟨_, ⟨sz, he⟩, _⟩ | ⟨_, arr, T, fz, cap, hB⟩
      · cases he
      · obtain ⟨u, _, h8⟩ := hB.rd 0 m l[m] (by simp [Ent.cell, hlt])
        exact (celLe_read hX (hl2 m _ x (by simp [hlt]) hm) h8).2
    · rw [hv] at hx; cases hx
  · obtain ⟨e1, _, h5, _, h6⟩ := hown k e hk
    obtain ⟨e2, _, h7, _, h8⟩ := hown k' e' hk'
    exact injN_get h3 k k' _ _ h6 h8 (hs.inj _ _ _ _ h5 h7 hn hn' hb)
  · obtain ⟨e, _, h5, _⟩ := hown k e' hk
    exact hs.mine _ e h5 hn

end Go.Eng
