/-
  Bodies: sequences, tests, blocks, loops; what one view says of another; functions and their contracts.
-/
import Derived.Test.YtpogmmcfkdofhaaDoorEngQ
namespace Go.Eng
open Go.RowKit (Below)

def conflB (ops : Array Oper) (x y : Fp) : Bool :=
  meetN x.o.dst.toList (y.o.looksAt ops) || meetN x.o.dst.toList y.o.dst.toList || meetN y.o.dst.toList (x.o.looksAt ops) || meetN x.wr (y.rd ++ y.wr) || meetN y.wr x.rd

def edgeB (x y : Fp) : Bool := y.o.after.toList.any fun e => Nat.beq e.on x.i && Region.binds .any e

/-- fps: the latest first. -/
def sepB (ops : Array Oper) : List Fp → Bool
  | [] => true
  | y :: r => (r.all fun x => !conflB ops x y || edgeB x y) && sepB ops r

def backB (l : List Oper) (i : Nat) : Bool :=
  match l with | [] => true | o :: r => (o.after.toList.all fun e => !Region.binds .any e || Nat.blt e.on i) && backB r (i + 1)

theorem backB_get {l : List Oper} {i : Nat} (h : backB l i = true) : ∀ j o, l[j]? = some o → ∀ e ∈ o.after, Region.binds .any e = true → e.on < i + j := by
  induction l generalizing i with
  | nil => intro j o hj; simp at hj
  | cons x r ih =>
    intro j o hj e he hb
    simp only [backB, Bool.and_eq_true] at h
    cases j with
    | zero =>
      simp at hj; subst hj
      have := List.all_eq_true.1 h.1 e (by simpa using he)
      simp [hb, Nat.blt] at this
      omega
    | succ j =>
      have := ih h.2 j o (by simpa using hj) e he hb
      omega

/-- A region that draws its order: what it touches is ordered. -/
structure DrawOk (C : Ctx) (ops : Array Oper) (fps : List Fp) : Prop where
  out : (C.P.follows .mixedOrders && sepB ops fps && backB ops.toList 0) = true
theorem draw_ok {C : Ctx} {ops : Array Oper} {fps : List Fp} (h : (C.P.follows .mixedOrders && sepB ops fps && backB ops.toList 0) = true) : DrawOk C ops fps := ⟨h⟩

noncomputable def regK (C : Ctx) (n : Nat) (ops : Array Oper) (draw : Bool) (st : AS) (K : AS → Prop) : Prop :=
  opsK C n ops.toList ops.toList 0 st [] fun st' fps => match draw with
    | true => DrawOk C ops fps ∧ bumpK st' ops.toList.length K
    | false => bumpK st' ops.toList.length K

theorem apart_of {ops : Array Oper} {fs : List Fp} {rs : List (Nat × Rec)} (hlen : fs.length = rs.length) (h : ∀ (j : Nat) (f : Fp) (x : Nat × Rec), fs[j]? = some f → rs[j]? = some x → f.i = x.1 ∧ FpOf ops f x.2)
    (hp : rs.Pairwise fun x y => x.1 < y.1) (hs : sepB ops fs.reverse = true) : rs.Pairwise (Apart ops) := by
  have key : ∀ (l : List Fp), sepB ops l = true → l.Pairwise fun y x => conflB ops x y = true → edgeB x y = true := by
    intro l
    induction l with
    | nil => intro _; exact List.Pairwise.nil
    | cons y r ih =>
      intro h
      simp only [sepB, Bool.and_eq_true] at h
      refine List.pairwise_cons.2 ⟨fun x hx hc => ?_, ih h.2⟩
      have := List.all_eq_true.1 h.1 x hx
      simpa [hc] using this
  have hpw := List.pairwise_reverse.1 (key _ hs)
  rw [List.pairwise_iff_getElem] at hpw hp ⊢
  intro i j hi hj hij
  have hi' : i < fs.length := by omega
  have hj' : j < fs.length := by omega
  have h1 := h i fs[i] rs[i] (by simp) (by simp)
  have h2 := h j fs[j] rs[j] (by simp) (by simp)
  have h3 := hpw i j hi' hj' hij
  refine ⟨hp i j hi hj hij, ?_⟩
  obtain ⟨e1, a1, b1, c1, d1⟩ := h1
  obtain ⟨e2, a2, b2, c2, d2⟩ := h2
  have hd1 : dstOf ops rs[i].1 = fs[i].o.dst := by rw [← e1]; simp [dstOf, a1]
  have hd2 : dstOf ops rs[j].1 = fs[j].o.dst := by rw [← e2]; simp [dstOf, a2]
  cases hc : conflB ops fs[i] fs[j] with
  | true =>
    have he := h3 hc
    unfold edgeB at he
    obtain ⟨e, he1, he2⟩ := List.any_eq_true.1 he
    simp only [Bool.and_eq_true] at he2
    refine .inr ⟨fs[j].o, by rw [← e2]; exact a2, e, by simpa using he1, he2.2, by rw [Nat.eq_of_beq_eq_true he2.1]; exact e1⟩
  | false =>
    refine .inl ?_
    rw [hd1, hd2]
    simp only [conflB, Bool.or_eq_false_iff] at hc
    obtain ⟨⟨⟨⟨q1, q2⟩, q3⟩, q4⟩, q5⟩ := hc
    have no : ∀ {l m : List Nat} {x : Nat}, meetN l m = false → x ∈ l → x ∉ m := by
      intro l m x h hx hm
      have := meetN_iff.2 ⟨x, hx, hm⟩
      rw [h] at this; cases this
    refine ⟨fun d hd => ⟨fun av hm => no q1 (by rw [hd]; simp) (b2 d av hm), fun hd' => no q2 (x := d) (by rw [hd]; simp) (by rw [hd']; simp)⟩, fun d hd av hm => no q3 (by rw [hd]; simp) (b1 d av hm), fun k hk => ⟨fun e he => ?_, ?_⟩, fun k hk e he => ?_⟩
    · exact no q4 (d1 k hk) (List.mem_append_left _ (c2 k e he))
    · cases hl : look rs[j].2.upd k with
      | none => rfl
      | some oe => exact absurd (List.mem_append_right _ (d2 k (by rw [hl]; rfl))) (no q4 (d1 k hk))
    · exact no q5 (d2 k hk) (c1 k e he)

theorem regK_sound {C : Ctx} {n id : Nat} {ops : Array Oper} {draw : Bool} {st : AS} {K : AS → Prop} {X0 : Nat → Prop} {F : Fr} {w0 : World} {α : Nat → Loc} {a : Act} {w : World} {Q : Exit → Act → World → Prop}
    (hs : Sim C.G X0 F w0 n (names st) α st.ss a w) (h : regK C n ops draw st K) (hq : ∀ st' α' a' w', K st' → Sim C.G X0 F w0 n (names st') α' st'.ss a' w' → Q .normal a' w') :
    (Code.region id ops draw).wp C.P Q a w := by
  unfold regK at h
  obtain ⟨st', fs, rs, h, hnx, hch, hval, hix, hlen, hfp⟩ := opsK_out ops.toList 0 st [] _ (fun j => by simp) h
  rw [List.append_nil] at h
  have hN : ∀ k, names st k → PD st.nx (fun _ => False) k := fun k hk => .inl hk
  have hpair : rs.Pairwise fun x y => x.1 < y.1 := by
    have : (rs.map (·.1)).Pairwise (· < ·) := by rw [hix]; exact List.pairwise_lt_range'
    exact (List.pairwise_map.1 this)
  have hlt : ∀ x, x ∈ rs → x.1 < ops.size := by
    intro x hx
    have : x.1 ∈ rs.map (·.1) := List.mem_map.2 ⟨x, hx, rfl⟩
    rw [hix, List.mem_range'] at this
    obtain ⟨i, hi, he⟩ := this
    simp at hi; omega
  have hall : ∀ j, j < ops.size → ∃ x, x ∈ rs ∧ x.1 = j := by
    intro j hj
    have : j ∈ rs.map (·.1) := by rw [hix, List.mem_range']; exact ⟨j, by simpa using hj, by omega⟩
    obtain ⟨x, hx, he⟩ := List.mem_map.1 this
    exact ⟨x, hx, he⟩
  have fin : ∀ st2 : AS, st2.ss = st'.ss → st2.nx = st.nx + ops.toList.length → K st2 → ∀ α' a' w', Sim C.G X0 F w0 n (PD st.nx fun j => False ∨ ∃ x, x ∈ rs ∧ x.1 = j) α' st'.ss a' w' → Q .normal a' w' := by
    intro st2 h1 h2 hk α' a' w' hS
    refine hq st2 α' a' w' hk ?_
    rw [h1]
    refine hS.mono ?_
    rintro k (hk | ⟨j, hj | ⟨x, hx, hxj⟩, hf⟩)
    · simp only [names, h2]; omega
    · exact hj.elim
    · have := hlt x hx
      simp only [names, h2, fam, Array.length_toList] at *; omega
  cases draw with
  | false =>
    refine wp_region ?_
    have h := bumpK_out h
    rw [hnx] at h
    have := seq_sound (Q := Q) rs st.ss (fun _ => False) α a w hval hch hpair (fun _ _ h => h) (hs.mono hN) (fin ⟨st'.env, st'.own, st.nx + ops.toList.length⟩ rfl rfl h)
    rw [hix] at this
    simpa [List.range_eq_range'] using this
  | true =>
    obtain ⟨hd, h⟩ := h
    replace h := bumpK_out h
    rw [hnx] at h
    replace hd := hd.out
    simp only [Bool.and_eq_true] at hd
    obtain ⟨⟨hm, hsep⟩, hback⟩ := hd
    refine wp_region_any hm ?_
    have hsd : Sim C.G X0 F w0 n (PD st.nx fun _ => False) α st.ss a { w with drawn := w.drawn + 1 } := by
      have := hs.mono hN
      exact ⟨this.size, this.defers, fun t av ht => RdA.mono (w := w) (w' := { w with drawn := w.drawn + 1 }) (p := fun _ => True) (X := XX α st.ss.own X0) (X' := XX α st.ss.own X0) (α := α) (α' := α) (fun b o (hb : w.heap[b]? = some o) hn => ⟨hb, hn⟩) (fun _ _ => rfl) (this.env t av ht) ((this.ok t av ht).mono fun _ _ => trivial), this.ok,
        fun k e hk => Own.mono (w := w) (w' := { w with drawn := w.drawn + 1 }) (p := fun _ => True) (X := XX α st.ss.own X0) (X' := XX α st.ss.own X0) (α := α) (α' := α) (fun b o (hb : w.heap[b]? = some o) hn => ⟨hb, hn⟩) (fun _ _ => rfl) trivial (fun x hx => ((this.oko k e hk).2 x hx).mono fun _ _ => trivial) (fun _ => rfl) (this.own k e hk), this.oko, this.inj, this.mine, this.x0, this.fr, this.grow, this.os, this.tape, this.output, this.gl, this.fix⟩
    refine any_sound (S' := st'.ss) (N := st.nx) (fun j o hj => by have := backB_get hback j o (by simpa using hj); simpa using this) ops.size rs _ st.ss (fun _ => False) α a _ ?_ (by simp) ?_ hlt hval hch (apart_of hlen hfp hpair hsep) (fun _ _ h => h) hsd (fin ⟨st'.env, st'.own, st.nx + ops.toList.length⟩ rfl rfl h)
    · have : rs.length = ops.size := by have := congrArg List.length hix; simpa using this
      omega
    · intro j hj
      simp only [Array.getD_eq_getD_getElem?, Array.getElem?_replicate, hj, if_true, Option.getD_some, true_iff]
      exact hall j hj


end Go.Eng
