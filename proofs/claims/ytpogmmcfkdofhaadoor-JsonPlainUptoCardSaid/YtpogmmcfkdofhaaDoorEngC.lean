/-
  The reckoning of one operation over the view (opK) and that it speaks true (VOp): operands, types, numbers, strings, loads.
-/
import Derived.Test.YtpogmmcfkdofhaaDoorEngB
namespace Go.Eng

/-! ### Types -/

inductive Kd where
  | int (k : IntKind)
  | bool
  | str
  | slice (e : Nat)
  | ptr (e : Nat)
  | struct (fs : List (Nat × Nat))
  | array (n e : Nat)
  | other

structure TyI where
  size : Nat
  agg : Bool
  zero : List AV
  bytes : Nat
  kd : Kd

def kindB : IntKind → IntKind → Bool
  | .i8, .i8 | .i16, .i16 | .i32, .i32 | .i64, .i64 | .u8, .u8 | .u16, .u16 | .u32, .u32 | .u64, .u64 => true
  | _, _ => false

theorem kindB_eq {j k : IntKind} (h : kindB j k = true) : j = k := by
  cases j <;> cases k <;> first | rfl | (simp [kindB] at h)

def zm : AV → Value → Bool
  | .d (.b false), .bool false => true
  | .d (.i k n), .int k' m => kindB k k' && decide (n = m)
  | .d (.s []), .string s => Nat.beq s.data.size 0
  | .nl _, .slice none 0 0 => true
  | .d (.x (.pointer none)), .pointer none => true
  | .d (.x .nilFunc), .nilFunc => true
  | .d (.x .nilIface), .nilIface => true
  | .d (.x (.map none)), .map none => true
  | _, _ => false

theorem zm_read {w : World} {α : Nat → Loc} {X : Nat → Prop} {a : AV} {v : Value} (h : zm a v = true) : RdA w α X a v := by
  unfold zm at h
  split at h
  · exact .d _ _ (.b _)
  · simp only [Bool.and_eq_true, decide_eq_true_eq] at h
    rw [kindB_eq h.1, h.2]; exact .d _ _ (.i _ _)
  · rename_i s
    have h1 := Nat.eq_of_beq_eq_true h
    have : s = ⟨[].toArray⟩ := by
      obtain ⟨a⟩ := s
      simp only at h1
      rw [Array.eq_empty_of_size_eq_zero h1]
    rw [this]; exact .d _ _ (.s _)
  · exact .nl _
  · exact .d _ _ (.x _)
  · exact .d _ _ (.x _)
  · exact .d _ _ (.x _)
  · exact .d _ _ (.x _)
  · cases h

theorem zm_ok {p : Nat → Prop} {a : AV} {v : Value} (h : zm a v = true) : a.ok p := by
  unfold zm at h
  split at h <;> first | exact .d _ | exact .nl _ | cases h

def zl : List Value → List AV → Bool
  | [], [] => true
  | v :: vs, a :: as => zm a v && zl vs as
  | _, _ => false

def offsB (P : Program) : List (Nat × Nat) → List Field → Bool
  | [], [] => true
  | o :: os, f :: fs => Nat.beq o.1 f.offset && Nat.beq o.2 f.type && (match P.info? f.type with | some i => !Nat.beq i.size 0 | none => false) && offsB P os fs
  | _, _ => false

theorem offsB_get {P : Program} {os : List (Nat × Nat)} {fs : List Field} (h : offsB P os fs = true) (j : Nat) {o : Nat × Nat} (hj : os[j]? = some o) :
    ∃ f i, fs[j]? = some f ∧ f.offset = o.1 ∧ f.type = o.2 ∧ P.info? f.type = some i ∧ i.size ≠ 0 := by
  induction os generalizing fs j with
  | nil => simp at hj
  | cons x os ih =>
    cases fs with
    | nil => simp [offsB] at h
    | cons f fs =>
      simp only [offsB, Bool.and_eq_true] at h
      obtain ⟨⟨⟨h1, h2⟩, h3⟩, h4⟩ := h
      cases j with
      | zero =>
        simp at hj; subst hj
        split at h3
        · rename_i i hi
          refine ⟨f, i, rfl, (Nat.eq_of_beq_eq_true h1).symm, (Nat.eq_of_beq_eq_true h2).symm, hi, fun h0 => ?_⟩
          rw [h0] at h3; simp at h3
        · cases h3
      | succ j => simpa using ih h4 j (by simpa using hj)

def chkKd (P : Program) : Kd → TypeDesc → Bool
  | .int k, .int k' => kindB k k'
  | .bool, .bool => true
  | .str, .string => true
  | .slice e, .slice e' => Nat.beq e e'
  | .ptr e, .pointer e' => Nat.beq e e'
  | .struct os, .struct fs => offsB P os fs.toList
  | .array n e, .array n' e' => Nat.beq n n' && Nat.beq e e'
  | .other, _ => true
  | _, _ => false

def aggOf : TypeDesc → Bool
  | .struct _ | .array _ _ => true
  | _ => false

def boolB : Bool → Bool → Bool
  | true, true | false, false => true
  | _, _ => false

def chkTy (P : Program) (t : Nat) (ti : TyI) : Bool :=
  match P.info? t, P.underlying t with
  | some i, some u => Nat.beq i.size ti.size && Nat.beq i.bytes ti.bytes && boolB (aggOf u) ti.agg && chkKd P ti.kd u &&
      (match i.zero with | some z => zl z.cells.toList ti.zero | none => false)
  | _, _ => false

structure TyOk (P : Program) (t : Nat) (ti : TyI) : Prop where
  info : ∃ i, P.info? t = some i ∧ i.size = ti.size ∧ i.bytes = ti.bytes ∧ ∃ z, i.zero = some z ∧ zl z.cells.toList ti.zero = true
  und : ∃ u, P.underlying t = some u ∧ aggOf u = ti.agg ∧ chkKd P ti.kd u = true

theorem chkTy_ok {P : Program} {t : Nat} {ti : TyI} (h : chkTy P t ti = true) : TyOk P t ti := by
  unfold chkTy at h
  split at h
  · rename_i i u hi hu
    simp only [Bool.and_eq_true] at h
    obtain ⟨⟨⟨⟨h1, h2⟩, h3⟩, h4⟩, h5⟩ := h
    refine ⟨⟨i, hi, Nat.eq_of_beq_eq_true h1, Nat.eq_of_beq_eq_true h2, ?_⟩, u, hu, ?_, h4⟩
    · split at h5
      · rename_i z hz; exact ⟨z, hz, h5⟩
      · cases h5
    · cases ha : aggOf u <;> cases hb : ti.agg <;> rw [ha, hb] at h3 <;> first | rfl | cases h3
  · cases h

structure Ctx where
  P : Program
  tab : List (Nat × TyI)
  G : List Gl
  tabOk : (tab.all fun x => chkTy P x.1 x.2) = true

theorem Ctx.ty {C : Ctx} {t : Nat} {ti : TyI} (h : look C.tab t = some ti) : TyOk C.P t ti :=
  chkTy_ok (List.all_eq_true.1 C.tabOk (t, ti) (look_mem h))

/-! ### The view's text: lists -/

structure AS where
  env : List (Nat × AV)
  own : List (Nat × Option Ent)
  nx : Nat

def AS.ss (st : AS) : SS := ⟨look st.env, fun k => match look st.own k with | some oe => oe | none => none⟩

def lookK {β : Type} : List (Nat × β) → Nat → (β → Prop) → Prop
  | [], _, _ => False
  | (y, v) :: r, x, K => match Nat.beq x y with | true => K v | false => lookK r x K

theorem lookK_out {β : Type} {l : List (Nat × β)} {x : Nat} {K : β → Prop} (h : lookK l x K) : ∃ v, look l x = some v ∧ K v := by
  induction l with
  | nil => cases h
  | cons y l ih =>
    obtain ⟨y, v⟩ := y
    simp only [lookK] at h
    simp only [look]
    split at h
    · rename_i hb; exact ⟨v, by simp [hb], h⟩
    · rename_i hb; simpa [hb] using ih h

def ownK (st : AS) (k : Nat) (K : Ent → Prop) : Prop := lookK st.own k fun oe => match oe with | some e => K e | none => False

theorem ownK_out {st : AS} {k : Nat} {K : Ent → Prop} (h : ownK st k K) : ∃ e, st.ss.own k = some e ∧ K e := by
  obtain ⟨oe, h1, h2⟩ := lookK_out h
  cases oe with
  | none => cases h2
  | some e => exact ⟨e, by simp [AS.ss, h1], h2⟩

/-! ### Operands -/

def constK (sz : Nat) (v : Value) (K : AV → Prop) : Prop :=
  match v with
  | .bool t => K (.d (.b t))
  | .int k n => K (.d (.i k n))
  | .string s => K (.d (.s s.data.toList))
  | .slice none 0 0 => K (.nl sz)
  | v => K (.d (.x v))

def evK (st : AS) (x : Operand) (K : AV → Prop) : Prop :=
  match x with
  | .tmp t => lookK st.env t K
  | .const v => constK 1 v K
  | .global g => K (.gp g)
  | .func f => K (.fn (.func f) [] [])

/-- av is what operand x holds in the view. -/
inductive Ev (env : Nat → Option AV) : Operand → AV → Prop where
  | tmp (t : Nat) (av : AV) : env t = some av → Ev env (.tmp t) av
  | bool (t : Bool) : Ev env (.const (.bool t)) (.d (.b t))
  | int (k : IntKind) (n : Int) : Ev env (.const (.int k n)) (.d (.i k n))
  | string (s : ByteArray) : Ev env (.const (.string s)) (.d (.s s.data.toList))
  | nl (sz : Nat) : Ev env (.const (.slice none 0 0)) (.nl sz)
  | other (v : Value) : Ev env (.const v) (.d (.x v))
  | global (g : Nat) : Ev env (.global g) (.gp g)
  | func (f : FuncId) : Ev env (.func f) (.fn (.func f) [] [])

theorem constK_out {env : Nat → Option AV} {sz : Nat} {v : Value} {K : AV → Prop} (h : constK sz v K) : ∃ av, Ev env (.const v) av ∧ K av := by
  unfold constK at h
  split at h
  · exact ⟨_, .bool _, h⟩
  · exact ⟨_, .int _ _, h⟩
  · exact ⟨_, .string _, h⟩
  · exact ⟨_, .nl sz, h⟩
  · exact ⟨_, .other _, h⟩

theorem evK_out {st : AS} {x : Operand} {K : AV → Prop} (h : evK st x K) : ∃ av, Ev st.ss.env x av ∧ K av := by
  unfold evK at h
  split at h
  · obtain ⟨av, h1, h2⟩ := lookK_out h
    exact ⟨av, .tmp _ _ h1, h2⟩
  · exact constK_out h
  · exact ⟨_, .global _, h⟩
  · exact ⟨_, .func _, h⟩

def evsK (st : AS) : List Operand → (List AV → Prop) → Prop
  | [], K => K []
  | x :: xs, K => evK st x fun a => evsK st xs fun as => K (a :: as)

inductive Evs (env : Nat → Option AV) : List Operand → List AV → Prop where
  | nil : Evs env [] []
  | cons (x : Operand) (a : AV) (xs : List Operand) (as : List AV) : Ev env x a → Evs env xs as → Evs env (x :: xs) (a :: as)

theorem evsK_out {st : AS} {xs : List Operand} {K : List AV → Prop} (h : evsK st xs K) : ∃ as, Evs st.ss.env xs as ∧ K as := by
  induction xs generalizing K with
  | nil => exact ⟨[], .nil, h⟩
  | cons x xs ih =>
    obtain ⟨a, h1, h2⟩ := evK_out h
    obtain ⟨as, h3, h4⟩ := ih h2
    exact ⟨a :: as, .cons x a xs as h1 h3, h4⟩

def opTmps (o : Oper) : List Nat := o.op.operands.toList.filterMap fun | .tmp t => some t | _ => none

theorem mem_opTmps {o : Oper} {t : Nat} (h : Operand.tmp t ∈ o.op.operands) : t ∈ opTmps o := by
  unfold opTmps
  exact List.mem_filterMap.2 ⟨.tmp t, Array.mem_toList_iff.2 h, rfl⟩

theorem Ev.congr {env env' : Nat → Option AV} {x : Operand} {av : AV} (h : Ev env x av) (he : ∀ t, x = .tmp t → ∀ av, env t = some av → env' t = some av) : Ev env' x av := by
  cases h with
  | tmp t av h => exact .tmp t av (he t rfl av h)
  | bool t => exact .bool t
  | int k n => exact .int k n
  | string s => exact .string s
  | nl sz => exact .nl sz
  | other v => exact .other v
  | global g => exact .global g
  | func f => exact .func f

section
variable {G : List Gl} {X0 : Nat → Prop} {F : Fr} {w0 : World} {n : Nat} {p : Nat → Prop} {α : Nat → Loc} {S : SS} {a : Act} {w : World}

theorem Ev.read (hs : Sim G X0 F w0 n p α S a w) {x : Operand} {av : AV} (h : Ev S.env x av) : RdA w α (XX α S.own X0) av (a.eval x) := by
  cases h with
  | tmp t av h => exact hs.env t av h
  | bool t => exact .d _ _ (.b t)
  | int k n => exact .d _ _ (.i k n)
  | string s => obtain ⟨⟨l⟩⟩ := s; exact .d _ _ (.s _)
  | nl sz => exact .nl sz
  | other v => exact .d _ _ (.x v)
  | global g => exact .gp g
  | func f => exact .fn _ _ _ _ _ rfl rfl (fun j c v h => by simp at h) fun j c v h => by simp at h

theorem Ev.ok (hs : Sim G X0 F w0 n p α S a w) {x : Operand} {av : AV} (h : Ev S.env x av) : av.ok p := by
  cases h with
  | tmp t av h => exact hs.ok t av h
  | nl sz => exact .nl sz
  | global g => exact .gp g
  | func f => exact .fn _ _ _ (fun c h => by cases h) fun c h => by cases h
  | _ => exact .d _

theorem Evs.length {env : Nat → Option AV} {xs : List Operand} {as : List AV} (h : Evs env xs as) : as.length = xs.length := by
  induction h with
  | nil => rfl
  | cons x a xs as _ _ ih => simp [ih]

theorem Evs.get {env : Nat → Option AV} {xs : List Operand} {as : List AV} (h : Evs env xs as) (j : Nat) (av : AV) (hj : as[j]? = some av) : ∃ x, xs[j]? = some x ∧ Ev env x av := by
  induction h generalizing j with
  | nil => simp at hj
  | cons x a xs as h1 _ ih =>
    cases j with
    | zero => simp at hj; subst hj; exact ⟨x, rfl, h1⟩
    | succ j => simpa using ih j (by simpa using hj)

theorem Evs.congr {env env' : Nat → Option AV} {xs : List Operand} {as : List AV} (h : Evs env xs as) (he : ∀ t, Operand.tmp t ∈ xs → ∀ av, env t = some av → env' t = some av) : Evs env' xs as := by
  induction h with
  | nil => exact .nil
  | cons x a xs as h1 _ ih =>
    refine .cons _ _ _ _ (h1.congr fun t e => he t (by rw [e]; exact List.mem_cons_self)) (ih fun t ht => he t (List.mem_cons_of_mem _ ht))
end

/-! ### What it is for an operation's reckoning to speak true -/

def VOp (C : Ctx) (n : Nat) (o : Oper) (nm : Nat) (st : AS) (rd : List Nat) (out : AV) (upd : List (Nat × Option Ent)) : Prop :=
  (∀ k oe, look upd k = some oe → k ∈ rd ∨ fam nm k) ∧
  ∀ (X0 : Nat → Prop) (F : Fr) (w0 : World) (p : Nat → Prop) (α : Nat → Loc) (S : SS) (a : Act) (w : World) (Q : Exit → Act → World → Prop) (next : Act → World → Prop),
    Sim C.G X0 F w0 n p α S a w → (∀ t, Operand.tmp t ∈ o.op.operands → ∀ av, st.ss.env t = some av → S.env t = some av) → (∀ k, k ∈ rd → ∀ e, st.ss.own k = some e → S.own k = some e) →
    (∀ k, fam nm k → ¬ p k) → (∀ d, o.dst = some d → d < n) →
    (∀ α' v w', Sim C.G X0 F w0 n (fun k => p k ∨ fam nm k) α' (S.upd o.dst out upd) (a.put o.dst v) w' → next (a.put o.dst v) w') → o.wp C.P a w next Q

theorem wp_value {P : Program} {o : Oper} {a : Act} {w w' : World} {v : Value} {next : Act → World → Prop} {Q : Exit → Act → World → Prop}
    (h : (execOp a.eval o).run P w = .ok (.value v) w') (hn : next (a.put o.dst v) w') : o.wp P a w next Q := by
  unfold Oper.wp; rw [h]; exact hn

theorem wp_skip' {P : Program} {o : Oper} {a : Act} {w w' : World} {next : Act → World → Prop} {Q : Exit → Act → World → Prop}
    (h : (execOp a.eval o).run P w = .ok .skip w') (hn : next (a.put o.dst undef) w') : o.wp P a w next Q := by
  unfold Oper.wp; rw [h]; exact hn

/-- An operation that only looks. -/
theorem VOp.pure {C : Ctx} {n : Nat} {o : Oper} {nm : Nat} {st : AS} {rd : List Nat} {out : AV}
    (h : ∀ (X0 : Nat → Prop) (F : Fr) (w0 : World) (p : Nat → Prop) (α : Nat → Loc) (S : SS) (a : Act) (w : World), Sim C.G X0 F w0 n p α S a w →
      (∀ t, Operand.tmp t ∈ o.op.operands → ∀ av, st.ss.env t = some av → S.env t = some av) → (∀ k, k ∈ rd → ∀ e, st.ss.own k = some e → S.own k = some e) →
      ∃ v, (execOp a.eval o).run C.P w = .ok (.value v) w ∧ RdA w α (XX α S.own X0) out v ∧ out.ok p) : VOp C n o nm st rd out [] := by
  refine ⟨fun k oe hl => by simp [look] at hl, fun X0 F w0 p α S a w Q next hs he ho _ hd hn => ?_⟩
  obtain ⟨v, hr, h1, h2⟩ := h X0 F w0 p α S a w hs he ho
  exact wp_value hr (hn α v w ((hs.pure o.dst hd out v h1 h2).mono fun k hk => .inl hk))

end Go.Eng
