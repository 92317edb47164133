/-
  A region, a body, a function: the reckoning over the view, and that it speaks true.
-/
import Derived.Test.YtpogmmcfkdofhaaDoorEngP3
import Derived.Deep.LoopGhost
namespace Go.Eng
open Go.RowKit (Below)

def convAllK (C : Ctx) (st : AS) (nm : Nat) (S T : TypeId) (a : AV) (K : KO) : Prop :=
  lookK C.tab S fun tS => lookK C.tab T fun tT => match tS.kd, tT.kd with
    | .slice _, .str => b2sK C st S T a K
    | .str, .slice _ => s2bK C nm S T a K
    | _, _ => convK C T a fun r => K r [] []

def builtinK (C : Ctx) (st : AS) (nm : Nat) (b : Builtin) (as : List Operand) (ts : List TypeId) (K : KO) : Prop :=
  match b with
  | .len => match as, ts with
    | [x], [T] => evK st x fun a => lookK C.tab T fun ti => match isSl ti.kd a with | true => lenK st a fun m rd => K (.d (.i .i64 (m : Int))) [] rd | false => False
    | _, _ => False
  | .append => match as, ts with
    | [s, x], [T, Tx] => evTK C st T s fun a => evTK C st Tx x fun b => appendK C st nm T Tx a b K
    | _, _ => False
  | .max => evsK st as fun as => minmaxK true as fun r => K r [] []
  | .min => evsK st as fun as => minmaxK false as fun r => K r [] []
  | _ => False

def opK (C : Ctx) (o : Oper) (nm : Nat) (st : AS) (K : KO) : Prop :=
  match o.op with
  | .move x => evTK C st o.type x fun a => K a [] []
  | .assign x => evTK C st o.type x fun a => assignK nm a K
  | .pick c x y => evK st c fun vc => boolK vc fun t => BIf t (evK st x fun a => K a [] []) (evK st y fun a => K a [] [])
  | .alloc T => allocK C nm T K
  | .box T x => evTK C st T x fun a => boxK C nm T a K
  | .build T ps => buildK C st T ps.toList fun r => K r [] []
  | .buildSlice T len ps => rowK C st nm T len ps.toList K
  | .load T x => evK st x fun a => loadK C st T a fun r rd => K r [] rd
  | .store T p v => evK st p fun a => evTK C st T v fun b => storeK C st T a b K
  | .nilCheck x => evK st x fun a => nilK a fun r => K r [] []
  | .binOp op T x y _ => evK st x fun a => evK st y fun b => binK C T op a b fun r => K r [] []
  | .unOp op _ x => evK st x fun a => unK op a fun r => K r [] []
  | .convert S T x => evK st x fun a => convAllK C st nm S T a K
  | .slice T x lo hi none => evK st x fun a => ovK st lo fun l => ovK st hi fun r => sliceK C st T a l r K
  | .fieldAddr T x f => evK st x fun a => faddrK C T f a fun r => K r [] []
  | .indexAddr T x ix => evK st x fun a => evK st ix fun i => iaddrK C st T a i fun r rd => K r [] rd
  | .index T x ix => evK st x fun a => evK st ix fun i => indexK C T a i fun r => K r [] []
  | .extract x i => evK st x fun a => extrK a i fun r => K r [] []
  | .call c => match c.callee with
    | .builtin b => builtinK C st nm b c.args.toList c.argTypes.toList K
    | .value x => fnK st x fun f pre post => evsK st c.args.toList fun as => pre2 pre as post fun as => goK C st nm f as K
    | _ => False
  | .makeFunc fn first captured => evsK st first.toList fun as => evsK st captured.toList fun bs => K (.fn fn as bs) [] []
  | _ => False

theorem arr1 {β : Type} {a : Array β} {x : β} (h : a.toList = [x]) : a = #[x] := by cases a; simp at h; rw [h]
theorem arr2 {β : Type} {a : Array β} {x y : β} (h : a.toList = [x, y]) : a = #[x, y] := by cases a; simp at h; rw [h]

theorem evK_bind {st : AS} {x : Operand} {K : AV → Prop} (h : evK st x K) : ∃ av, (∀ K' : AV → Prop, K' av → evK st x K') ∧ K av := by
  unfold evK at *
  split at h
  · rename_i t
    obtain ⟨v, hv, hk⟩ := lookK_out h
    refine ⟨v, fun K' h' => ?_, hk⟩
    clear h hk
    show lookK st.env t K'
    generalize st.env = l at hv
    induction l with
    | nil => simp [look] at hv
    | cons y l ih =>
      obtain ⟨y, u⟩ := y
      simp only [look] at hv
      simp only [lookK]
      split at hv
      · rename_i hb; simp only [hb]; cases hv; exact h'
      · rename_i hb; simp only [hb]; exact ih hv
  · unfold constK at *
    split at h
    · exact ⟨_, fun K' h' => h', h⟩
    · exact ⟨_, fun K' h' => h', h⟩
    · exact ⟨_, fun K' h' => h', h⟩
    · exact ⟨_, fun K' h' => h', h⟩
    · exact ⟨_, fun K' h' => h', h⟩
  · exact ⟨_, fun K' h' => h', h⟩
  · exact ⟨_, fun K' h' => h', h⟩

section
variable {C : Ctx} {n : Nat} {o : Oper} {nm : Nat} {st : AS} {K : KO}

theorem builtin_out {c : Call} {b : Builtin} (ho : o.op = .call c) (hc : c.callee = .builtin b) (h : builtinK C st nm b c.args.toList c.argTypes.toList K) : ∃ out upd rd, K out upd rd ∧ VOp C n o nm st rd out upd := by
  unfold builtinK at h
  split at h
  · split at h
    · rename_i x T ha hT
      exact len_out ho hc (arr1 ha) (arr1 hT) h
    · cases h
  · split at h
    · rename_i s x T Tx ha hT
      exact append_out ho hc (arr2 ha) (arr2 hT) h
    · cases h
  · exact minmax_out true ho hc h
  · exact minmax_out false ho hc h
  · cases h

theorem opK_out (h : opK C o nm st K) : ∃ out upd rd, K out upd rd ∧ VOp C n o nm st rd out upd := by
  unfold opK at h
  split at h
  · rename_i x ho; exact move_out ho h
  · rename_i x ho; exact assign_out ho h
  · rename_i c x y ho; exact pick_out ho h
  · rename_i T ho; exact alloc_out ho h
  · rename_i T x ho; exact box_out ho h
  · rename_i T ps ho; exact build_out ho h
  · rename_i T len ps ho; exact row_out ho h
  · rename_i T x ho; exact load_out ho h
  · rename_i T p v ho; exact store_out ho h
  · rename_i x ho; exact nil_out ho h
  · rename_i op T x y T' ho; exact bin_out ho h
  · rename_i op T x ho; exact un_out ho h
  · rename_i S T x ho
    obtain ⟨av, hb, h⟩ := evK_bind h
    unfold convAllK at h
    replace h := lookK_out h; obtain ⟨tS, htS, h⟩ := h
    replace h := lookK_out h; obtain ⟨tT, htT, h⟩ := h
    split at h
    · exact b2s_out ho (hb _ h)
    · exact s2b_out ho (hb _ h)
    · exact conv_out ho ⟨tS, htS⟩ (hb (fun a => convK C T a fun r => K r [] []) h)
  · rename_i T x lo hi ho; exact slice_out ho h
  · rename_i T x f ho; exact faddr_out ho h
  · rename_i T x ix ho; exact iaddr_out ho h
  · rename_i T x ix ho; exact index_out ho h
  · rename_i x i ho; exact extr_out ho h
  · rename_i c ho
    split at h
    · rename_i b hc; exact builtin_out ho hc h
    · rename_i f hc; exact call_out ho hc h
    · cases h
  · rename_i fn first captured ho; exact mkfn_out ho h
  · cases h

end

/-! ### Regions -/

structure Fp where
  i : Nat
  o : Oper
  rd : List Nat
  wr : List Nat

def dstK (n : Nat) (d : Option Nat) (K : Prop) : Prop :=
  match d with | none => K | some d => match Nat.blt d n with | true => K | false => False

theorem dstK_out {n : Nat} {d : Option Nat} {K : Prop} (h : dstK n d K) : K ∧ ∀ x, d = some x → x < n := by
  unfold dstK at h
  split at h
  · exact ⟨h, fun x hx => by cases hx⟩
  · split at h
    · rename_i hb; exact ⟨h, fun x hx => by cases hx; have := hb; simp [Nat.blt] at this; omega⟩
    · cases h

def appK (l m : List (Nat × Option Ent)) (K : List (Nat × Option Ent) → Prop) : Prop :=
  match l with
  | [] => K m
  | x :: r => appK r m fun r => K (x :: r)
theorem appK_out {l m : List (Nat × Option Ent)} {K : List (Nat × Option Ent) → Prop} (h : appK l m K) : K (l ++ m) := by
  induction l generalizing K with
  | nil => exact h
  | cons x r ih => exact ih (K := fun r => K (x :: r)) h

def consK (st : AS) (dst : Option Nat) (out : AV) (upd : List (Nat × Option Ent)) (K : AS → Prop) : Prop :=
  match st with
  | ⟨env, own, nx⟩ => match dst, upd with
    | some d, [] => K ⟨(d, out) :: env, own, nx⟩
    | some d, [x] => K ⟨(d, out) :: env, x :: own, nx⟩
    | some d, [x, y] => K ⟨(d, out) :: env, x :: y :: own, nx⟩
    | some d, l => appK l own fun own => K ⟨(d, out) :: env, own, nx⟩
    | none, [x] => K ⟨env, x :: own, nx⟩
    | none, l => appK l own fun own => K ⟨env, own, nx⟩

/-- The region's end: its operations' names are spent. -/
def bumpK (st : AS) (n : Nat) (K : AS → Prop) : Prop :=
  match st with
  | ⟨env, own, nx⟩ => match nx + n with
    | 0 => K ⟨env, own, 0⟩
    | m + 1 => K ⟨env, own, m + 1⟩

theorem bumpK_out {st : AS} {n : Nat} {K : AS → Prop} (h : bumpK st n K) : K ⟨st.env, st.own, st.nx + n⟩ := by
  obtain ⟨env, own, nx⟩ := st
  simp only [bumpK] at h
  split at h
  · rename_i h0; simp only [h0]; exact h
  · rename_i h0; simp only [h0]; exact h

theorem consK_out {st : AS} {dst : Option Nat} {out : AV} {upd : List (Nat × Option Ent)} {K : AS → Prop} (h : consK st dst out upd K) : ∃ st', K st' ∧ st'.ss = st.ss.upd dst out upd ∧ st'.nx = st.nx := by
  have e1 : ∀ d, (AS.mk ((d, out) :: st.env) (upd ++ st.own) st.nx).ss = st.ss.upd (some d) out upd := by
    intro d
    simp only [AS.ss, SS.upd, SS.mk.injEq]
    constructor
    · funext t
      simp only [look]
      by_cases hd : d = t
      · subst hd; simp
      · have : Nat.beq t d = false := by
          cases hb : Nat.beq t d with
          | false => rfl
          | true => exact absurd (Nat.eq_of_beq_eq_true hb).symm hd
        simp [this, hd]
    · funext k
      rw [look_append']
      cases look upd k <;> simp
  have e2 : (AS.mk st.env (upd ++ st.own) st.nx).ss = st.ss.upd none out upd := by
    simp only [AS.ss, SS.upd, SS.mk.injEq]
    constructor
    · funext t; simp
    · funext k
      rw [look_append']
      cases look upd k <;> simp
  obtain ⟨env, own, nx⟩ := st
  simp only [consK] at h
  split at h
  · exact ⟨_, h, e1 _, rfl⟩
  · exact ⟨_, h, e1 _, rfl⟩
  · exact ⟨_, h, e1 _, rfl⟩
  · exact ⟨_, appK_out h, e1 _, rfl⟩
  · exact ⟨_, h, e2, rfl⟩
  · exact ⟨_, appK_out h, e2, rfl⟩

def isUndef : Value → Bool
  | .tuple vs => Nat.beq vs.size 0
  | _ => false

theorem isUndef_eq {v : Value} (h : isUndef v = true) : v = undef := by
  unfold isUndef at h
  split at h
  · rename_i vs
    rw [Array.eq_empty_of_size_eq_zero (Nat.eq_of_beq_eq_true h)]; rfl
  · cases h

/-- Is the operation wanted? -/
def guardK (all : List Oper) (st : AS) (o : Oper) (run skip : Prop) : Prop :=
  match o.guard with
  | none => run
  | some (g, want) => nthK all g fun og => match og.dst with
    | some d => lookK st.env d fun a => match a with
      | .d (.b t) => BIf t (match want with | true => run | false => skip) (match want with | true => skip | false => run)
      | .d (.x v) => match isUndef v with | true => skip | false => False
      | _ => False
    | none => False

def nmK (n : Nat) (K : Nat → Prop) : Prop := match n with | 0 => K 0 | m + 1 => K (m + 1)
theorem nmK_out {n : Nat} {K : Nat → Prop} (h : nmK n K) : K n := by
  unfold nmK at h
  split at h <;> exact h
def atK (st : AS) (i : Nat) (K : Nat → Prop) : Prop := match st with | ⟨_, _, nx⟩ => nmK (nx + i) K
theorem atK_out {st : AS} {i : Nat} {K : Nat → Prop} (h : atK st i K) : K (st.nx + i) := nmK_out h

/-- One operation, then the rest. (By the recursors themselves: so that the kernel and the unifier meet the same terms.) -/
def opStep (C : Ctx) (n : Nat) (all : List Oper) (o : Oper) (rest : Nat → AS → List Fp → (AS → List Fp → Prop) → Prop) (i : Nat) (st : AS) (fps : List Fp) (K : AS → List Fp → Prop) : Prop :=
  guardK all st o
    (dstK n o.dst (atK st i fun nm => opK C o nm st fun out upd rd => consK st o.dst out upd fun st' => rest (i + 1) st' (⟨i, o, rd, upd.map (·.1)⟩ :: fps) K))
    (dstK n o.dst (consK st o.dst (.d (.x undef)) [] fun st' => rest (i + 1) st' (⟨i, o, [], []⟩ :: fps) K))

noncomputable def opsK (C : Ctx) (n : Nat) (all : List Oper) (l : List Oper) : Nat → AS → List Fp → (AS → List Fp → Prop) → Prop :=
  List.rec (motive := fun _ => Nat → AS → List Fp → (AS → List Fp → Prop) → Prop) (fun _ st fps K => K st fps) (fun o _ rest => opStep C n all o rest) l

theorem opsK_cons (C : Ctx) (n : Nat) (all : List Oper) (o : Oper) (r : List Oper) (i : Nat) (st : AS) (fps : List Fp) (K : AS → List Fp → Prop) :
    opsK C n all (o :: r) i st fps K = guardK all st o
      (dstK n o.dst (atK st i fun nm => opK C o nm st fun out upd rd => consK st o.dst out upd fun st' => opsK C n all r (i + 1) st' (⟨i, o, rd, upd.map (·.1)⟩ :: fps) K))
      (dstK n o.dst (consK st o.dst (.d (.x undef)) [] fun st' => opsK C n all r (i + 1) st' (⟨i, o, [], []⟩ :: fps) K)) := rfl

def insOf (ops : Array Oper) (o : Oper) (st : AS) : List (Nat × AV) := (o.looksAt ops).filterMap fun t => (look st.env t).map fun a => (t, a)

def fpOf (st : AS) (rd : List Nat) : List (Nat × Ent) := rd.filterMap fun k => (st.ss.own k).map fun e => (k, e)

theorem mem_insOf {ops : Array Oper} {o : Oper} {st : AS} {t : Nat} {av : AV} : (t, av) ∈ insOf ops o st ↔ t ∈ o.looksAt ops ∧ look st.env t = some av := by
  unfold insOf
  rw [List.mem_filterMap]
  constructor
  · rintro ⟨t', h1, h2⟩
    cases hl : look st.env t' with
    | none => simp [hl] at h2
    | some a => simp [hl] at h2; obtain ⟨rfl, rfl⟩ := h2; exact ⟨h1, hl⟩
  · rintro ⟨h1, h2⟩; exact ⟨t, h1, by simp [h2]⟩

theorem mem_fpOf {st : AS} {rd : List Nat} {k : Nat} {e : Ent} : (k, e) ∈ fpOf st rd ↔ k ∈ rd ∧ st.ss.own k = some e := by
  unfold fpOf
  rw [List.mem_filterMap]
  constructor
  · rintro ⟨t', h1, h2⟩
    cases hl : st.ss.own t' with
    | none => simp [hl] at h2
    | some a => simp [hl] at h2; obtain ⟨rfl, rfl⟩ := h2; exact ⟨h1, hl⟩
  · rintro ⟨h1, h2⟩; exact ⟨k, h1, by simp [h2]⟩

theorem looks_operand {ops : Array Oper} {o : Oper} {t : Nat} (h : Operand.tmp t ∈ o.op.operands) : t ∈ o.looksAt ops := by
  unfold Oper.looksAt
  exact List.mem_append_left _ (List.mem_filterMap.2 ⟨.tmp t, Array.mem_toList_iff.2 h, rfl⟩)

theorem looks_guard {ops : Array Oper} {o : Oper} {g : Nat} {w : Bool} {og : Oper} {d : Nat} (hg : o.guard = some (g, w)) (ho : ops[g]? = some og) (hd : og.dst = some d) : d ∈ o.looksAt ops := by
  unfold Oper.looksAt
  refine List.mem_append_right _ ?_
  simp [hg, ho, hd]

/-- What a footprint tells of a record. -/
def FpOf (ops : Array Oper) (f : Fp) (r : Rec) : Prop :=
  ops[f.i]? = some f.o ∧ (∀ t av, (t, av) ∈ r.ins → t ∈ f.o.looksAt ops) ∧ (∀ k e, (k, e) ∈ r.fp → k ∈ f.rd) ∧ ∀ k, (look r.upd k).isSome = true → k ∈ f.wr

theorem look_some_mem {β : Type} {l : List (Nat × β)} {k : Nat} (h : (look l k).isSome = true) : k ∈ l.map (·.1) := by
  cases hl : look l k with
  | none => rw [hl] at h; cases h
  | some v => exact List.mem_map.2 ⟨(k, v), look_mem hl, rfl⟩

theorem valid_run {C : Ctx} {ops : Array Oper} {n i : Nat} {o : Oper} {st : AS} {rd : List Nat} {out : AV} {upd : List (Nat × Option Ent)} (hi : ops[i]? = some o) (hd : ∀ x, o.dst = some x → x < n)
    (hw : ∀ {X0 F w0 p α S a w}, Sim C.G X0 F w0 n p α S a w → (∀ t av, (t, av) ∈ insOf ops o st → S.env t = some av) → Region.wanted o (yielded ops a.tmps) = true)
    (hv : VOp C n o (st.nx + i) st rd out upd) : Valid C.P C.G ops n st.nx i ⟨insOf ops o st, fpOf st rd, out, upd⟩ := by
  intro X0 F w0 p α S a w Q K hs hpre hp hK
  unfold wpOp
  simp only [hi]
  rw [if_pos (hw hs hpre.1)]
  refine .inl (hv.2 X0 F w0 p α S a w Q K hs (fun t ht av hav => hpre.1 t av (mem_insOf.2 ⟨looks_operand ht, hav⟩)) (fun k hk e he => hpre.2 k e (mem_fpOf.2 ⟨hk, he⟩)) hp hd fun α' v w' hS => ?_)
  have hdst : dstOf ops i = o.dst := by simp [dstOf, hi]
  exact hK α' _ w' (by rw [hdst]; exact hS)

theorem valid_skip {C : Ctx} {ops : Array Oper} {n i : Nat} {o : Oper} {st : AS} (hi : ops[i]? = some o) (hd : ∀ x, o.dst = some x → x < n)
    (hw : ∀ {X0 F w0 p α S a w}, Sim C.G X0 F w0 n p α S a w → (∀ t av, (t, av) ∈ insOf ops o st → S.env t = some av) → Region.wanted o (yielded ops a.tmps) = false) :
    Valid C.P C.G ops n st.nx i ⟨insOf ops o st, [], .d (.x undef), []⟩ := by
  intro X0 F w0 p α S a w Q K hs hpre hp hK
  unfold wpOp
  simp only [hi]
  rw [if_neg (by rw [hw hs hpre.1]; simp)]
  have hdst : dstOf ops i = o.dst := by simp [dstOf, hi]
  refine hK α _ w ?_
  rw [hdst]
  exact (hs.pure o.dst hd (.d (.x undef)) undef (.d _ _ (.x _)) (.d _)).mono fun k hk => .inl hk

theorem guardK_out {C : Ctx} {n : Nat} {ops : Array Oper} {st : AS} {o : Oper} {run skip : Prop} (h : guardK ops.toList st o run skip) :
    (run ∧ ∀ {X0 F w0 p α S a w}, Sim C.G X0 F w0 n p α S a w → (∀ t av, (t, av) ∈ insOf ops o st → S.env t = some av) → Region.wanted o (yielded ops a.tmps) = true) ∨
    (skip ∧ ∀ {X0 F w0 p α S a w}, Sim C.G X0 F w0 n p α S a w → (∀ t av, (t, av) ∈ insOf ops o st → S.env t = some av) → Region.wanted o (yielded ops a.tmps) = false) := by
  unfold guardK at h
  split at h
  · rename_i hg
    exact .inl ⟨h, fun _ _ => by simp [Region.wanted, hg]⟩
  · rename_i g want hg
    replace h := nthK_out h; obtain ⟨og, hog, h⟩ := h
    rw [Array.getElem?_toList] at hog
    split at h
    · rename_i d hd
      replace h := lookK_out h; obtain ⟨av, hav, h⟩ := h
      have hmem : ∀ {S : SS}, (∀ t av, (t, av) ∈ insOf ops o st → S.env t = some av) → S.env d = some av := fun hS => hS d av (mem_insOf.2 ⟨looks_guard hg hog hd, hav⟩)
      split at h
      · rename_i t
        have hy : ∀ {X0 F w0 p α S a w}, Sim C.G X0 F w0 n p α S a w → (∀ t' av, (t', av) ∈ insOf ops o st → S.env t' = some av) → Region.wanted o (yielded ops a.tmps) = (t == want) := by
          intro X0 F w0 p α S a w hs hS
          have hr := (hs.env d _ (hmem hS)).dinv.binv
          have : a.tmps[d]? = some (.bool t) := by
            rw [Array.getD_eq_getD_getElem?] at hr
            cases hx : a.tmps[d]? with
            | none => rw [hx] at hr; cases hr
            | some v => rw [hx] at hr; exact congrArg some hr
          simp [Region.wanted, hg, yielded, hog, hd, this]
        rcases h.out with ⟨rfl, h⟩ | ⟨rfl, h⟩
        · split at h
          · exact .inl ⟨h, fun hs hS => by rw [hy hs hS]; rfl⟩
          · exact .inr ⟨h, fun hs hS => by rw [hy hs hS]; rfl⟩
        · split at h
          · exact .inr ⟨h, fun hs hS => by rw [hy hs hS]; rfl⟩
          · exact .inl ⟨h, fun hs hS => by rw [hy hs hS]; rfl⟩
      · rename_i v0
        split at h
        case h_2 => cases h
        rename_i hud
        have hud := isUndef_eq hud
        refine .inr ⟨h, fun {X0 F w0 p α S a w} hs hS => ?_⟩
        have hr := (hs.env d _ (hmem hS)).dinv
        generalize hgd : a.tmps.getD d undef = v at hr
        cases hr
        rw [hud] at hgd
        have : yielded ops a.tmps g = none := by
          simp only [yielded, hog, hd, Option.bind_some]
          rw [Array.getD_eq_getD_getElem?] at hgd
          cases hx : a.tmps[d]? with
          | none => rfl
          | some v => rw [hx] at hgd; simp at hgd; rw [hgd]; rfl
        simp [Region.wanted, hg, this]
      · cases h
    · cases h

theorem opsK_out {C : Ctx} {n : Nat} {ops : Array Oper} : ∀ (l : List Oper) (i : Nat) (st : AS) (fps : List Fp) (K : AS → List Fp → Prop), (∀ j, l[j]? = ops[i + j]?) → opsK C n ops.toList l i st fps K →
    ∃ (st' : AS) (fs : List Fp) (rs : List (Nat × Rec)), K st' (fs.reverse ++ fps) ∧ st'.nx = st.nx ∧ Chain ops st.ss rs st'.ss ∧ (∀ x, x ∈ rs → Valid C.P C.G ops n st.nx x.1 x.2) ∧ rs.map (·.1) = List.range' i l.length ∧
      fs.length = rs.length ∧ ∀ (j : Nat) (f : Fp) (x : Nat × Rec), fs[j]? = some f → rs[j]? = some x → f.i = x.1 ∧ FpOf ops f x.2 := by
  intro l
  induction l with
  | nil =>
    intro i st fps K _ h
    exact ⟨st, [], [], h, rfl, rfl, (fun x hx => by cases hx), rfl, rfl, fun j f x hf => by simp at hf⟩
  | cons o r ih =>
    intro i st fps K hl h
    have hi : ops[i]? = some o := by have := hl 0; simpa using this.symm
    have hdst : dstOf ops i = o.dst := by simp [dstOf, hi]
    have step : ∀ (st1 : AS) (f : Fp) (x : Rec), st1.nx = st.nx → f.i = i → x.pre st.ss → st1.ss = st.ss.upd o.dst x.out x.upd → Valid C.P C.G ops n st.nx i x → FpOf ops f x → opsK C n ops.toList r (i + 1) st1 (f :: fps) K →
        ∃ (st' : AS) (fs : List Fp) (rs : List (Nat × Rec)), K st' (fs.reverse ++ fps) ∧ st'.nx = st.nx ∧ Chain ops st.ss rs st'.ss ∧ (∀ x, x ∈ rs → Valid C.P C.G ops n st.nx x.1 x.2) ∧ rs.map (·.1) = List.range' i (o :: r).length ∧
          fs.length = rs.length ∧ ∀ (j : Nat) (f : Fp) (x : Nat × Rec), fs[j]? = some f → rs[j]? = some x → f.i = x.1 ∧ FpOf ops f x.2 := by
      intro st1 f x hnx hfi hpre hss hval hfp h
      obtain ⟨st', fs, rs, h1, h2, h3, h4, h5, h6, h7⟩ := ih (i + 1) st1 (f :: fps) K (fun j => by have h9 := hl (j + 1); rw [show i + (j + 1) = i + 1 + j by omega] at h9; simpa using h9) h
      refine ⟨st', f :: fs, (i, x) :: rs, by simpa using h1, h2.trans hnx, ⟨hpre, by rw [hdst, ← hss]; exact h3⟩, fun y hy => ?_, ?_, by simp [h6], fun j g y hg hy => ?_⟩
      · rcases List.mem_cons.1 hy with rfl | hy
        · exact hval
        · rw [← hnx]; exact h4 y hy
      · simp [h5, List.range'_succ]
      · cases j with
        | zero => simp at hg hy; subst hg hy; exact ⟨hfi, hfp⟩
        | succ j => exact h7 j g y (by simpa using hg) (by simpa using hy)
    rw [opsK_cons] at h
    rcases guardK_out (C := C) (n := n) h with ⟨h, hw⟩ | ⟨h, hw⟩
    · replace h := dstK_out h; obtain ⟨h, hd⟩ := h
      replace h := opK_out (n := n) (atK_out h); obtain ⟨out, upd, rd, h, hv⟩ := h
      replace h := consK_out h; obtain ⟨st1, h, hss, hnx⟩ := h
      refine step st1 _ ⟨insOf ops o st, fpOf st rd, out, upd⟩ hnx rfl ⟨fun t av ht => (mem_insOf.1 ht).2, fun k e hk => (mem_fpOf.1 hk).2⟩ hss (valid_run hi hd hw hv) ⟨hi, fun t av ht => (mem_insOf.1 ht).1, fun k e hk => (mem_fpOf.1 hk).1, fun k hk => look_some_mem hk⟩ h
    · replace h := dstK_out h; obtain ⟨h, hd⟩ := h
      replace h := consK_out h; obtain ⟨st1, h, hss, hnx⟩ := h
      refine step st1 _ ⟨insOf ops o st, [], .d (.x undef), []⟩ hnx rfl ⟨fun t av ht => (mem_insOf.1 ht).2, fun k e hk => by cases hk⟩ hss (valid_skip hi hd hw) ⟨hi, fun t av ht => (mem_insOf.1 ht).1, (fun k e hk => by cases hk), fun k hk => by simp [look] at hk⟩ h

end Go.Eng
