import Derived.Test.YtbfkfmpfdafogaaGreatDoorMc
import Derived.Deep.LoopGhost
import Derived.Scope
import Derived.Lib.Bytealg
/-
  A region, a body, a function: the reckoning over the view, and that it speaks true.
-/
namespace Go.Eng
open Go.RowKit (Below)

def convAllK (C : Ctx) (st : AS) (nm : Nat) (S T : TypeId) (a : AV) (K : KO) : Prop :=
  lookK C.tab S fun tS => lookK C.tab T fun tT => match tS.kd, tT.kd with
    | .slice _, .str => b2sK C st S T a K
    | .str, .slice _ => s2bK C nm S T a K
    | .ptr u, .uptr => toUnsK C st u a K
    | .uptr, .ptr u => fromUnsK C st u a K
    | .slice _, .slice _ => slslK C nm st S T a K
    | _, _ => convK C T a fun r => K r [] []

def builtinK (C : Ctx) (st : AS) (nm : Nat) (oT : TypeId) (b : Builtin) (as : List Operand) (ts : List TypeId) (K : KO) : Prop :=
  match b with
  | .len => match as, ts with
    | [x], [T] => lookK C.tab T fun ti => match ti.kd with
      | .map _ _ => evK st x fun a => mapLenK C st T a K
      | _ => evK st x fun a => lookK C.tab T fun ti => match isSl ti.kd a with | true => lenK st a fun m rd => K (.d (.i .i64 (m : Int))) [] rd | false => False
    | _, _ => False
  | .append => match as, ts with
    | [s, x], [T, Tx] => lookK C.tab Tx fun tx => (match tx.kd with
      | .int _ => evTK C st T s fun a => evK st x fun b => appZK C nm T a b K
      | _ => evTK C st T s fun a => evTK C st Tx x fun b => appendK C st nm T Tx a b K)
    | _, _ => False
  | .cap => match as, ts with
    | [x], [T] => lookK C.tab T fun ti => (match ti.kd with | .slice _ => evK st x fun a => capK a K | _ => False)
    | _, _ => False
  | .max => evsK st as fun as => minmaxK true as fun r => K r [] []
  | .min => evsK st as fun as => minmaxK false as fun r => K r [] []
  | .delete => match as, ts with
    | [m, k], [T, Tk] => lookK C.tab T fun ti => (match ti.kd with | .map k' _ => (match Nat.beq k' Tk with | true => evK st m fun a => evK st k fun b => deleteK C st T a b K | false => False) | _ => False)
    | _, _ => False
  | .unsafeSliceData => match as with | [x] => lookK C.tab oT fun ti => (match ti.kd with | .ptr _ => evK st x fun a => slDataK st a K | _ => False) | _ => False
  | .unsafeString => match as, ts with | [x, y], [T, _] => evK st x fun a => evK st y fun b => unsStrK C st T a b K | _, _ => False
  | _ => False

/-- A field of a value. -/
def fieldK (C : Ctx) (T : TypeId) (f : Nat) (a : AV) (K : AV → Prop) : Prop :=
  lookK C.tab T fun ti => match ti.kd with
    | .struct os => nthK os f fun x => lookK C.tab x.2 fun te => match a with
      | .d (.agg ds) => mapdK ds fun cs => (match te.agg with | true => takeK cs x.1 te.size fun r => mkAggK r K | false => nthK cs x.1 fun c => K c)
      | .agg cs => (match te.agg with | true => takeK cs x.1 te.size fun r => mkAggK r K | false => nthK cs x.1 fun c => K c)
      | _ => False
    | _ => False

def opK (C : Ctx) (o : Oper) (nm : Nat) (st : AS) (K : KO) : Prop :=
  match o.op with
  | .move x => evTK C st o.type x fun a => K a [] []
  | .assign x => evTK C st o.type x fun a => assignK nm a K
  | .pick c x y => evK st c fun vc => boolK vc fun t => BIf t (evK st x fun a => K a [] []) (evK st y fun a => K a [] [])
  | .alloc T => allocK C nm T K
  | .box T x => evTK C st T x fun a => boxK C nm T a K
  | .build T ps => buildK C st T ps.toList fun r => K r [] []
  | .buildSlice T len ps => evsK st (sndL ps.toList) fun as => match hasOs as with | true => rowZK C st nm T len ps.toList as K | false => rowK C st nm T len ps.toList K
  | .load T x => evK st x fun a => loadK C st T a fun r rd => K r [] rd
  | .store T p v => evK st p fun a => evTK C st T v fun b => storeK C st T a b K
  | .nilCheck x => evK st x fun a => nilK a fun r => K r [] []
  | .binOp op T x y _ => evK st x fun a => evK st y fun b => eqAllK C st op T a b fun r rd => K r [] rd
  | .unOp op _ x => evK st x fun a => unK op a fun r => K r [] []
  | .convert S T x => evK st x fun a => convAllK C st nm S T a K
  | .slice T x lo hi none => evK st x fun a => ovK st lo fun l => ovK st hi fun r => sliceVK C nm st T a l r K
  | .fieldAddr T x f => evK st x fun a => faddrK C T f a fun r => K r [] []
  | .indexAddr T x ix => evK st x fun a => evK st ix fun i => iaddrK C st T a i fun r rd => K r [] rd
  | .index T x ix => evK st x fun a => evK st ix fun i => indexK C T a i fun r => K r [] []
  | .extract x i => evK st x fun a => extrK a i fun r => K r [] []
  | .call c => match c.callee with
    | .builtin b => builtinK C st nm o.type b c.args.toList c.argTypes.toList K
    | .value x => fnK st x fun f pre post => evsK st c.args.toList fun as => pre2 pre as post fun as => goK C st nm f as K
    | _ => False
  | .makeFunc fn first captured => evsK st first.toList fun as => evsK st captured.toList fun bs => K (.fn fn as bs) [] []
  | .makeMap T r => makeMapK C nm T r K
  | .lookup T m k ok => evK st m fun a => evK st k fun b => lookupK C st T a b ok K
  | .mapUpdate T m k v => evK st m fun a => evK st k fun b => evK st v fun c => mapUpdK C st T a b c K
  | .range T x => evK st x fun a => rangeK C nm T a K
  | .next x isS => evK st x fun a => nextK st isS a K
  | .makeSlice T l c => evK st l fun a => evK st c fun b => makeSliceK C nm T a b K
  | .field T x f => evK st x fun a => fieldK C T f a fun r => K r [] []
  | .slice T x none (some h) (some m) => evK st x fun a => evK st h fun b => evK st m fun c => slice3K C T a b c K
  | _ => False

theorem arr1 {β : Type} {a : Array β} {x : β} (h : a.toList = [x]) : a = #[x] := by cases a; simp at h; rw [h]
theorem arr2 {β : Type} {a : Array β} {x y : β} (h : a.toList = [x, y]) : a = #[x, y] := by cases a; simp at h; rw [h]

section
variable {C : Ctx} {n : Nat} {o : Oper} {nm : Nat} {st : AS} {K : KO}

theorem builtin_out {c : Call} {b : Builtin} (ho : o.op = .call c) (hc : c.callee = .builtin b) (h : builtinK C st nm o.type b c.args.toList c.argTypes.toList K) : ∃ out upd rd, K out upd rd ∧ VOp C n o nm st rd out upd := by
  unfold builtinK at h
  split at h
  · split at h
    · rename_i x T ha hT
      replace h := lookK_out h; obtain ⟨ti, hti, h⟩ := h
      split at h
      · exact mapLen_out ho hc (arr1 ha) (arr1 hT) h
      · exact len_out ho hc (arr1 ha) (arr1 hT) h
    · cases h
  · split at h
    · rename_i s x T Tx ha hT
      replace h := lookK_out h; obtain ⟨tx, htx, h⟩ := h
      split at h
      · rename_i k0 hk0; exact appZ_out ho hc (arr2 ha) (arr2 hT) (und_int (C.ty htx) hk0) h
      · exact append_out ho hc (arr2 ha) (arr2 hT) h
    · cases h
  · split at h
    · rename_i x T ha hT
      replace h := lookK_out h; obtain ⟨ti, hti, h⟩ := h
      split at h
      · rename_i e hk; exact cap_out ho hc (arr1 ha) (arr1 hT) (und_slice (C.ty hti) hk) h
      · cases h
    · cases h
  · exact minmax_out true ho hc h
  · exact minmax_out false ho hc h
  · split at h
    · rename_i m k T Tk ha hT
      replace h := lookK_out h; obtain ⟨ti, hti, h⟩ := h
      split at h
      · rename_i k' e hk
        split at h
        · rename_i hb
          have hb := Nat.eq_of_beq_eq_true hb
          subst hb
          exact delete_out ho hc (arr2 ha) (arr2 hT) ⟨e, und_map (C.ty hti) hk⟩ h
        · cases h
      · cases h
    · cases h
  · split at h
    · rename_i x ha
      replace h := lookK_out h; obtain ⟨ti, hti, h⟩ := h
      split at h
      · rename_i e hk; exact slData_out ho hc (arr1 ha) ⟨e, und_ptr (C.ty hti) hk⟩ h
      · cases h
    · cases h
  · split at h
    · rename_i x y T T' ha hT; exact unsStr_out ho hc (arr2 ha) (arr2 hT) h
    · cases h
  · cases h

theorem field_out {T : TypeId} {x : Operand} {f : Nat} (ho : o.op = .field T x f) (h : evK st x fun a => fieldK C T f a fun r => K r [] []) : ∃ out upd rd, K out upd rd ∧ VOp C n o nm st rd out upd := by
  replace h := evK_out h; obtain ⟨va, h1, h⟩ := h
  have hmem : x ∈ o.op.operands := by rw [ho]; simp [Op.operands]
  unfold fieldK at h
  replace h := lookK_out h; obtain ⟨ti, hti, h⟩ := h
  split at h
  · rename_i os hk
    replace h := nthK_out h; obtain ⟨y, hy, h⟩ := h
    replace h := lookK_out h; obtain ⟨te, hte, h⟩ := h
    obtain ⟨fs, hu, hofs⟩ := und_struct (C.ty hti) hk
    obtain ⟨fd, _, hf1, hf2, hf3, _, _⟩ := offsB_get hofs f hy
    have hfd : fs[f]? = some fd := by rw [← Array.getElem?_toList]; exact hf1
    have run : ∀ (w : World) (vs : Array Value) (v : Value), (part y.2 vs y.1).run C.P w = .ok v w → ∀ a : Act, a.eval x = .agg vs → (execOp a.eval o).run C.P w = .ok (.value v) w := by
      intro w vs v hv a ha
      simp [execOp, ho, ha, Instr.field, underlying, hu, hfd, hf2, hf3, asAgg, hv]
    have key : ∀ (cs : List AV), (match te.agg with | true => takeK cs y.1 te.size fun r => mkAggK r fun r => K r [] [] | false => nthK cs y.1 fun c => K c [] []) →
        ∃ out, K out [] [] ∧ (∀ p, (∀ c, c ∈ cs → c.ok p) → out.ok p) ∧ ∀ (w : World) (α : Nat → Loc) (X : Nat → Prop) (vs : Array Value), cs.length = vs.size → (∀ (j : Nat) (c : AV) (v : Value), cs[j]? = some c → vs[j]? = some v → RdA w α X c v) → ∃ v, (part y.2 vs y.1).run C.P w = .ok v w ∧ RdA w α X out v := by
      intro cs h
      cases hag : te.agg with
      | true =>
        rw [hag] at h
        replace h := takeK_out h; obtain ⟨r, hr1, hr2, h⟩ := h
        replace h := mkAggK_out h; obtain ⟨av, h, hok, hrd⟩ := h
        refine ⟨av, h, fun p hp => hok p fun c hc => ?_, fun w α X vs hl hc => ?_⟩
        · obtain ⟨m, hm⟩ := List.mem_iff_getElem?.1 hc
          exact hp c (List.mem_of_getElem? (hr2 m c hm))
        · refine ⟨_, run_part_agg (C.ty hte) w vs y.1 hag, hrd w α X _ ?_ fun m c v h1 h2 => ?_⟩
          · have hle : te.size = 0 ∨ y.1 + te.size ≤ vs.size := by
              rcases Nat.eq_zero_or_pos te.size with h0 | h0
              · exact .inl h0
              · have := (List.getElem?_eq_some_iff.1 (hr2 (te.size - 1) _ (List.getElem?_eq_getElem (by omega)))).1
                exact .inr (by omega)
            rw [hr1]; simp; omega
          · simp only [Array.getElem?_extract] at h2
            split at h2
            · exact hc _ c v (hr2 m c h1) h2
            · cases h2
      | false =>
        rw [hag] at h
        replace h := nthK_out h; obtain ⟨c, hc, h⟩ := h
        refine ⟨c, h, fun p hp => hp c (List.mem_of_getElem? hc), fun w α X vs hl hcs => ?_⟩
        have hlt : y.1 < vs.size := by rw [← hl]; exact (List.getElem?_eq_some_iff.1 hc).1
        exact ⟨vs[y.1], run_part_one (C.ty hte) w vs _ hag (Array.getElem?_eq_getElem hlt), hcs _ c _ hc (Array.getElem?_eq_getElem hlt)⟩
    split at h
    · rename_i ds
      replace h := mapdK_out h
      obtain ⟨out, h, hok, hrd⟩ := key _ h
      refine ⟨_, _, _, h, VOp.pure fun X0 F w0 p α S a w hs he _ => ?_⟩
      have hr := ((h1.to hmem he).read hs).dinv
      generalize hv : a.eval x = v at hr
      cases hr with
      | agg _ vs hl hc =>
        obtain ⟨v, h2, h3⟩ := hrd w α (XX α S.own X0) vs (by simpa using hl) fun j c v hj hv => by
          simp only [List.getElem?_map, Option.map_eq_some_iff] at hj
          obtain ⟨d, hd, rfl⟩ := hj
          exact .d _ _ (hc j d v hd hv)
        exact ⟨v, run w vs v h2 a hv, h3, hok p fun c hc => by obtain ⟨d, _, rfl⟩ := List.mem_map.1 hc; exact .d d⟩
    · rename_i cs
      obtain ⟨out, h, hok, hrd⟩ := key _ h
      refine ⟨_, _, _, h, VOp.pure fun X0 F w0 p α S a w hs he _ => ?_⟩
      have hr := (h1.to hmem he).read hs
      have hkk := (h1.to hmem he).ok hs
      generalize hv : a.eval x = v at hr
      cases hr with
      | agg _ vs hl hc =>
        obtain ⟨v, h2, h3⟩ := hrd w α (XX α S.own X0) vs hl hc
        cases hkk with
        | agg _ hkk => exact ⟨v, run w vs v h2 a hv, h3, hok p hkk⟩
    · cases h
  · cases h
theorem opK_out (h : opK C o nm st K) : ∃ out upd rd, K out upd rd ∧ VOp C n o nm st rd out upd := by
  unfold opK at h
  split at h
  · rename_i x ho; exact move_out ho h
  · rename_i x ho; exact assign_out ho h
  · rename_i c x y ho; exact pick_out ho h
  · rename_i T ho; exact alloc_out ho h
  · rename_i T x ho; exact box_out ho h
  · rename_i T ps ho; exact build_out ho h
  · rename_i T len ps ho
    replace h := evsK_out h; obtain ⟨as, has, h⟩ := h
    split at h
    · exact rowZ_out ho has h
    · exact row_out ho h
  · rename_i T x ho; exact load_out ho h
  · rename_i T p v ho; exact store_out ho h
  · rename_i x ho; exact nil_out ho h
  · rename_i op T x y T' ho; exact eqAll_out ho h
  · rename_i op T x ho; exact un_out ho h
  · rename_i S T x ho
    obtain ⟨av, hb, h⟩ := evK_bind h
    unfold convAllK at h
    replace h := lookK_out h; obtain ⟨tS, htS, h⟩ := h
    replace h := lookK_out h; obtain ⟨tT, htT, h⟩ := h
    split at h
    · exact b2s_out ho (hb _ h)
    · exact s2b_out ho (hb _ h)
    · rename_i u hk1 hk2; exact toUns_out ho (und_ptr (C.ty htS) hk1) (und_uptr (C.ty htT) hk2) (hb (fun a => toUnsK C st u a K) h)
    · rename_i u hk1 hk2; exact fromUns_out ho (und_uptr (C.ty htS) hk1) (und_ptr (C.ty htT) hk2) (hb (fun a => fromUnsK C st u a K) h)
    · exact slsl_out ho (hb (fun a => slslK C nm st S T a K) h)
    · exact conv_out ho ⟨tS, htS⟩ (hb (fun a => convK C T a fun r => K r [] []) h)
  · rename_i T x lo hi ho; exact sliceV_out ho h
  · rename_i T x f ho; exact faddr_out ho h
  · rename_i T x ix ho; exact iaddr_out ho h
  · rename_i T x ix ho; exact index_out ho h
  · rename_i x i ho; exact extr_out ho h
  · rename_i c ho
    split at h
    · rename_i b hc; exact builtin_out ho hc h
    · rename_i f hc; exact call_out ho hc h
    · cases h
  · rename_i fn first captured ho; exact mkfn_out ho h
  · rename_i T r ho; exact makeMap_out ho h
  · rename_i T m k ok ho; exact lookup_out ho h
  · rename_i T m k v ho; exact mapUpd_out ho h
  · rename_i T x ho; exact range_out ho h
  · rename_i x isS ho; exact next_out ho h
  · rename_i T l c ho; exact makeSlice_out ho h
  · rename_i T x f ho; exact field_out ho h
  · rename_i T x hi mx ho; exact slice3_out ho h
  · cases h

end

/-! ### Regions -/

structure Fp where
  i : Nat
  o : Oper
  rd : List Nat
  wr : List Nat

def dstK (n : Nat) (d : Option Nat) (K : Prop) : Prop :=
  match d with | none => K | some d => match Nat.blt d n with | true => K | false => False

theorem dstK_out {n : Nat} {d : Option Nat} {K : Prop} (h : dstK n d K) : K ∧ ∀ x, d = some x → x < n := by
  unfold dstK at h
  split at h
  · exact ⟨h, fun x hx => by cases hx⟩
  · split at h
    · rename_i hb; exact ⟨h, fun x hx => by cases hx; have := hb; simp [Nat.blt] at this; omega⟩
    · cases h

def appK (l m : List (Nat × Option Ent)) (K : List (Nat × Option Ent) → Prop) : Prop :=
  match l with
  | [] => K m
  | x :: r => appK r m fun r => K (x :: r)
theorem appK_out {l m : List (Nat × Option Ent)} {K : List (Nat × Option Ent) → Prop} (h : appK l m K) : K (l ++ m) := by
  induction l generalizing K with
  | nil => exact h
  | cons x r ih => exact ih (K := fun r => K (x :: r)) h

def consK (st : AS) (dst : Option Nat) (out : AV) (upd : List (Nat × Option Ent)) (K : AS → Prop) : Prop :=
  match st with
  | ⟨env, own, nx⟩ => match dst, upd with
    | some d, [] => K ⟨(d, out) :: env, own, nx⟩
    | some d, [x] => K ⟨(d, out) :: env, x :: own, nx⟩
    | some d, [x, y] => K ⟨(d, out) :: env, x :: y :: own, nx⟩
    | some d, l => appK l own fun own => K ⟨(d, out) :: env, own, nx⟩
    | none, [x] => K ⟨env, x :: own, nx⟩
    | none, l => appK l own fun own => K ⟨env, own, nx⟩

/-- The region's end: its operations' names are spent. -/
def bumpK (st : AS) (n : Nat) (K : AS → Prop) : Prop :=
  match st with
  | ⟨env, own, nx⟩ => match nx + n with
    | 0 => K ⟨env, own, 0⟩
    | m + 1 => K ⟨env, own, m + 1⟩

theorem bumpK_out {st : AS} {n : Nat} {K : AS → Prop} (h : bumpK st n K) : K ⟨st.env, st.own, st.nx + n⟩ := by
  obtain ⟨env, own, nx⟩ := st
  simp only [bumpK] at h
  split at h
  · rename_i h0; simp only [h0]; exact h
  · rename_i h0; simp only [h0]; exact h

theorem consK_out {st : AS} {dst : Option Nat} {out : AV} {upd : List (Nat × Option Ent)} {K : AS → Prop} (h : consK st dst out upd K) : ∃ st', K st' ∧ st'.ss = st.ss.upd dst out upd ∧ st'.nx = st.nx := by
  have e1 : ∀ d, (AS.mk ((d, out) :: st.env) (upd ++ st.own) st.nx).ss = st.ss.upd (some d) out upd := by
    intro d
    simp only [AS.ss, SS.upd, SS.mk.injEq]
    constructor
    · funext t
      simp only [look]
      by_cases hd : d = t
      · subst hd; simp
      · have : Nat.beq t d = false := by
          cases hb : Nat.beq t d with
          | false => rfl
          | true => exact absurd (Nat.eq_of_beq_eq_true hb).symm hd
        simp [this, hd]
    · funext k
      rw [look_append']
      cases look upd k <;> simp
  have e2 : (AS.mk st.env (upd ++ st.own) st.nx).ss = st.ss.upd none out upd := by
    simp only [AS.ss, SS.upd, SS.mk.injEq]
    constructor
    · funext t; simp
    · funext k
      rw [look_append']
      cases look upd k <;> simp
  obtain ⟨env, own, nx⟩ := st
  simp only [consK] at h
  split at h
  · exact ⟨_, h, e1 _, rfl⟩
  · exact ⟨_, h, e1 _, rfl⟩
  · exact ⟨_, h, e1 _, rfl⟩
  · exact ⟨_, appK_out h, e1 _, rfl⟩
  · exact ⟨_, h, e2, rfl⟩
  · exact ⟨_, appK_out h, e2, rfl⟩

def isUndef : Value → Bool
  | .tuple vs => Nat.beq vs.size 0
  | _ => false

theorem isUndef_eq {v : Value} (h : isUndef v = true) : v = undef := by
  unfold isUndef at h
  split at h
  · rename_i vs
    rw [Array.eq_empty_of_size_eq_zero (Nat.eq_of_beq_eq_true h)]; rfl
  · cases h

/-- Is the operation wanted? -/
def guardK (all : List Oper) (st : AS) (o : Oper) (run skip : Prop) : Prop :=
  match o.guard with
  | none => run
  | some (g, want) => nthK all g fun og => match og.dst with
    | some d => lookK st.env d fun a => match a with
      | .d (.b t) => BIf t (match want with | true => run | false => skip) (match want with | true => skip | false => run)
      | .d (.x v) => match isUndef v with | true => skip | false => False
      | _ => False
    | none => False

def nmK (n : Nat) (K : Nat → Prop) : Prop := match n with | 0 => K 0 | m + 1 => K (m + 1)
theorem nmK_out {n : Nat} {K : Nat → Prop} (h : nmK n K) : K n := by
  unfold nmK at h
  split at h <;> exact h
def atK (st : AS) (i : Nat) (K : Nat → Prop) : Prop := match st with | ⟨_, _, nx⟩ => nmK (nx + i) K
theorem atK_out {st : AS} {i : Nat} {K : Nat → Prop} (h : atK st i K) : K (st.nx + i) := nmK_out h

/-- One operation, then the rest. (By the recursors themselves: so that the kernel and the unifier meet the same terms.) -/
def opStep (C : Ctx) (n : Nat) (all : List Oper) (o : Oper) (rest : Nat → AS → List Fp → (AS → List Fp → Prop) → Prop) (i : Nat) (st : AS) (fps : List Fp) (K : AS → List Fp → Prop) : Prop :=
  guardK all st o
    (dstK n o.dst (atK st i fun nm => opK C o nm st fun out upd rd => consK st o.dst out upd fun st' => rest (i + 1) st' (⟨i, o, rd, upd.map (·.1)⟩ :: fps) K))
    (dstK n o.dst (consK st o.dst (.d (.x undef)) [] fun st' => rest (i + 1) st' (⟨i, o, [], []⟩ :: fps) K))

noncomputable def opsK (C : Ctx) (n : Nat) (all : List Oper) (l : List Oper) : Nat → AS → List Fp → (AS → List Fp → Prop) → Prop :=
  List.rec (motive := fun _ => Nat → AS → List Fp → (AS → List Fp → Prop) → Prop) (fun _ st fps K => K st fps) (fun o _ rest => opStep C n all o rest) l

theorem opsK_cons (C : Ctx) (n : Nat) (all : List Oper) (o : Oper) (r : List Oper) (i : Nat) (st : AS) (fps : List Fp) (K : AS → List Fp → Prop) :
    opsK C n all (o :: r) i st fps K = guardK all st o
      (dstK n o.dst (atK st i fun nm => opK C o nm st fun out upd rd => consK st o.dst out upd fun st' => opsK C n all r (i + 1) st' (⟨i, o, rd, upd.map (·.1)⟩ :: fps) K))
      (dstK n o.dst (consK st o.dst (.d (.x undef)) [] fun st' => opsK C n all r (i + 1) st' (⟨i, o, [], []⟩ :: fps) K)) := rfl

def insOf (ops : Array Oper) (o : Oper) (st : AS) : List (Nat × AV) := (o.looksAt ops).filterMap fun t => (look st.env t).map fun a => (t, a)

def fpOf (st : AS) (rd : List Nat) : List (Nat × Ent) := rd.filterMap fun k => (st.ss.own k).map fun e => (k, e)

theorem mem_insOf {ops : Array Oper} {o : Oper} {st : AS} {t : Nat} {av : AV} : (t, av) ∈ insOf ops o st ↔ t ∈ o.looksAt ops ∧ look st.env t = some av := by
  unfold insOf
  rw [List.mem_filterMap]
  constructor
  · rintro ⟨t', h1, h2⟩
    cases hl : look st.env t' with
    | none => simp [hl] at h2
    | some a => simp [hl] at h2; obtain ⟨rfl, rfl⟩ := h2; exact ⟨h1, hl⟩
  · rintro ⟨h1, h2⟩; exact ⟨t, h1, by simp [h2]⟩

theorem mem_fpOf {st : AS} {rd : List Nat} {k : Nat} {e : Ent} : (k, e) ∈ fpOf st rd ↔ k ∈ rd ∧ st.ss.own k = some e := by
  unfold fpOf
  rw [List.mem_filterMap]
  constructor
  · rintro ⟨t', h1, h2⟩
    cases hl : st.ss.own t' with
    | none => simp [hl] at h2
    | some a => simp [hl] at h2; obtain ⟨rfl, rfl⟩ := h2; exact ⟨h1, hl⟩
  · rintro ⟨h1, h2⟩; exact ⟨k, h1, by simp [h2]⟩

theorem looks_operand {ops : Array Oper} {o : Oper} {t : Nat} (h : Operand.tmp t ∈ o.op.operands) : t ∈ o.looksAt ops := by
  unfold Oper.looksAt
  exact List.mem_append_left _ (List.mem_filterMap.2 ⟨.tmp t, Array.mem_toList_iff.2 h, rfl⟩)

theorem looks_guard {ops : Array Oper} {o : Oper} {g : Nat} {w : Bool} {og : Oper} {d : Nat} (hg : o.guard = some (g, w)) (ho : ops[g]? = some og) (hd : og.dst = some d) : d ∈ o.looksAt ops := by
  unfold Oper.looksAt
  refine List.mem_append_right _ ?_
  simp [hg, ho, hd]

/-- What a footprint tells of a record. -/
def FpOf (ops : Array Oper) (f : Fp) (r : Rec) : Prop :=
  ops[f.i]? = some f.o ∧ (∀ t av, (t, av) ∈ r.ins → t ∈ f.o.looksAt ops) ∧ (∀ k e, (k, e) ∈ r.fp → k ∈ f.rd) ∧ ∀ k, (look r.upd k).isSome = true → k ∈ f.wr

theorem look_some_mem {β : Type} {l : List (Nat × β)} {k : Nat} (h : (look l k).isSome = true) : k ∈ l.map (·.1) := by
  cases hl : look l k with
  | none => rw [hl] at h; cases h
  | some v => exact List.mem_map.2 ⟨(k, v), look_mem hl, rfl⟩

theorem valid_run {C : Ctx} {ops : Array Oper} {n i : Nat} {o : Oper} {st : AS} {rd : List Nat} {out : AV} {upd : List (Nat × Option Ent)} (hi : ops[i]? = some o) (hd : ∀ x, o.dst = some x → x < n)
    (hw : ∀ {X0 F w0 p α S a w}, Sim C.G X0 F w0 n p α S a w → (∀ t av, (t, av) ∈ insOf ops o st → S.env t = some av) → Region.wanted o (yielded ops a.tmps) = true)
    (hv : VOp C n o (st.nx + i) st rd out upd) : Valid C.P C.G ops n st.nx i ⟨insOf ops o st, fpOf st rd, out, upd⟩ := by
  intro X0 F w0 p α S a w Q K hs hpre hp hK
  unfold wpOp
  simp only [hi]
  rw [if_pos (hw hs hpre.1)]
  refine .inl (hv.2 X0 F w0 p α S a w Q K hs (fun t ht av hav => hpre.1 t av (mem_insOf.2 ⟨looks_operand ht, hav⟩)) (fun k hk e he => hpre.2 k e (mem_fpOf.2 ⟨hk, he⟩)) hp hd fun α' v w' hS => ?_)
  have hdst : dstOf ops i = o.dst := by simp [dstOf, hi]
  exact hK α' _ w' (by rw [hdst]; exact hS)

theorem valid_skip {C : Ctx} {ops : Array Oper} {n i : Nat} {o : Oper} {st : AS} (hi : ops[i]? = some o) (hd : ∀ x, o.dst = some x → x < n)
    (hw : ∀ {X0 F w0 p α S a w}, Sim C.G X0 F w0 n p α S a w → (∀ t av, (t, av) ∈ insOf ops o st → S.env t = some av) → Region.wanted o (yielded ops a.tmps) = false) :
    Valid C.P C.G ops n st.nx i ⟨insOf ops o st, [], .d (.x undef), []⟩ := by
  intro X0 F w0 p α S a w Q K hs hpre hp hK
  unfold wpOp
  simp only [hi]
  rw [if_neg (by rw [hw hs hpre.1]; simp)]
  have hdst : dstOf ops i = o.dst := by simp [dstOf, hi]
  refine hK α _ w ?_
  rw [hdst]
  exact (hs.pure o.dst hd (.d (.x undef)) undef (.d _ _ (.x _)) (.d _)).mono fun k hk => .inl hk

theorem guardK_out {C : Ctx} {n : Nat} {ops : Array Oper} {st : AS} {o : Oper} {run skip : Prop} (h : guardK ops.toList st o run skip) :
    (run ∧ ∀ {X0 F w0 p α S a w}, Sim C.G X0 F w0 n p α S a w → (∀ t av, (t, av) ∈ insOf ops o st → S.env t = some av) → Region.wanted o (yielded ops a.tmps) = true) ∨
    (skip ∧ ∀ {X0 F w0 p α S a w}, Sim C.G X0 F w0 n p α S a w → (∀ t av, (t, av) ∈ insOf ops o st → S.env t = some av) → Region.wanted o (yielded ops a.tmps) = false) := by
  unfold guardK at h
  split at h
  · rename_i hg
    exact .inl ⟨h, fun _ _ => by simp [Region.wanted, hg]⟩
  · rename_i g want hg
    replace h := nthK_out h; obtain ⟨og, hog, h⟩ := h
    rw [Array.getElem?_toList] at hog
    split at h
    · rename_i d hd
      replace h := lookK_out h; obtain ⟨av, hav, h⟩ := h
      have hmem : ∀ {S : SS}, (∀ t av, (t, av) ∈ insOf ops o st → S.env t = some av) → S.env d = some av := fun hS => hS d av (mem_insOf.2 ⟨looks_guard hg hog hd, hav⟩)
      split at h
      · rename_i t
        have hy : ∀ {X0 F w0 p α S a w}, Sim C.G X0 F w0 n p α S a w → (∀ t' av, (t', av) ∈ insOf ops o st → S.env t' = some av) → Region.wanted o (yielded ops a.tmps) = (t == want) := by
          intro X0 F w0 p α S a w hs hS
          have hr := (hs.env d _ (hmem hS)).dinv.binv
          have : a.tmps[d]? = some (.bool t) := by
            rw [Array.getD_eq_getD_getElem?] at hr
            cases hx : a.tmps[d]? with
            | none => rw [hx] at hr; cases hr
            | some v => rw [hx] at hr; exact congrArg some hr
          simp [Region.wanted, hg, yielded, hog, hd, this]
        rcases h.out with ⟨rfl, h⟩ | ⟨rfl, h⟩
        · split at h
          · exact .inl ⟨h, fun hs hS => by rw [hy hs hS]; rfl⟩
          · exact .inr ⟨h, fun hs hS => by rw [hy hs hS]; rfl⟩
        · split at h
          · exact .inr ⟨h, fun hs hS => by rw [hy hs hS]; rfl⟩
          · exact .inl ⟨h, fun hs hS => by rw [hy hs hS]; rfl⟩
      · rename_i v0
        split at h
        case h_2 => cases h
        rename_i hud
        have hud := isUndef_eq hud
        refine .inr ⟨h, fun {X0 F w0 p α S a w} hs hS => ?_⟩
        have hr := (hs.env d _ (hmem hS)).dinv
        generalize hgd : a.tmps.getD d undef = v at hr
        cases hr
        rw [hud] at hgd
        have : yielded ops a.tmps g = none := by
          simp only [yielded, hog, hd, Option.bind_some]
          rw [Array.getD_eq_getD_getElem?] at hgd
          cases hx : a.tmps[d]? with
          | none => rfl
          | some v => rw [hx] at hgd; simp at hgd; rw [hgd]; rfl
        simp [Region.wanted, hg, this]
      · cases h
    · cases h

theorem opsK_out {C : Ctx} {n : Nat} {ops : Array Oper} : ∀ (l : List Oper) (i : Nat) (st : AS) (fps : List Fp) (K : AS → List Fp → Prop), (∀ j, l[j]? = ops[i + j]?) → opsK C n ops.toList l i st fps K →
    ∃ (st' : AS) (fs : List Fp) (rs : List (Nat × Rec)), K st' (fs.reverse ++ fps) ∧ st'.nx = st.nx ∧ Chain ops st.ss rs st'.ss ∧ (∀ x, x ∈ rs → Valid C.P C.G ops n st.nx x.1 x.2) ∧ rs.map (·.1) = List.range' i l.length ∧
      fs.length = rs.length ∧ ∀ (j : Nat) (f : Fp) (x : Nat × Rec), fs[j]? = some f → rs[j]? = some x → f.i = x.1 ∧ FpOf ops f x.2 := by
  intro l
  induction l with
  | nil =>
    intro i st fps K _ h
    exact ⟨st, [], [], h, rfl, rfl, (fun x hx => by cases hx), rfl, rfl, fun j f x hf => by simp at hf⟩
  | cons o r ih =>
    intro i st fps K hl h
    have hi : ops[i]? = some o := by have := hl 0; simpa using this.symm
    have hdst : dstOf ops i = o.dst := by simp [dstOf, hi]
    have step : ∀ (st1 : AS) (f : Fp) (x : Rec), st1.nx = st.nx → f.i = i → x.pre st.ss → st1.ss = st.ss.upd o.dst x.out x.upd → Valid C.P C.G ops n st.nx i x → FpOf ops f x → opsK C n ops.toList r (i + 1) st1 (f :: fps) K →
        ∃ (st' : AS) (fs : List Fp) (rs : List (Nat × Rec)), K st' (fs.reverse ++ fps) ∧ st'.nx = st.nx ∧ Chain ops st.ss rs st'.ss ∧ (∀ x, x ∈ rs → Valid C.P C.G ops n st.nx x.1 x.2) ∧ rs.map (·.1) = List.range' i (o :: r).length ∧
          fs.length = rs.length ∧ ∀ (j : Nat) (f : Fp) (x : Nat × Rec), fs[j]? = some f → rs[j]? = some x → f.i = x.1 ∧ FpOf ops f x.2 := by
      intro st1 f x hnx hfi hpre hss hval hfp h
      obtain ⟨st', fs, rs, h1, h2, h3, h4, h5, h6, h7⟩ := ih (i + 1) st1 (f :: fps) K (fun j => by have h9 := hl (j + 1); rw [show i + (j + 1) = i + 1 + j by omega] at h9; simpa using h9) h
      refine ⟨st', f :: fs, (i, x) :: rs, by simpa using h1, h2.trans hnx, ⟨hpre, by rw [hdst, ← hss]; exact h3⟩, fun y hy => ?_, ?_, by simp [h6], fun j g y hg hy => ?_⟩
      · rcases List.mem_cons.1 hy with rfl | hy
        · exact hval
        · rw [← hnx]; exact h4 y hy
      · simp [h5, List.range'_succ]
      · cases j with
        | zero => simp at hg hy; subst hg hy; exact ⟨hfi, hfp⟩
        | succ j => exact h7 j g y (by simpa using hg) (by simpa using hy)
    rw [opsK_cons] at h
    rcases guardK_out (C := C) (n := n) h with ⟨h, hw⟩ | ⟨h, hw⟩
    · replace h := dstK_out h; obtain ⟨h, hd⟩ := h
      replace h := opK_out (n := n) (atK_out h); obtain ⟨out, upd, rd, h, hv⟩ := h
      replace h := consK_out h; obtain ⟨st1, h, hss, hnx⟩ := h
      refine step st1 _ ⟨insOf ops o st, fpOf st rd, out, upd⟩ hnx rfl ⟨fun t av ht => (mem_insOf.1 ht).2, fun k e hk => (mem_fpOf.1 hk).2⟩ hss (valid_run hi hd hw hv) ⟨hi, fun t av ht => (mem_insOf.1 ht).1, fun k e hk => (mem_fpOf.1 hk).1, fun k hk => look_some_mem hk⟩ h
    · replace h := dstK_out h; obtain ⟨h, hd⟩ := h
      replace h := consK_out h; obtain ⟨st1, h, hss, hnx⟩ := h
      refine step st1 _ ⟨insOf ops o st, [], .d (.x undef), []⟩ hnx rfl ⟨fun t av ht => (mem_insOf.1 ht).2, fun k e hk => by cases hk⟩ hss (valid_skip hi hd hw) ⟨hi, fun t av ht => (mem_insOf.1 ht).1, (fun k e hk => by cases hk), fun k hk => by simp [look] at hk⟩ h

end Go.Eng

/-
  Bodies: sequences, tests, blocks, loops; what one view says of another; functions and their contracts.
-/
namespace Go.Eng
open Go.RowKit (Below)

def conflB (ops : Array Oper) (x y : Fp) : Bool :=
  meetN x.o.dst.toList (y.o.looksAt ops) || meetN x.o.dst.toList y.o.dst.toList || meetN y.o.dst.toList (x.o.looksAt ops) || meetN x.wr (y.rd ++ y.wr) || meetN y.wr x.rd

/-- A path of edges, of at most f steps. -/
def reachB (l : List Oper) (f x : Nat) (o : Oper) : Bool :=
  f.rec (fun _ => false) (fun _ ih o => o.after.toList.any fun e => Region.binds .any e && (Nat.beq e.on x || match l[e.on]? with | some o' => ih o' | none => false)) o
def edgeB (ops : Array Oper) (x y : Fp) : Bool := (y.o.after.toList.any fun e => Nat.beq e.on x.i && Region.binds .any e) || reachB ops.toList 4 x.i y.o

theorem reachB_out {ops : Array Oper} {x : Nat} : ∀ (f : Nat) {j : Nat} {o : Oper}, ops[j]? = some o → reachB ops.toList f x o = true → Before ops x j
  | 0, _, _, _, h => by simp [reachB] at h
  | f + 1, j, o, ho, h => by
    have h : (o.after.toList.any fun e => Region.binds .any e && (Nat.beq e.on x || match ops.toList[e.on]? with | some o' => reachB ops.toList f x o' | none => false)) = true := h
    obtain ⟨e, he, h1⟩ := List.any_eq_true.1 h
    simp only [Bool.and_eq_true, Bool.or_eq_true] at h1
    have he : e ∈ o.after := by simpa using he
    rcases h1 with ⟨h1, h2 | h2⟩
    · rw [← Nat.eq_of_beq_eq_true h2]; exact .edge ho he h1
    · split at h2
      · rename_i o' ho'
        exact .step ho he h1 (reachB_out f (by simpa using ho') h2)
      · cases h2

/-- fps: the latest first. -/
def sepB (ops : Array Oper) : List Fp → Bool
  | [] => true
  | y :: r => (r.all fun x => !conflB ops x y || edgeB ops x y) && sepB ops r

def backB (l : List Oper) (i : Nat) : Bool :=
  match l with | [] => true | o :: r => (o.after.toList.all fun e => !Region.binds .any e || Nat.blt e.on i) && backB r (i + 1)

theorem backB_get {l : List Oper} {i : Nat} (h : backB l i = true) : ∀ j o, l[j]? = some o → ∀ e ∈ o.after, Region.binds .any e = true → e.on < i + j := by
  induction l generalizing i with
  | nil => intro j o hj; simp at hj
  | cons x r ih =>
    intro j o hj e he hb
    simp only [backB, Bool.and_eq_true] at h
    cases j with
    | zero =>
      simp at hj; subst hj
      have := List.all_eq_true.1 h.1 e (by simpa using he)
      simp [hb, Nat.blt] at this
      omega
    | succ j =>
      have := ih h.2 j o (by simpa using hj) e he hb
      omega

/-- A region that draws its order: what it touches is ordered. -/
structure DrawOk (C : Ctx) (ops : Array Oper) (fps : List Fp) : Prop where
  out : (C.P.follows .mixedOrders && sepB ops fps && backB ops.toList 0) = true
theorem draw_ok {C : Ctx} {ops : Array Oper} {fps : List Fp} (h : (C.P.follows .mixedOrders && sepB ops fps && backB ops.toList 0) = true) : DrawOk C ops fps := ⟨h⟩

noncomputable def regK (C : Ctx) (n : Nat) (ops : Array Oper) (draw : Bool) (st : AS) (K : AS → Prop) : Prop :=
  opsK C n ops.toList ops.toList 0 st [] fun st' fps => match draw with
    | true => DrawOk C ops fps ∧ bumpK st' ops.toList.length K
    | false => bumpK st' ops.toList.length K

theorem apart_of {ops : Array Oper} {fs : List Fp} {rs : List (Nat × Rec)} (hlen : fs.length = rs.length) (h : ∀ (j : Nat) (f : Fp) (x : Nat × Rec), fs[j]? = some f → rs[j]? = some x → f.i = x.1 ∧ FpOf ops f x.2)
    (hp : rs.Pairwise fun x y => x.1 < y.1) (hs : sepB ops fs.reverse = true) : rs.Pairwise (Apart ops) := by
  have key : ∀ (l : List Fp), sepB ops l = true → l.Pairwise fun y x => conflB ops x y = true → edgeB ops x y = true := by
    intro l
    induction l with
    | nil => intro _; exact List.Pairwise.nil
    | cons y r ih =>
      intro h
      simp only [sepB, Bool.and_eq_true] at h
      refine List.pairwise_cons.2 ⟨fun x hx hc => ?_, ih h.2⟩
      have := List.all_eq_true.1 h.1 x hx
      simpa [hc] using this
  have hpw := List.pairwise_reverse.1 (key _ hs)
  rw [List.pairwise_iff_getElem] at hpw hp ⊢
  intro i j hi hj hij
  have hi' : i < fs.length := by omega
  have hj' : j < fs.length := by omega
  have h1 := h i fs[i] rs[i] (by simp) (by simp)
  have h2 := h j fs[j] rs[j] (by simp) (by simp)
  have h3 := hpw i j hi' hj' hij
  refine ⟨hp i j hi hj hij, ?_⟩
  obtain ⟨e1, a1, b1, c1, d1⟩ := h1
  obtain ⟨e2, a2, b2, c2, d2⟩ := h2
  have hd1 : dstOf ops rs[i].1 = fs[i].o.dst := by rw [← e1]; simp [dstOf, a1]
  have hd2 : dstOf ops rs[j].1 = fs[j].o.dst := by rw [← e2]; simp [dstOf, a2]
  cases hc : conflB ops fs[i] fs[j] with
  | true =>
    have he := h3 hc
    have ho : ops[rs[j].1]? = some fs[j].o := by rw [← e2]; exact a2
    unfold edgeB at he
    rcases Bool.or_eq_true_iff.1 he with he | he
    · obtain ⟨e, he1, he2⟩ := List.any_eq_true.1 he
      simp only [Bool.and_eq_true] at he2
      refine .inr ?_
      rw [← e1, ← Nat.eq_of_beq_eq_true he2.1]
      exact .edge ho (by simpa using he1) he2.2
    · refine .inr ?_
      rw [← e1]
      exact reachB_out 4 ho he
  | false =>
    refine .inl ?_
    rw [hd1, hd2]
    simp only [conflB, Bool.or_eq_false_iff] at hc
    obtain ⟨⟨⟨⟨q1, q2⟩, q3⟩, q4⟩, q5⟩ := hc
    have no : ∀ {l m : List Nat} {x : Nat}, meetN l m = false → x ∈ l → x ∉ m := by
      intro l m x h hx hm
      have := meetN_iff.2 ⟨x, hx, hm⟩
      rw [h] at this; cases this
    refine ⟨fun d hd => ⟨fun av hm => no q1 (by rw [hd]; simp) (b2 d av hm), fun hd' => no q2 (x := d) (by rw [hd]; simp) (by rw [hd']; simp)⟩, fun d hd av hm => no q3 (by rw [hd]; simp) (b1 d av hm), fun k hk => ⟨fun e he => ?_, ?_⟩, fun k hk e he => ?_⟩
    · exact no q4 (d1 k hk) (List.mem_append_left _ (c2 k e he))
    · cases hl : look rs[j].2.upd k with
      | none => rfl
      | some oe => exact absurd (List.mem_append_right _ (d2 k (by rw [hl]; rfl))) (no q4 (d1 k hk))
    · exact no q5 (d2 k hk) (c1 k e he)

theorem regK_sound {C : Ctx} {n id : Nat} {ops : Array Oper} {draw : Bool} {st : AS} {K : AS → Prop} {X0 : Nat → Prop} {F : Fr} {w0 : World} {α : Nat → Loc} {a : Act} {w : World} {Q : Exit → Act → World → Prop}
    (hs : Sim C.G X0 F w0 n (names st) α st.ss a w) (h : regK C n ops draw st K) (hq : ∀ st' α' a' w', K st' → Sim C.G X0 F w0 n (names st') α' st'.ss a' w' → Q .normal a' w') :
    (Code.region id ops draw).wp C.P Q a w := by
  unfold regK at h
  obtain ⟨st', fs, rs, h, hnx, hch, hval, hix, hlen, hfp⟩ := opsK_out ops.toList 0 st [] _ (fun j => by simp) h
  rw [List.append_nil] at h
  have hN : ∀ k, names st k → PD st.nx (fun _ => False) k := fun k hk => .inl hk
  have hpair : rs.Pairwise fun x y => x.1 < y.1 := by
    have : (rs.map (·.1)).Pairwise (· < ·) := by rw [hix]; exact List.pairwise_lt_range'
    exact (List.pairwise_map.1 this)
  have hlt : ∀ x, x ∈ rs → x.1 < ops.size := by
    intro x hx
    have : x.1 ∈ rs.map (·.1) := List.mem_map.2 ⟨x, hx, rfl⟩
    rw [hix, List.mem_range'] at this
    obtain ⟨i, hi, he⟩ := this
    simp at hi; omega
  have hall : ∀ j, j < ops.size → ∃ x, x ∈ rs ∧ x.1 = j := by
    intro j hj
    have : j ∈ rs.map (·.1) := by rw [hix, List.mem_range']; exact ⟨j, by simpa using hj, by omega⟩
    obtain ⟨x, hx, he⟩ := List.mem_map.1 this
    exact ⟨x, hx, he⟩
  have fin : ∀ st2 : AS, st2.ss = st'.ss → st2.nx = st.nx + ops.toList.length → K st2 → ∀ α' a' w', Sim C.G X0 F w0 n (PD st.nx fun j => False ∨ ∃ x, x ∈ rs ∧ x.1 = j) α' st'.ss a' w' → Q .normal a' w' := by
    intro st2 h1 h2 hk α' a' w' hS
    refine hq st2 α' a' w' hk ?_
    rw [h1]
    refine hS.mono ?_
    rintro k (hk | ⟨j, hj | ⟨x, hx, hxj⟩, hf⟩)
    · simp only [names, h2]; omega
    · exact hj.elim
    · have := hlt x hx
      simp only [names, h2, fam, Array.length_toList] at *; omega
  cases draw with
  | false =>
    refine wp_region ?_
    have h := bumpK_out h
    rw [hnx] at h
    have := seq_sound (Q := Q) rs st.ss (fun _ => False) α a w hval hch hpair (fun _ _ h => h) (hs.mono hN) (fin ⟨st'.env, st'.own, st.nx + ops.toList.length⟩ rfl rfl h)
    rw [hix] at this
    simpa [List.range_eq_range'] using this
  | true =>
    obtain ⟨hd, h⟩ := h
    replace h := bumpK_out h
    rw [hnx] at h
    replace hd := hd.out
    simp only [Bool.and_eq_true] at hd
    obtain ⟨⟨hm, hsep⟩, hback⟩ := hd
    refine wp_region_any hm ?_
    have hsd : Sim C.G X0 F w0 n (PD st.nx fun _ => False) α st.ss a { w with drawn := w.drawn + 1 } := by
      have := hs.mono hN
      exact ⟨this.size, this.defers, fun t av ht => RdA.mono (w := w) (w' := { w with drawn := w.drawn + 1 }) (p := fun _ => True) (X := XX α st.ss.own X0) (X' := XX α st.ss.own X0) (α := α) (α' := α) (fun b o (hb : w.heap[b]? = some o) hn => ⟨hb, hn⟩) (fun _ _ => rfl) (this.env t av ht) ((this.ok t av ht).mono fun _ _ => trivial), this.ok,
        fun k e hk => Own.mono (w := w) (w' := { w with drawn := w.drawn + 1 }) (p := fun _ => True) (X := XX α st.ss.own X0) (X' := XX α st.ss.own X0) (α := α) (α' := α) (fun b o (hb : w.heap[b]? = some o) hn => ⟨hb, hn⟩) (fun _ _ => rfl) trivial (fun x hx => ((this.oko k e hk).2 x hx).mono fun _ _ => trivial) (fun _ => rfl) (this.own k e hk), this.oko, this.inj, this.mine, this.x0, this.fr, this.grow, this.os, this.tape, this.output, this.gl, this.fix, this.nil0⟩
    refine any_sound (S' := st'.ss) (N := st.nx) (fun j o hj => by have := backB_get hback j o (by simpa using hj); simpa using this) ops.size rs _ st.ss (fun _ => False) α a _ ?_ (by simp) ?_ hlt ?_ hval hch (apart_of hlen hfp hpair hsep) (fun _ _ h => h) hsd (fin ⟨st'.env, st'.own, st.nx + ops.toList.length⟩ rfl rfl h)
    · have : rs.length = ops.size := by have := congrArg List.length hix; simpa using this
      omega
    · intro j hj
      simp only [Array.getD_eq_getD_getElem?, Array.getElem?_replicate, hj, if_true, Option.getD_some, true_iff]
      exact hall j hj
    · intro j o hj hg
      have hlt : j < ops.size := (Array.getElem?_eq_some_iff.1 hj).1
      simp [Array.getD_eq_getD_getElem?, Array.getElem?_replicate, hlt] at hg

end Go.Eng

/-
  Bodies and functions: the reckoning of a body speaks true; a function's contract out of its body's reckoning.
-/
namespace Go.Eng
open Go.RowKit (Below)

structure CutK {ι : Type} (inv : ι → Prop) (s : ι → AS) (st' : AS) : Prop where
  out : ∃ (y : ι) (ρ : List (Nat × Nat)), inv y ∧ LeK ρ st' (s y)
structure SeqK (A : (AS → Prop) → AS → Prop) (B : AS → Prop) (st : AS) : Prop where
  out : A B st ∨ ∃ (ι : Type) (inv : ι → Prop) (s : ι → AS), A (CutK inv s) st ∧ ∀ y, inv y → B (s y)
structure AgainK {ι : Type} (inv : ι → Prop) (s : ι → AS) (μ : ι → Nat) (x : ι) (st' : AS) : Prop where
  out : ∃ (y : ι) (ρ : List (Nat × Nat)), inv y ∧ μ y < μ x ∧ LeK ρ st' (s y)
structure LoopK (A : (AS → Prop) → AS → Prop) (st : AS) : Prop where
  out : ∃ (ι : Type) (inv : ι → Prop) (s : ι → AS) (μ : ι → Nat) (x0 : ι) (ρ : List (Nat × Nat)), inv x0 ∧ LeK ρ st (s x0) ∧ ∀ x, inv x → A (AgainK inv s μ x) (s x)

theorem seq_on {A : (AS → Prop) → AS → Prop} {B : AS → Prop} {st : AS} (h : A B st) : SeqK A B st := ⟨.inl h⟩
/-- A cut with what holds there. -/
theorem seq_inv {A : (AS → Prop) → AS → Prop} {B : AS → Prop} {st : AS} {ι : Type} (inv : ι → Prop) (s : ι → AS) (h : A (CutK inv s) st) (h1 : ∀ y, inv y → B (s y)) : SeqK A B st :=
  ⟨.inr ⟨ι, inv, s, h, h1⟩⟩
theorem cut_inv {ι : Type} {inv : ι → Prop} {s : ι → AS} {st' : AS} (y : ι) (ρ : List (Nat × Nat)) (hi : inv y) (h : LeK ρ st' (s y)) : CutK inv s st' := ⟨y, ρ, hi, h⟩
theorem loop_inv {A : (AS → Prop) → AS → Prop} {st : AS} {ι : Type} (inv : ι → Prop) (s : ι → AS) (μ : ι → Nat) (x0 : ι) (h0 : inv x0) (ρ : List (Nat × Nat)) (h : LeK ρ st (s x0))
    (h1 : ∀ x, inv x → A (AgainK inv s μ x) (s x)) : LoopK A st := ⟨ι, inv, s, μ, x0, ρ, h0, h, h1⟩
theorem again {ι : Type} {inv : ι → Prop} {s : ι → AS} {μ : ι → Nat} {x : ι} {st' : AS} (y : ι) (ρ : List (Nat × Nat)) (hi : inv y) (h : μ y < μ x) (h1 : LeK ρ st' (s y)) :
    AgainK inv s μ x st' := ⟨y, ρ, hi, h, h1⟩

def isBig : Code → Bool
  | .cond .. | .block .. | .loop .. => true
  | .seq a b => isBig a || isBig b
  | .scope b => isBig b
  | _ => false

def WP : Type := (AS → Prop) → (Nat → AS → Prop) → (AS → Prop) → AS → Prop

def seqStep (big : Bool) (A B : WP) (Kn : AS → Prop) (Ke : Nat → AS → Prop) (Kr : AS → Prop) (st : AS) : Prop :=
  match big with
  | false => A (fun s => B Kn Ke Kr s) Ke Kr st
  | true => SeqK (fun K s => A K Ke Kr s) (fun s => B Kn Ke Kr s) st
/-- Whatever the condition may be. -/
structure BothK (a b : Prop) : Prop where
  out : a ∧ b
theorem both {a b : Prop} (h1 : a) (h2 : b) : BothK a b := ⟨h1, h2⟩
def condK (v : AV) (a b : Prop) : Prop := match v with | .ab => BothK a b | v => boolK v fun t => BIf t a b
theorem condK_out {v : AV} {a b : Prop} (h : condK v a b) : ∃ t, (∀ w α X u, RdA w α X v u → t = none ∨ u = .bool (t.getD false)) ∧ match t with | none => v = .ab ∧ a ∧ b | some true => a | some false => b := by
  unfold condK at h
  split at h
  · exact ⟨none, fun _ _ _ _ _ => .inl rfl, rfl, h.out⟩
  · unfold boolK at h
    split at h
    · rename_i t _
      refine ⟨some t, fun w α X u hr => .inr hr.dinv.binv, ?_⟩
      rcases h.out with ⟨rfl, h⟩ | ⟨rfl, h⟩ <;> exact h
    · cases h
def condStep (c : Operand) (A B : WP) (Kn : AS → Prop) (Ke : Nat → AS → Prop) (Kr : AS → Prop) (st : AS) : Prop := evK st c fun v => condK v (A Kn Ke Kr st) (B Kn Ke Kr st)
def blockStep (id : Nat) (A : WP) (Kn : AS → Prop) (Ke : Nat → AS → Prop) (Kr : AS → Prop) (st : AS) : Prop := A Kn (fun i s => match Nat.beq i id with | true => Kn s | false => Ke i s) Kr st
def loopStep (A : WP) (_ : AS → Prop) (Ke : Nat → AS → Prop) (Kr : AS → Prop) (st : AS) : Prop := LoopK (fun K s => A K Ke Kr s) st

/-- What is left to show at a view, ahead of a piece of code. (By the recursor itself: see opsK.) -/
noncomputable def wpC (C : Ctx) (n : Nat) (c : Code) : WP :=
  Code.rec (motive := fun _ => WP)
    (fun Kn _ _ st => Kn st)
    (fun _ ops draw Kn _ _ st => regK C n ops draw st Kn)
    (fun a _ A B => seqStep (isBig a) A B)
    (fun c _ _ A B => condStep c A B)
    (fun id _ A => blockStep id A)
    (fun _ A => loopStep A)
    (fun _ _ _ _ _ _ => fun _ _ _ _ => False)
    (fun id _ Ke _ st => Ke id st)
    (fun _ A => A)
    (fun _ Kn _ _ st => Kn st)
    (fun _ _ _ _ _ => False)
    (fun _ _ Kr st => Kr st)
    (fun _ _ _ _ _ => False) c

theorem wpC_seq (C : Ctx) (n : Nat) (a b : Code) (Kn : AS → Prop) (Ke : Nat → AS → Prop) (Kr : AS → Prop) (st : AS) : wpC C n (.seq a b) Kn Ke Kr st = (match isBig a with
    | false => wpC C n a (fun s => wpC C n b Kn Ke Kr s) Ke Kr st
    | true => SeqK (fun K s => wpC C n a K Ke Kr s) (fun s => wpC C n b Kn Ke Kr s) st) := rfl
theorem wpC_cond (C : Ctx) (n : Nat) (c : Operand) (a b : Code) (Kn : AS → Prop) (Ke : Nat → AS → Prop) (Kr : AS → Prop) (st : AS) :
    wpC C n (.cond c a b) Kn Ke Kr st = evK st c fun v => condK v (wpC C n a Kn Ke Kr st) (wpC C n b Kn Ke Kr st) := rfl
theorem wpC_block (C : Ctx) (n : Nat) (id : Nat) (b : Code) (Kn : AS → Prop) (Ke : Nat → AS → Prop) (Kr : AS → Prop) (st : AS) :
    wpC C n (.block id b) Kn Ke Kr st = wpC C n b Kn (fun i s => match Nat.beq i id with | true => Kn s | false => Ke i s) Kr st := rfl
theorem wpC_loop (C : Ctx) (n : Nat) (b : Code) (Kn : AS → Prop) (Ke : Nat → AS → Prop) (Kr : AS → Prop) (st : AS) :
    wpC C n (.loop b) Kn Ke Kr st = LoopK (fun K s => wpC C n b K Ke Kr s) st := rfl

theorem wpC_sound {C : Ctx} {n : Nat} {X0 : Nat → Prop} {F : Fr} {w0 : World} (hF : ∀ k l, F.fix k = some l → k < 16) : ∀ (c : Code) (Kn : AS → Prop) (Ke : Nat → AS → Prop) (Kr : AS → Prop) (st : AS) (α : Nat → Loc) (a : Act) (w : World) (Q : Exit → Act → World → Prop),
    wpC C n c Kn Ke Kr st → Sim C.G X0 F w0 n (names st) α st.ss a w →
    (∀ st' α' a' w', Kn st' → Sim C.G X0 F w0 n (names st') α' st'.ss a' w' → Q .normal a' w') →
    (∀ i st' α' a' w', Ke i st' → Sim C.G X0 F w0 n (names st') α' st'.ss a' w' → Q (.exit i) a' w') →
    (∀ st' α' a' w', Kr st' → Sim C.G X0 F w0 n (names st') α' st'.ss a' w' → Q .ret a' w') → c.wp C.P Q a w := by
  intro c
  induction c with
  | skip => intro Kn Ke Kr st α a w Q h hs hn _ _; exact wp_skip (hn st α a w h hs)
  | region id ops draw => intro Kn Ke Kr st α a w Q h hs hn _ _; exact regK_sound hs h hn
  | seq x y ihx ihy =>
    intro Kn Ke Kr st α a w Q h hs hn he hr
    have hon : ∀ (B : AS → Prop), (∀ st' α' a' w', B st' → Sim C.G X0 F w0 n (names st') α' st'.ss a' w' → y.wp C.P Q a' w') → wpC C n x B Ke Kr st → (Code.seq x y).wp C.P Q a w := by
      intro B hB h
      refine wp_seq (ihx B Ke Kr st α a w _ h hs ?_ ?_ ?_)
      · intro st' α' a' w' hk hs'; exact hB st' α' a' w' hk hs'
      · intro i st' α' a' w' hk hs'; exact he i st' α' a' w' hk hs'
      · intro st' α' a' w' hk hs'; exact hr st' α' a' w' hk hs'
    have hy : ∀ st' α' a' w', wpC C n y Kn Ke Kr st' → Sim C.G X0 F w0 n (names st') α' st'.ss a' w' → y.wp C.P Q a' w' := fun st' α' a' w' hk hs' => ihy Kn Ke Kr st' α' a' w' Q hk hs' hn he hr
    rw [wpC_seq] at h
    split at h
    · exact hon _ hy h
    · rcases h.out with h | ⟨ι, inv, s, h, h1⟩
      · exact hon _ hy h
      · refine hon _ (fun st' α' a' w' hk hs' => ?_) h
        obtain ⟨z, ρ, hz, hle⟩ := hk.out
        have hs'' := hle.sim hs' hF
        exact hy _ _ a' w' (h1 z hz) hs''
  | cond c x y ihx ihy =>
    intro Kn Ke Kr st α a w Q h hs hn he hr
    rw [wpC_cond] at h
    replace h := evK_out h; obtain ⟨av, h1, h⟩ := h
    obtain ⟨t, ht, h⟩ := condK_out h
    match t, ht, h with
    | none, _, ⟨hab, ha, hb⟩ =>
      subst hab
      have hrd := h1.read hs
      generalize hv : a.eval c = v at hrd
      cases hrd with
      | ab t =>
        refine wp_cond hv ?_
        cases t with
        | true => exact ihx Kn Ke Kr st α a w Q ha hs hn he hr
        | false => exact ihy Kn Ke Kr st α a w Q hb hs hn he hr
    | some true, ht, h =>
      refine wp_cond ((ht w _ _ _ (h1.read hs)).resolve_left (fun e => by cases e)) ?_
      exact ihx Kn Ke Kr st α a w Q h hs hn he hr
    | some false, ht, h =>
      refine wp_cond ((ht w _ _ _ (h1.read hs)).resolve_left (fun e => by cases e)) ?_
      exact ihy Kn Ke Kr st α a w Q h hs hn he hr
  | block id b ih =>
    intro Kn Ke Kr st α a w Q h hs hn he hr
    rw [wpC_block] at h
    refine wp_block (ih _ _ _ st α a w _ h hs ?_ ?_ ?_)
    · intro st' α' a' w' hk hs'; exact hn st' α' a' w' hk hs'
    · intro i st' α' a' w' hk hs'
      simp only [Exit.inBlock]
      cases hb : Nat.beq i id with
      | true =>
        simp only [hb] at hk
        rw [if_pos (Nat.eq_of_beq_eq_true hb)]
        exact hn st' α' a' w' hk hs'
      | false =>
        simp only [hb] at hk
        rw [if_neg (fun e => by subst e; simp at hb)]
        exact he i st' α' a' w' hk hs'
    · intro st' α' a' w' hk hs'; exact hr st' α' a' w' hk hs'
  | loop b ih =>
    intro Kn Ke Kr st α a w Q h hs hn he hr
    rw [wpC_loop] at h
    obtain ⟨ι, inv, s, μ, x0, ρ, h0, hle, h⟩ := h.out
    refine wp_loop_ghost (fun m a w => ∃ x α, inv x ∧ μ x = m ∧ Sim C.G X0 F w0 n (names (s x)) α (s x).ss a w) (μ x0) ?_ ?_
    · have hs' := hle.sim hs hF
      exact ⟨x0, _, h0, rfl, hs'⟩
    · rintro m a w ⟨x, α, hx, rfl, hsx⟩
      refine ih _ Ke Kr (s x) α a w _ (h x hx) hsx ?_ ?_ ?_
      · rintro st' α' a' w' ⟨y, ρ, hy, hlt, hle⟩ hs'
        have hs'' := hle.sim hs' hF
        exact ⟨μ y, hlt, y, _, hy, rfl, hs''⟩
      · intro i st' α' a' w' hk hs'; exact he i st' α' a' w' hk hs'
      · intro st' α' a' w' hk hs'; exact hr st' α' a' w' hk hs'
  | exit id => intro Kn Ke Kr st α a w Q h hs _ he _; exact wp_exit (he id st α a w h hs)
  | label l => intro Kn Ke Kr st α a w Q h hs hn _ _; exact wp_label (hn st α a w h hs)
  | ret => intro Kn Ke Kr st α a w Q h hs _ _ hr; exact wp_ret (hr st α a w h hs)
  | rangeFunc f ps x y _ _ => intro Kn Ke Kr st α a w Q h; exact h.elim
  | scope b ih =>
    intro Kn Ke Kr st α a w Q h hs hn he hr
    refine wp_scope_straight (ih Kn Ke Kr st α a w _ h hs ?_ ?_ ?_)
    · intro st' α' a' w' hk hs'; exact hn st' α' a' w' hk hs'
    · intro i st' α' a' w' hk hs'; exact he i st' α' a' w' hk hs'
    · intro st' α' a' w' hk hs'; exact hr st' α' a' w' hk hs'
  | goto l => intro Kn Ke Kr st α a w Q h; exact h.elim
  | refuse s => intro Kn Ke Kr st α a w Q h; exact h.elim

/-! ### Functions -/

def rvK (C : Ctx) (st : AS) (r : ResultVar) (K : D → Prop) : Prop :=
  match r with
  | .tmp t => lookK st.env t fun a => toDK st a fun d _ => K d
  | .cell t T => lookK st.env t fun p => loadK C st T p fun a _ => toDK st a fun d _ => K d

def rvsK (C : Ctx) (st : AS) : List ResultVar → (List D → Prop) → Prop
  | [], K => K []
  | r :: l, K => rvK C st r fun d => rvsK C st l fun ds => K (d :: ds)

def rvRun (tmps : Array Value) : ResultVar → Sem Value
  | .tmp t => pure (tmps.getD t undef)
  | .cell a t => do loadVar t (← asAddr (tmps.getD a undef))

theorem rvK_out {C : Ctx} {n : Nat} {st : AS} {r : ResultVar} {K : D → Prop} (h : rvK C st r K) :
    ∃ d, K d ∧ ∀ {X0 F w0 α a w}, Sim C.G X0 F w0 n (names st) α st.ss a w → ∃ v, (rvRun a.tmps r).run C.P w = .ok v w ∧ Rd w X0 d v := by
  have fin : ∀ {av : AV} {K : D → Prop}, (toDK st av fun d _ => K d) → ∃ d, K d ∧ ∀ {X0 F w0 α a w v}, Sim C.G X0 F w0 n (names st) α st.ss a w → RdA w α (XX α st.ss.own X0) av v → Rd w X0 d v := by
    intro av K h
    obtain ⟨d, us, h, ht⟩ := toDK_out h
    refine ⟨d, h, fun {X0 F w0 α a w v} hs hr => ht.rd w α _ X0 v hr (fun k _ e he => hs.own k e he) (fun b hb => .inr hb) fun k hk hnil hx => ?_⟩
    obtain ⟨e, he⟩ := ht.ent k hk
    exact (hs.mine k e he hnil).2 hx
  cases r with
  | tmp t =>
    simp only [rvK] at h
    replace h := lookK_out h; obtain ⟨av, hl, h⟩ := h
    obtain ⟨d, hk, hr⟩ := fin h
    exact ⟨d, hk, fun {X0 F w0 α a w} hs => ⟨_, rfl, hr hs (hs.env t av hl)⟩⟩
  | cell t T =>
    simp only [rvK] at h
    replace h := lookK_out h; obtain ⟨p, hl, h⟩ := h
    obtain ⟨av, rd, h, hrun⟩ := load_core (n := n) h
    obtain ⟨d, hk, hr⟩ := fin h
    refine ⟨d, hk, fun {X0 F w0 α a w} hs => ?_⟩
    obtain ⟨v, ⟨b, hb, hv⟩, hrv, _⟩ := hrun hs (fun k _ e he => he) (hs.env t p hl)
    refine ⟨v, ?_, hr hs hrv⟩
    simp [rvRun, hb, asAddr, hv]

theorem rvsK_out {C : Ctx} {n : Nat} {st : AS} {rs : List ResultVar} {K : List D → Prop} (h : rvsK C st rs K) :
    ∃ ds, K ds ∧ ∀ {X0 F w0 α a w}, Sim C.G X0 F w0 n (names st) α st.ss a w → ∃ vs, (rs.mapM (rvRun a.tmps)).run C.P w = .ok vs w ∧ ds.length = vs.length ∧
      ∀ (j : Nat) (d : D) (v : Value), ds[j]? = some d → vs[j]? = some v → Rd w X0 d v := by
  induction rs generalizing K with
  | nil => exact ⟨[], h, fun {X0 F w0 α a w} hs => ⟨[], by simp, rfl, by simp⟩⟩
  | cons r l ih =>
    simp only [rvsK] at h
    obtain ⟨d, h, hr⟩ := rvK_out (n := n) h
    obtain ⟨ds, h, hrs⟩ := ih h
    refine ⟨d :: ds, h, fun {X0 F w0 α a w} hs => ?_⟩
    obtain ⟨v, hv, hd⟩ := hr hs
    obtain ⟨vs, hvs, hl, hds⟩ := hrs hs
    refine ⟨v :: vs, ?_, by simp [hl], fun j d' v' h1 h2 => ?_⟩
    · simp [List.mapM_cons, hv, hvs]
    · cases j with
      | zero => simp at h1 h2; subst h1 h2; exact hd
      | succ j => exact hds j d' v' (by simpa using h1) (by simpa using h2)

theorem results_run {P : Program} {fn : Func} {tmps : Array Value} {w : World} {vs : List Value} (h : (fn.results.toList.mapM (rvRun tmps)).run P w = .ok vs w) :
    ∃ v, (results fn tmps).run P w = .ok v w ∧ (∀ x, vs = [x] → v = x) ∧ (vs.length ≠ 1 → v = .tuple vs.toArray) := by
  have e : (results fn tmps) = (do let vs ← (fn.results.mapM (rvRun tmps)); pure (if h : vs.size = 1 then vs[0] else .tuple vs)) := by
    unfold results
    congr 1
  rw [Array.mapM_eq_mapM_toList] at e
  rw [e]
  by_cases hl : vs.length = 1
  · obtain ⟨x, rfl⟩ : ∃ x, vs = [x] := by
      match vs, hl with
      | [x], _ => exact ⟨x, rfl⟩
    exact ⟨x, by simp [h], fun y hy => by cases hy; rfl, fun hn => absurd rfl hn⟩
  · exact ⟨.tuple vs.toArray, by simp [h, hl], fun y hy => by subst hy; simp at hl, fun _ => rfl⟩

def argEnv : Nat → List D → List (Nat × AV)
  | _, [] => []
  | i, d :: ds => (i, .d d) :: argEnv (i + 1) ds

theorem argEnv_look : ∀ (ds : List D) (i t : Nat) (av : AV), look (argEnv i ds) t = some av → ∃ d, i ≤ t ∧ ds[t - i]? = some d ∧ av = .d d
  | [], i, t, av, h => by simp [argEnv, look] at h
  | d :: ds, i, t, av, h => by
    simp only [argEnv, look] at h
    split at h
    · rename_i hb
      have := Nat.eq_of_beq_eq_true hb
      subst this
      cases h
      exact ⟨d, Nat.le_refl _, by simp, rfl⟩
    · obtain ⟨d', h1, h2, h3⟩ := argEnv_look ds (i + 1) t av h
      refine ⟨d', by omega, ?_, h3⟩
      rw [show t - i = (t - (i + 1)) + 1 by omega]
      simpa using h2

def start (ds : List D) : AS := ⟨argEnv 0 ds, [], 1⟩

def ends (C : Ctx) (rs : List ResultVar) (out : List D) (st : AS) : Prop := rvsK C st rs fun ds => ds = out

theorem start_sim {C : Ctx} {fn : Func} {n : Nat} {ds : List D} {w : World} {X : Nat → Prop} {vs : Array Value} (hn : fn.ntmps = n) (hle : ds.length ≤ n) (hX : ∀ b, X b → b < w.heap.size) (hG : ∀ x, x ∈ C.G → x.g < w.heap.size ∧ ¬ X x.g ∧ GlobAt w X x) (hl : ds.length = vs.size)
    (hd : ∀ (j : Nat) (d : D) (v : Value), ds[j]? = some d → vs[j]? = some v → Rd w X d v) :
    Sim C.G X ⟨fun _ => False, fun _ => none, []⟩ w n (names (start ds)) (fun _ => ⟨0, 0, 0, true, .slice none 0 0⟩) (start ds).ss { tmps := vs ++ Array.replicate (fn.ntmps - vs.size) undef, defers := [] } w := by
  refine ⟨by simp [hn]; omega, rfl, fun t av ht => ?_, fun t av ht => ?_, fun k e hk => ?_, fun k e hk => ?_, fun k e k' e' hk => ?_, fun k e hk => ?_, hX, fun _ _ _ => rfl, Nat.le_refl _, rfl, rfl, rfl, fun x hx => ?_, (fun k l hk => by cases hk), ⟨rfl, rfl, by show 14 / 16 < 1; decide⟩⟩
  · obtain ⟨d, _, h2, rfl⟩ := argEnv_look ds 0 t av ht
    simp only [Nat.sub_zero] at h2
    have hlt : t < vs.size := by rw [← hl]; exact (List.getElem?_eq_some_iff.1 h2).1
    refine .d d _ ((hd t d ((vs ++ Array.replicate (fn.ntmps - vs.size) undef).getD t undef) h2 ?_).mono fun b o hb hn => ⟨hb, ?_⟩)
    · simp [Array.getD_eq_getD_getElem?, Array.getElem?_append, hlt]
    · rintro (⟨k, e, hk, _⟩ | hx)
      · simp [start, AS.ss, look] at hk
      · exact hn hx
  · obtain ⟨d, _, h2, rfl⟩ := argEnv_look ds 0 t av ht
    exact .d d
  · simp [start, AS.ss, look] at hk
  · simp [start, AS.ss, look] at hk
  · simp [start, AS.ss, look] at hk
  · simp [start, AS.ss, look] at hk
  · obtain ⟨h1, h2, h3⟩ := hG x hx
    refine ⟨h1, id, h2, ?_⟩
    obtain ⟨arr, T, fz, h4, hsz, h5, h6⟩ := h3
    refine ⟨arr, T, fz, h4, hsz, h5, fun j m d c hj hm => ?_⟩
    obtain ⟨v, hv, hr⟩ := h6 j m d c hj hm
    exact ⟨v, hv, hr.mono fun b o hb hn => ⟨hb, fun h => hn (h.elim id False.elim)⟩⟩

theorem ret_reads {X : Nat → Prop} {w' : World} {rs : List D} {us : List Value} {v : Value} (hlen : rs.length = us.length) (hrd : ∀ (j : Nat) (d : D) (v : Value), rs[j]? = some d → us[j]? = some v → Rd w' X d v)
    (he1 : ∀ x, us = [x] → v = x) (he2 : us.length ≠ 1 → v = .tuple us.toArray) : RdA w' (fun _ => ⟨0, 0, 0, false, .bool false⟩) X (retAV rs) v := by
  unfold retAV
  split
  · rename_i r
    obtain ⟨u, rfl⟩ : ∃ u, us = [u] := by
      match us, hlen with
      | [x], _ => exact ⟨x, rfl⟩
    rw [he1 u rfl]
    exact .d r u (hrd 0 r u rfl rfl)
  · rename_i hne
    have : us.length ≠ 1 := by
      intro h
      rw [← hlen] at h
      match rs, h with
      | [x], _ => exact hne x rfl
    rw [he2 this]
    refine .tup _ _ (by simp [hlen]) fun j c v h1 h2 => ?_
    simp only [List.getElem?_map, Option.map_eq_some_iff] at h1
    obtain ⟨d, h1, rfl⟩ := h1
    exact .d d v (hrd j d v h1 (by simpa using h2))

/-- A function's contract out of its body's reckoning. -/
theorem Does.mk {C : Ctx} {f : FuncId} {fn : Func} {body : Code} {n : Nat} {ds rs : List D} (hf : C.P.funcs[f]? = some fn) (h1 : (fn.name == "runtime.NumGoroutine") = false)
    (hb : fn.body = some body) (hn : fn.ntmps = n) (hle : ds.length ≤ n)
    (h : wpC C n body (ends C fn.results.toList rs) (fun _ _ => False) (ends C fn.results.toList rs) (start ds)) : Does C f ds rs := by
  refine ⟨⟨fn, hf, h1, by simp [hb]⟩, fun w X vs hX hG hl hd => calls_of_wp hf hb ?_⟩
  have hs := start_sim (n := n) (fn := fn) hn hle hX hG hl hd
  have fin : ∀ st' α' a' w', ends C fn.results.toList rs st' → Sim C.G X ⟨fun _ => False, fun _ => none, []⟩ w n (names st') α' st'.ss a' w' →
      a'.defers = [] ∧ ∃ v, (results fn a'.tmps).run C.P w' = .ok v w' ∧ ∃ v', Ending.returned v = .returned v' ∧ RdA w' (fun _ => ⟨0, 0, 0, false, .bool false⟩) X (retAV rs) v' ∧ Below w.heap.size w w' := by
    intro st' α' a' w' hk hs'
    obtain ⟨out, rfl, hrun⟩ := rvsK_out (n := n) hk
    obtain ⟨us, hus, hlen, hrd⟩ := hrun hs'
    obtain ⟨v, hv, he1, he2⟩ := results_run hus
    refine ⟨hs'.defers, v, hv, v, rfl, ?_, ?_⟩
    · unfold retAV
      split
      · rename_i r
        obtain ⟨u, rfl⟩ : ∃ u, us = [u] := by
          match us, hlen with
          | [x], _ => exact ⟨x, rfl⟩
        rw [he1 u rfl]
        exact .d r u (hrd 0 r u rfl rfl)
      · rename_i hne
        have : us.length ≠ 1 := by
          intro h
          rw [← hlen] at h
          match out, h with
          | [x], _ => exact hne x rfl
        rw [he2 this]
        refine .tup _ _ (by simp [hlen]) fun j c v h1 h2 => ?_
        simp only [List.getElem?_map, Option.map_eq_some_iff] at h1
        obtain ⟨d, h1, rfl⟩ := h1
        exact .d d v (hrd j d v h1 (by simpa using h2))
    · exact ⟨hs'.os, hs'.tape, hs'.output, hs'.grow, fun b hb => hs'.fr b hb id⟩
  refine wpC_sound (fun _ _ h => by cases h) body _ _ _ (start ds) _ _ w _ h hs ?_ ?_ ?_
  · intro st' α' a' w' hk hs'; exact fin st' α' a' w' hk hs'
  · intro i st' α' a' w' hk; exact hk.elim
  · intro st' α' a' w' hk hs'; exact fin st' α' a' w' hk hs'


end Go.Eng

/-
  The contract of a function that is lent rows, out of its body's reckoning.
-/
namespace Go.Eng
open Go.RowKit (Below)

def rvAK (C : Ctx) (st : AS) (r : ResultVar) (K : AV → Prop) : Prop :=
  match r with
  | .tmp t => lookK st.env t K
  | .cell t T => lookK st.env t fun p => loadK C st T p fun a _ => K a

def rvsAK (C : Ctx) (st : AS) : List ResultVar → (List AV → Prop) → Prop
  | [], K => K []
  | r :: l, K => rvAK C st r fun a => rvsAK C st l fun as => K (a :: as)

theorem rvAK_out {C : Ctx} {n : Nat} {st : AS} {r : ResultVar} {K : AV → Prop} (h : rvAK C st r K) :
    ∃ av, K av ∧ ∀ {X0 F w0 α a w}, Sim C.G X0 F w0 n (names st) α st.ss a w → ∃ v, (rvRun a.tmps r).run C.P w = .ok v w ∧ RdA w α (XX α st.ss.own X0) av v ∧ av.ok (names st) := by
  cases r with
  | tmp t =>
    simp only [rvAK] at h
    replace h := lookK_out h; obtain ⟨av, hl, h⟩ := h
    exact ⟨av, h, fun {X0 F w0 α a w} hs => ⟨_, rfl, hs.env t av hl, hs.ok t av hl⟩⟩
  | cell t T =>
    simp only [rvAK] at h
    replace h := lookK_out h; obtain ⟨p, hl, h⟩ := h
    obtain ⟨av, rd, h, hrun⟩ := load_core (n := n) h
    refine ⟨av, h, fun {X0 F w0 α a w} hs => ?_⟩
    obtain ⟨v, ⟨b, hb, hv⟩, hrv, hok⟩ := hrun hs (fun k _ e he => he) (hs.env t p hl)
    exact ⟨v, by simp [rvRun, hb, asAddr, hv], hrv, hok⟩

theorem rvsAK_out {C : Ctx} {n : Nat} {st : AS} {rs : List ResultVar} {K : List AV → Prop} (h : rvsAK C st rs K) :
    ∃ as, K as ∧ as.length = rs.length ∧ ∀ {X0 F w0 α a w}, Sim C.G X0 F w0 n (names st) α st.ss a w → ∃ vs, (rs.mapM (rvRun a.tmps)).run C.P w = .ok vs w ∧ as.length = vs.length ∧
      ∀ (j : Nat) (d : AV) (v : Value), as[j]? = some d → vs[j]? = some v → RdA w α (XX α st.ss.own X0) d v ∧ d.ok (names st) := by
  induction rs generalizing K with
  | nil => exact ⟨[], h, rfl, fun {X0 F w0 α a w} hs => ⟨[], by simp, rfl, by simp⟩⟩
  | cons r l ih =>
    simp only [rvsAK] at h
    obtain ⟨d, h, hr⟩ := rvAK_out (n := n) h
    obtain ⟨ds, h, hlr, hrs⟩ := ih h
    refine ⟨d :: ds, h, by simp [hlr], fun {X0 F w0 α a w} hs => ?_⟩
    obtain ⟨v, hv, hd⟩ := hr hs
    obtain ⟨vs, hvs, hl, hds⟩ := hrs hs
    refine ⟨v :: vs, ?_, by simp [hl], fun j d' v' h1 h2 => ?_⟩
    · simp [List.mapM_cons, hv, hvs]
    · cases j with
      | zero => simp at h1 h2; subst h1 h2; exact hd
      | succ j => exact hds j d' v' (by simpa using h1) (by simpa using h2)

structure EndK (rs : List AV) (own' : List (Nat × Option Ent)) (st' : AS) (as : List AV) : Prop where
  out : ∃ ρ, LeK ρ ⟨argA 0 as, st'.own, st'.nx⟩ ⟨argA 0 rs, own', 2⟩
theorem end_ok {rs : List AV} {own' : List (Nat × Option Ent)} {st' : AS} {as : List AV} (ρ : List (Nat × Nat)) (h : LeK ρ ⟨argA 0 as, st'.own, st'.nx⟩ ⟨argA 0 rs, own', 2⟩) : EndK rs own' st' as := ⟨ρ, h⟩

def endsH (C : Ctx) (vars : List ResultVar) (rs : List AV) (own' : List (Nat × Option Ent)) (st : AS) : Prop := rvsAK C st vars fun as => EndK rs own' st as

theorem retOf_run {vs : List Value} {v : Value} (h1 : ∀ x, vs = [x] → v = x) (h2 : vs.length ≠ 1 → v = .tuple vs.toArray) : v = retOf vs.toArray := by
  unfold retOf
  by_cases hl : vs.length = 1
  · obtain ⟨x, rfl⟩ : ∃ x, vs = [x] := by
      match vs, hl with
      | [x], _ => exact ⟨x, rfl⟩
    simp [h1 x rfl]
  · simp [hl, h2 hl]

theorem DoesW.mk {C : Ctx} {f : FuncId} {fn : Func} {body : Code} {n : Nat} {bs : List AV} {own : List (Nat × Option Ent)} {rs : List AV} {own' : List (Nat × Option Ent)} (hf : C.P.funcs[f]? = some fn) (h1 : (fn.name == "runtime.NumGoroutine") = false)
    (hb : fn.body = some body) (hn : fn.ntmps = n) (hle : bs.length ≤ n) (hrl : rs.length = fn.results.size)
    (h : wpC C n body (endsH C fn.results.toList rs own') (fun _ _ => False) (endsH C fn.results.toList rs own') ⟨argA 0 bs, own, 1⟩) : DoesW C f bs own rs own' := by
  refine ⟨⟨fn, hf, h1, by simp [hb]⟩, fun w X F α vs hF hs0 => ?_⟩
  have main : ∀ R, R = (fun e w' => ∃ α' us, e = Ending.returned (retOf us) ∧ Sim C.G X F w rs.length (names ⟨argA 0 rs, own', 2⟩) α' (AS.ss ⟨argA 0 rs, own', 2⟩) ⟨us, []⟩ w') →
      body.wp C.P (bodyPost C.P fn R) { tmps := vs ++ Array.replicate (fn.ntmps - vs.size) undef, defers := [] } w := ?_
  · exact ⟨calls_of_wp hf hb (main _ rfl), fun u => callsD_of_wp hf hb (main _ rfl)⟩
  rintro R rfl
  have hvs := hs0.size
  simp only at hvs
  have hs : Sim C.G X F w n (names ⟨argA 0 bs, own, 1⟩) α (AS.ss ⟨argA 0 bs, own, 1⟩) { tmps := vs ++ Array.replicate (fn.ntmps - vs.size) undef, defers := [] } w := by
    refine { hs0 with size := by simp [hn]; omega, defers := hs0.defers, env := fun t av ht => ?_ }
    have := hs0.env t av ht
    obtain ⟨_, h2⟩ := argA_look bs 0 t av ht
    simp only [Nat.sub_zero] at h2
    have hlt : t < vs.size := by rw [hvs]; exact (List.getElem?_eq_some_iff.1 h2).1
    have e : (vs ++ Array.replicate (fn.ntmps - vs.size) undef).getD t undef = vs.getD t undef := by
      simp [Array.getD_eq_getD_getElem?, Array.getElem?_append, hlt]
    simp only [e]; exact this
  have fin : ∀ st' α' a' w', endsH C fn.results.toList rs own' st' → Sim C.G X F w n (names st') α' st'.ss a' w' →
      a'.defers = [] ∧ ∃ v, (results fn a'.tmps).run C.P w' = .ok v w' ∧ ∃ α' us, Ending.returned v = .returned (retOf us) ∧
        Sim C.G X F w rs.length (names ⟨argA 0 rs, own', 2⟩) α' (AS.ss ⟨argA 0 rs, own', 2⟩) ⟨us, []⟩ w' := by
    intro st' α' a' w' hk hs'
    obtain ⟨as, ⟨ρ, hle⟩, hal, hrun⟩ := rvsAK_out (n := n) hk
    obtain ⟨us, hus, hlen, hrd⟩ := hrun hs'
    obtain ⟨v, hv, he1, he2⟩ := results_run hus
    have hul : us.length = fn.results.size := by rw [← hlen, hal]; simp
    have hS : Sim C.G X F w rs.length (names ⟨argA 0 as, st'.own, st'.nx⟩) α' (AS.ss ⟨argA 0 as, st'.own, st'.nx⟩) ⟨us.toArray, []⟩ w' := by
      have hget : ∀ t av, look (argA 0 as) t = some av → as[t]? = some av ∧ us[t]? = some (us.toArray.getD t undef) := by
        intro t av ht
        obtain ⟨_, h2⟩ := argA_look as 0 t av ht
        simp only [Nat.sub_zero] at h2
        have hlt : t < us.length := by rw [← hlen]; exact (List.getElem?_eq_some_iff.1 h2).1
        exact ⟨h2, by simp [hlt]⟩
      refine { hs' with size := by simp [hul, hrl], defers := hs0.defers, env := fun t av ht => ?_, ok := fun t av ht => ?_ }
      · obtain ⟨g1, g2⟩ := hget t av ht
        exact (hrd t av _ g1 g2).1
      · obtain ⟨g1, g2⟩ := hget t av ht
        exact (hrd t av _ g1 g2).2
    exact ⟨hs'.defers.trans hs0.defers.symm, v, hv, _, us.toArray, by rw [retOf_run he1 he2], hle.sim hS hF⟩
  refine wpC_sound hF body _ _ _ _ _ _ w _ h hs ?_ ?_ ?_
  · intro st' α' a' w' hk hs'; exact fin st' α' a' w' hk hs'
  · intro i st' α' a' w' hk; exact hk.elim
  · intro st' α' a' w' hk hs'; exact fin st' α' a' w' hk hs'

theorem DoesH.mk {C : Ctx} {f : FuncId} {fn : Func} {body : Code} {n : Nat} {bs : List AV} {own : List (Nat × Option Ent)} {rs : List AV} {own' : List (Nat × Option Ent)} (hf : C.P.funcs[f]? = some fn) (h1 : (fn.name == "runtime.NumGoroutine") = false)
    (hb : fn.body = some body) (hn : fn.ntmps = n) (hle : bs.length ≤ n) (hrl : rs.length = fn.results.size)
    (h : wpC C n body (endsH C fn.results.toList rs own') (fun _ _ => False) (endsH C fn.results.toList rs own') ⟨argA 0 bs, own, 1⟩) : DoesH C f bs own rs own' :=
  (DoesW.mk hf h1 hb hn hle hrl h).toH

end Go.Eng

/-
  A function that defers one call of a closure over its result.
-/
namespace Go.Eng
open Go.RowKit (Below)

/-- What a function with one deferred call leaves: the call is made, then the results are read. -/
def endsD (C : Ctx) (g : FuncId) (vars : List ResultVar) (rs : List D) (st : AS) : Prop :=
  CallHK C (CallsW C.P g) st st.nx g [.op 15 0 0] fun out upd _ => consK st none out upd fun st2 => bumpK st2 1 fun st2 => ends C vars rs st2

def emptyK (l : List (Nat × AV)) (t : Nat) : Bool := match l with | [] => true | x :: r => match Nat.beq t x.1 with | true => false | false => emptyK r t
theorem emptyK_out {l : List (Nat × AV)} {t : Nat} (h : emptyK l t = true) : look l t = none := by
  induction l with
  | nil => rfl
  | cons x r ih =>
    obtain ⟨y, v⟩ := x
    simp only [emptyK] at h
    simp only [look]
    split at h
    · cases h
    · rename_i hb; simp only [hb]; exact ih h

theorem wp_defer {P : Program} {id : Nat} {o1 o2 : Oper} {g : FuncId} {x t : Nat} {call : Call} (h1 : o1.op = .makeFunc (.func g) #[] #[.tmp x]) (h1g : o1.guard = none) (h1d : o1.dst = some t)
    (h2 : o2.op = .defer call) (h2g : o2.guard = none) (h2d : o2.dst = none) (hc : call.callee = .value (.tmp t)) (hca : call.args = #[]) {Q : Exit → Act → World → Prop} {a : Act} {w : World} (ht : t < a.tmps.size)
    (h : Q .normal { (a.put (some t) (.func (.func g) #[] #[a.eval (.tmp x)])) with defers := ⟨.fn (.func g) #[a.eval (.tmp x)], #[]⟩ :: a.defers } w) : (Code.region id #[o1, o2] false).wp P Q a w := by
  refine wp_region ?_
  have e1 : (execOp a.eval o1).run P w = .ok (.value (.func (.func g) #[] #[a.eval (.tmp x)])) w := by simp [execOp, h1, Instr.makeFunc]
  have e2 : (execOp (a.put (some t) (.func (.func g) #[] #[a.eval (.tmp x)])).eval o2).run P w = .ok (.defer ⟨.fn (.func g) #[a.eval (.tmp x)], #[]⟩) w := by
    have : (a.put (some t) (.func (.func g) #[] #[a.eval (.tmp x)])).eval (.tmp t) = .func (.func g) #[] #[a.eval (.tmp x)] := by
      show (a.put (some t) (.func (.func g) #[] #[a.eval (.tmp x)])).tmps.getD t undef = _
      exact put_get a t _ ht
    simp [execOp, h2, resolve, hc, hca, this, Deferred.ofValue]
  have hr : List.range (#[o1, o2] : Array Oper).size = [0, 1] := by rfl
  rw [hr]
  have w1 : ∀ y, Region.wanted o1 y = true := fun y => by simp [Region.wanted, h1g]
  have w2 : ∀ y, Region.wanted o2 y = true := fun y => by simp [Region.wanted, h2g]
  unfold wpOps
  show (if Region.wanted o1 _ = true then _ else _)
  rw [w1, if_pos rfl]
  left
  show o1.wp P a w _ Q
  unfold Oper.wp
  rw [e1]
  show wpOps P #[o1, o2] Q [1] (a.put o1.dst _) w
  rw [h1d]
  unfold wpOps
  show (if Region.wanted o2 _ = true then _ else _)
  rw [w2, if_pos rfl]
  left
  show o2.wp P _ w _ Q
  unfold Oper.wp
  rw [e2]
  show wpOps P #[o1, o2] Q [] (Act.put _ o2.dst undef) w
  rw [h2d]
  exact h

theorem Does.mk_defer {C : Ctx} {f : FuncId} {fn : Func} {A rest : Code} {id n g x t : Nat} {o1 o2 : Oper} {call : Call} {ds rs : List D} (hf : C.P.funcs[f]? = some fn) (hn1 : (fn.name == "runtime.NumGoroutine") = false)
    (hb : fn.body = some (.seq A (.seq (.region id #[o1, o2] false) rest))) (hn : fn.ntmps = n) (hle : ds.length ≤ n)
    (h1 : o1.op = .makeFunc (.func g) #[] #[.tmp x]) (h1g : o1.guard = none) (h1d : o1.dst = some t) (h2 : o2.op = .defer call) (h2g : o2.guard = none) (h2d : o2.dst = none) (hc : call.callee = .value (.tmp t)) (hca : call.args = #[]) (htn : t < n)
    (s : AS) (ρ : List (Nat × Nat)) (hA : wpC C n A (fun st' => LeD ρ st' s) (fun _ _ => False) (fun _ => False) (start ds)) (hx : look s.env x = some (.op 15 0 0)) (ht : emptyK s.env t = true)
    (h : wpC C n rest (endsD C g fn.results.toList rs) (fun _ _ => False) (endsD C g fn.results.toList rs) s) : Does C f ds rs := by
  refine ⟨⟨fn, hf, hn1, by simp [hb]⟩, fun w X vs hX hG hl hd => calls_of_wp_defers hf hb ?_⟩
  have hs := start_sim (n := n) (fn := fn) hn hle hX hG hl hd
  refine wp_seq (wpC_sound (fun _ _ h => by cases h) A _ _ _ (start ds) _ _ w _ hA hs ?_ (fun i st' α' a' w' hk => hk.elim) (fun st' α' a' w' hk => hk.elim))
  intro st' α' a' w' hle' hs'
  have hS := hle'.sim hs' (fun _ _ h => by cases h)
  have hnx := Nat.le_of_ble_eq_true hle'.nx
  generalize (fun k => α' (rho ρ k)) = α at hS
  have hrx := hS.env x _ hx
  have hva : a'.eval (.tmp x) = .pointer (some ⟨(α 15).blk, (α 15).off + 0 * (α 15).sz + 0, none⟩) := by
    show a'.tmps.getD x undef = _
    generalize a'.tmps.getD x undef = v at hrx
    cases hrx; rfl
  have ht' : ∀ j av, s.ss.env j = some av → j ≠ t := by
    rintro j av hj rfl
    have := emptyK_out ht
    simp only [AS.ss] at hj
    rw [this] at hj; cases hj
  refine wp_seq (wp_defer h1 h1g h1d h2 h2g h2d hc hca (by rw [hS.size]; exact htn) ?_)
  rw [hva]
  generalize hp : (Value.pointer (some ⟨(α 15).blk, (α 15).off + 0 * (α 15).sz + 0, none⟩)) = pv at *
  let dv : Deferred := ⟨.fn (.func g) #[pv], #[]⟩
  let F' : Fr := ⟨fun _ => False, fun k => if k = 15 then some (α 15) else none, [dv]⟩
  have hdef : a'.defers = [] := hS.defers
  have hS' : Sim C.G X F' w n (names s) α s.ss { (a'.put (some t) (.func (.func g) #[] #[pv])) with defers := dv :: a'.defers } w' := by
    refine { hS with size := by show (a'.put _ _).tmps.size = n; rw [put_size]; exact hS.size, defers := by show dv :: a'.defers = [dv]; rw [hdef], env := fun j av hj => ?_, gl := hS.gl, fix := fun k l hk => ?_ }
    · show RdA w' α _ av ((a'.put (some t) (.func (.func g) #[] #[pv])).tmps.getD j undef)
      rw [put_get_ne _ _ _ _ (fun e => ht' j av hj (Option.some.inj e).symm)]
      exact hS.env j av hj
    · simp only [F'] at hk
      split at hk
      · rename_i hk15; cases hk; subst hk15; exact ⟨rfl, by show 15 / 16 < s.nx; omega⟩
      · cases hk
  have fin : ∀ st1 α1 a1 w1, endsD C g fn.results.toList rs st1 → Sim C.G X F' w n (names st1) α1 st1.ss a1 w1 →
      Leaves C.P fn a1.tmps (fun e w' => ∃ v, e = Ending.returned v ∧ RdA w' (fun _ => ⟨0, 0, 0, false, .bool false⟩) X (retAV rs) v ∧ Below w.heap.size w w') a1.defers .returning w1 := by
    intro st1 α1 a1 w1 hk hs1
    obtain ⟨out, upd, rd, hk, ⟨gn, hgf, hg1, hg2⟩, _, hpt⟩ := callh_point (CA := CallsW C.P g) (fun h hr => CallsW.mono h hr) hk
    obtain ⟨st2, hk, hss, hnx2⟩ := consK_out hk
    replace hk := bumpK_out hk
    have h15 := (hs1.fix 15 (α 15) (by simp [F'])).1
    have := hpt n X F' w (names st1) α1 st1.ss a1 w1 hs1 (fun k _ e he => he) (fun k hf hk => by simp only [fam, names] at hf hk; omega) #[pv] rfl (fun j av v hj hv => by
      cases j with
      | zero =>
        simp at hj hv
        subst hj hv
        rw [← hp, ← h15]; exact .op 15 0 0
      | succ j => simp at hj) none (fun d hd => by cases hd)
    have hd1 : a1.defers = [dv] := hs1.defers
    rw [hd1]
    refine leaves_cons (f := g) (args := #[pv]) (by simp) ?_ ((this.2 .returning).mono ?_)
    · have := enters_fn hgf hg1 hg2 w1 #[pv]
      simp [invoke, this]
    · rintro e u' w2 ⟨rfl, v, rfl, α2, hs2⟩
      simp only [settle]
      have hs3 : Sim C.G X F' w n (names ⟨st2.env, st2.own, st2.nx + 1⟩) α2 (AS.ss ⟨st2.env, st2.own, st2.nx + 1⟩) a1 w2 := by
        have e3 : (AS.ss ⟨st2.env, st2.own, st2.nx + 1⟩) = st2.ss := rfl
        rw [e3, hss]
        refine hs2.mono fun k hk => ?_
        simp only [names, fam] at hk ⊢
        omega
      obtain ⟨outs, rfl, hrun⟩ := rvsK_out (n := n) hk
      obtain ⟨us, hus, hlen, hrd⟩ := hrun hs3
      obtain ⟨v, hv, he1, he2⟩ := results_run hus
      exact ⟨v, hv, v, rfl, ret_reads hlen hrd he1 he2, ⟨hs3.os, hs3.tape, hs3.output, hs3.grow, fun b hb => hs3.fr b hb fun h => h⟩⟩
  refine wpC_sound (F := F') (fun k l hk => by simp only [F'] at hk; split at hk; omega; cases hk) rest _ _ _ s α _ w' _ h hS' ?_ ?_ ?_
  · intro st' α' a' w' hk hs'; exact fin st' α' a' w' hk hs'
  · intro i st' α' a' w' hk; exact hk.elim
  · intro st' α' a' w' hk hs'; exact fin st' α' a' w' hk hs'

end Go.Eng

/-
  Small helpers of the proofs by reckoning.
-/
namespace Go.Eng

theorem wrap_u8 {e : Int} (h1 : 0 ≤ e) (h2 : e ≤ 255) : IntKind.u8.wrap e = e := by
  simp only [IntKind.wrap, IntKind.bits, IntKind.signed]
  simp
  omega
theorem ar8 {e : Int} {K : Int → Prop} (h : 0 ≤ e ∧ e ≤ 255) (h1 : K e) : ArK .u8 e K := ar_is e (wrap_u8 h.1 h.2) h1
theorem wrap_u64 {e : Int} (h1 : 0 ≤ e) (h2 : e ≤ 18446744073709551615) : IntKind.u64.wrap e = e := by
  simp only [IntKind.wrap, IntKind.bits, IntKind.signed]
  simp
  omega
theorem aru {e : Int} {K : Int → Prop} (h : 0 ≤ e ∧ e ≤ 18446744073709551615) (h1 : K e) : ArK .u64 e K := ar_is e (wrap_u64 h.1 h.2) h1
theorem wrap_u32 {e : Int} (h1 : 0 ≤ e) (h2 : e ≤ 4294967295) : IntKind.u32.wrap e = e := by
  simp only [IntKind.wrap, IntKind.bits, IntKind.signed]
  simp
  omega
theorem aru32 {e : Int} {K : Int → Prop} (h : 0 ≤ e ∧ e ≤ 4294967295) (h1 : K e) : ArK .u32 e K := ar_is e (wrap_u32 h.1 h.2) h1

def ints (l : List Int) : D := .sl 1 (l.map (.i .i64))
theorem getInts {l : List Int} {i : Nat} (h : i < l.length) : (l.map (D.i .i64))[i]? = some (.i .i64 (l.getD i 0)) := by
  simp [h]
def I64 (n : Int) : Prop := -9223372036854775808 ≤ n ∧ n ≤ 9223372036854775807
theorem drop_at {β : Type} {l : List β} {i : Nat} (d : β) (h : i < l.length) : l.drop i = l.getD i d :: l.drop (i + 1) := by
  rw [List.drop_eq_getElem_cons h]; simp [h]
theorem get_d {β : Type} {l : List β} {i : Nat} (d : β) (h : i < l.length) : l[i]? = some (l.getD i d) := by simp [h]

end Go.Eng

/-
  More helpers of the proofs by reckoning.
-/
namespace Go.Eng

/-- The call of a predicate: both ways. -/
theorem call_bool {C : Ctx} {f : FuncId} {ds : List D} {K : List D → Prop} {alt : Prop} {t : Bool} (h : Does C f ds [.b t]) (h1 : t = true → K [.b true]) (h2 : t = false → K [.b false]) : CallK C f ds K alt := by
  cases t with
  | true => exact call_by h (h1 rfl)
  | false => exact call_by h (h2 rfl)
theorem bit_dec {q : Prop} [Decidable q] {A B : Prop} (h1 : q → A) (h2 : ¬ q → B) : BIf (decide q) A B := by
  by_cases h : q
  · rw [decide_eq_true h]; exact h1 h
  · rw [decide_eq_false h]; exact h2 h
theorem bit_cases {t : Bool} {A B : Prop} (h1 : t = true → A) (h2 : t = false → B) : BIf t A B := by
  cases t with
  | true => exact h1 rfl
  | false => exact h2 rfl
theorem toNat_lt (c : UInt8) : c.toNat < 256 := c.toNat_lt

/-- The place of the first byte c. -/
def idxO (c : UInt8) : List UInt8 → Option Nat
  | [] => none
  | x :: r => if x = c then some 0 else (idxO c r).map (· + 1)
theorem idxO_lib (l : List UInt8) (c : UInt8) : Lib.indexByte l c = match idxO c l with | some i => (i : Int) | none => -1 := by
  induction l with
  | nil => rfl
  | cons x r ih =>
    unfold Lib.indexByte idxO
    by_cases h : x = c
    · simp [h]
    · simp only [beq_iff_eq, h, if_false, ih]
      cases idxO c r with
      | none => rfl
      | some i =>
        simp only [Option.map_some]
        rw [if_neg (show ¬ ((i : Int) = -1) by omega)]; simp
theorem idxO_some {l : List UInt8} {c : UInt8} {i : Nat} (h : idxO c l = some i) : i < l.length ∧ l[i]? = some c ∧ ∀ j, j < i → l[j]? ≠ some c := by
  induction l generalizing i with
  | nil => cases h
  | cons x r ih =>
    simp only [idxO] at h
    split at h
    · rename_i hx
      cases h
      exact ⟨by simp, by simp [hx], fun j hj => by omega⟩
    · rename_i hx
      cases hr : idxO c r with
      | none => rw [hr] at h; cases h
      | some k =>
        rw [hr] at h; simp only [Option.map_some, Option.some.injEq] at h; subst h
        obtain ⟨h1, h2, h3⟩ := ih hr
        refine ⟨by simpa using h1, by simpa using h2, fun j hj => ?_⟩
        cases j with
        | zero => simpa using hx
        | succ j => simpa using h3 j (by omega)
theorem idxO_none {l : List UInt8} {c : UInt8} (h : idxO c l = none) : c ∉ l := by
  induction l with
  | nil => simp
  | cons x r ih =>
    simp only [idxO] at h
    split at h
    · cases h
    · rename_i hx
      cases hr : idxO c r with
      | none => simp only [List.mem_cons, not_or]; exact ⟨fun e => hx e.symm, ih hr⟩
      | some k => rw [hr] at h; cases h
theorem idxO_mem {l : List UInt8} {c : UInt8} : idxO c l = none ↔ c ∉ l := by
  refine ⟨idxO_none, fun h => ?_⟩
  cases hr : idxO c l with
  | none => rfl
  | some k => exact absurd (List.mem_of_getElem? (idxO_some hr).2.1) h

/-- Cut at the first byte c. -/
def cutF (c : UInt8) (l : List UInt8) : List UInt8 × List UInt8 × Bool :=
  match idxO c l with | some i => (l.take i, l.drop (i + 1), true) | none => (l, [], false)

theorem all_step {β : Type} {l : List β} {p : β → Bool} {i : Nat} (hi : i < l.length) (h : (l.take i).all p = true) (hp : p l[i] = true) : (l.take (i + 1)).all p = true := by
  rw [List.take_succ_eq_append_getElem hi, List.all_append, h]; simp [hp]
theorem all_fail {β : Type} {l : List β} {p : β → Bool} {i : Nat} (hi : i < l.length) (hp : p l[i] = false) : l.all p = false := by
  rw [Bool.eq_false_iff]; intro h
  have := List.all_eq_true.1 h _ (List.getElem_mem hi)
  rw [hp] at this; cases this
theorem all_end {β : Type} {l : List β} {p : β → Bool} {i : Nat} (hi : l.length ≤ i) (h : (l.take i).all p = true) : l.all p = true := by
  rwa [List.take_of_length_le hi] at h

def spF (c : UInt8) : Bool := decide (c.toNat = 32 ∨ c.toNat = 9)
def trimLF (l : List UInt8) : List UInt8 := l.dropWhile spF
def trimRF (l : List UInt8) : List UInt8 := (l.reverse.dropWhile spF).reverse
def trimF (l : List UInt8) : List UInt8 := trimRF (trimLF l)
theorem trimLF_len (l : List UInt8) : (trimLF l).length ≤ l.length := (List.dropWhile_sublist _).length_le
theorem trimRF_len (l : List UInt8) : (trimRF l).length ≤ l.length := by
  unfold trimRF; rw [List.length_reverse]
  have := (List.dropWhile_sublist spF (l := l.reverse)).length_le
  simpa using this
theorem trimF_len (l : List UInt8) : (trimF l).length ≤ l.length := Nat.le_trans (trimRF_len _) (trimLF_len _)
theorem trimLF_step {l : List UInt8} (h : 0 < l.length) (hs : spF l[0] = true) : trimLF (l.drop 1) = trimLF l := by
  cases l with
  | nil => simp at h
  | cons x r => simp only [trimLF, List.drop_one, List.tail_cons]; rw [List.dropWhile_cons]; simp at hs; simp [hs]
theorem trimLF_stop {l : List UInt8} (h : 0 < l.length) (hs : spF l[0] = false) : trimLF l = l := by
  cases l with
  | nil => rfl
  | cons x r => simp only [trimLF]; rw [List.dropWhile_cons]; simp at hs; simp [hs]
theorem trimRF_snoc (r : List UInt8) (x : UInt8) : trimRF (r ++ [x]) = if spF x then trimRF r else r ++ [x] := by
  unfold trimRF
  rw [List.reverse_append]; simp only [List.reverse_cons, List.reverse_nil, List.nil_append, List.singleton_append]
  rw [List.dropWhile_cons]
  split <;> simp
theorem last_snoc {l : List UInt8} (h : 0 < l.length) : l = l.take (l.length - 1) ++ [l[l.length - 1]'(by omega)] := by
  conv => lhs; rw [← List.take_length (l := l)]
  have h2 := List.take_succ_eq_append_getElem (l := l) (i := l.length - 1) (by omega)
  rw [show l.length - 1 + 1 = l.length by omega] at h2
  exact h2
theorem trimRF_step {l : List UInt8} (h : 0 < l.length) (hs : spF (l[l.length - 1]'(by omega)) = true) : trimRF (l.take (l.length - 1)) = trimRF l := by
  conv => rhs; rw [last_snoc h]
  rw [trimRF_snoc, if_pos hs]
theorem trimRF_stop {l : List UInt8} (h : 0 < l.length) (hs : spF (l[l.length - 1]'(by omega)) = false) : trimRF l = l := by
  conv => lhs; rw [last_snoc h]
  rw [trimRF_snoc, if_neg (by rw [hs]; simp)]
  exact (last_snoc h).symm

def letF (c : UInt8) : Bool := decide ((65 ≤ c.toNat ∧ c.toNat ≤ 90) ∨ (97 ≤ c.toNat ∧ c.toNat ≤ 122) ∨ (48 ≤ c.toNat ∧ c.toNat ≤ 57))
def specL : List UInt8 := [33, 35, 36, 37, 38, 39, 42, 43, 45, 46, 94, 95, 96, 124, 126]
def tokcF (c : UInt8) : Bool := letF c || decide (c ∈ specL)
def tokenF (l : List UInt8) : Bool := l.all tokcF && decide (l ≠ [])
def viscF (c : UInt8) : Bool := decide (c.toNat = 9 ∨ 32 ≤ c.toNat ∧ c.toNat ≠ 127)
def visF (l : List UInt8) : Bool := l.all viscF
def valueF (l : List UInt8) : Bool := visF l && decide (trimF l = l)
/-- A header field. -/
abbrev Fld := List UInt8 × List UInt8
def fldD (f : Fld) : D := .agg [.s f.1, .s f.2]
def validF (f : Fld) : Bool := tokenF f.1 && valueF f.2

def strs (l : List (List UInt8)) : D := .sl 1 (l.map .s)
theorem idxO_at {l : List UInt8} {c : UInt8} {i : Nat} (h : l[i]? = some c) (h2 : c ∉ l.take i) : idxO c l = some i := by
  induction l generalizing i with
  | nil => simp at h
  | cons x r ih =>
    cases i with
    | zero => simp at h; simp [idxO, h]
    | succ i =>
      simp only [List.take_succ_cons, List.mem_cons, not_or] at h2
      simp only [idxO, if_neg (show ¬ x = c from fun e => h2.1 e.symm), ih (by simpa using h) h2.2, Option.map_some]

/-- The pieces between the bytes c. -/
def splitF (c : UInt8) : List UInt8 → List (List UInt8)
  | [] => [[]]
  | x :: r => if x = c then [] :: splitF c r else match splitF c r with | [] => [[x]] | h :: t => (x :: h) :: t
theorem splitF_ne (c : UInt8) : ∀ l, splitF c l ≠ []
  | [] => by simp [splitF]
  | x :: r => by
    simp only [splitF]
    split
    · simp
    · split <;> simp
theorem splitF_none {c : UInt8} : ∀ {l : List UInt8}, c ∉ l → splitF c l = [l]
  | [], _ => rfl
  | x :: r, h => by
    simp only [List.mem_cons, not_or] at h
    simp only [splitF, if_neg (show ¬ x = c from fun e => h.1 e.symm), splitF_none h.2]
theorem splitF_seg {c : UInt8} {r : List UInt8} : ∀ {l : List UInt8}, c ∉ l → splitF c (l ++ c :: r) = l :: splitF c r
  | [], _ => by simp [splitF]
  | x :: l, h => by
    simp only [List.mem_cons, not_or] at h
    simp only [List.cons_append, splitF, if_neg (show ¬ x = c from fun e => h.1 e.symm), splitF_seg h.2]
theorem splitF_len (c : UInt8) : ∀ l, (splitF c l).length = l.count c + 1
  | [] => rfl
  | x :: r => by
    simp only [splitF]
    by_cases h : x = c
    · simp [h, splitF_len c r]
    · have := splitF_len c r
      have hne := splitF_ne c r
      simp only [if_neg h]
      cases hs : splitF c r with
      | nil => exact absurd hs hne
      | cons y t => rw [hs] at this; simp at this ⊢; rw [this, List.count_cons_of_ne h]
theorem splitF_le (c : UInt8) (l : List UInt8) : (splitF c l).length ≤ l.length + 1 := by
  rw [splitF_len]; have := List.count_le_length (a := c) (l := l); omega
theorem splitF_mem {c : UInt8} : ∀ {l x : List UInt8}, x ∈ splitF c l → x.length ≤ l.length
  | [], x, h => by simp [splitF] at h; simp [h]
  | y :: r, x, h => by
    simp only [splitF] at h
    split at h
    · rcases List.mem_cons.1 h with rfl | h
      · simp
      · have := splitF_mem h; simp; omega
    · split at h
      · simp at h; simp [h]
      · rename_i z t hs
        rcases List.mem_cons.1 h with rfl | h
        · have := splitF_mem (c := c) (l := r) (x := z) (by rw [hs]; simp)
          simp; omega
        · have := splitF_mem (c := c) (l := r) (x := x) (by rw [hs]; exact List.mem_cons_of_mem _ h)
          simp; omega

/-- A field's line. -/
def fparseF (l : List UInt8) : Fld × Int :=
  if (cutF 58 l).2.2 = true ∧ validF ((cutF 58 l).1, trimF (cutF 58 l).2.1) = true then (((cutF 58 l).1, trimF (cutF 58 l).2.1), 0) else (([], []), 2)
theorem take_drop_at {l : List UInt8} {i : Nat} {c : UInt8} (h : l[i]? = some c) : l = l.take i ++ c :: l.drop (i + 1) := by
  obtain ⟨h1, h2⟩ := List.getElem?_eq_some_iff.1 h
  conv => lhs; rw [← List.take_append_drop i l]
  rw [List.drop_eq_getElem_cons h1, h2]

theorem encB_at {l : List UInt8} {i : Nat} (h : i < l.length) : (encB l)[i]? = some (.i .u8 ((l[i]).toNat : Int)) := by
  simp [encB, h]
theorem encB_len (l : List UInt8) : (encB l).length = l.length := by simp [encB]
theorem encB_app (a b : List UInt8) : encB a ++ encB b = encB (a ++ b) := by simp [encB]
theorem encB_take (l : List UInt8) (n : Nat) : (encB l).take n = encB (l.take n) := by simp [encB, List.map_take]
theorem encB_drop (l : List UInt8) (n : Nat) : (encB l).drop n = encB (l.drop n) := by simp [encB, List.map_drop]

end Go.Eng

/-
  A function whose second piece ends in a cut: own rows may be frozen there.
-/
namespace Go.Eng
open Go.RowKit (Below)

structure FreezeK (s st' : AS) : Prop where
  out : ∃ ρ, LeK ρ st' s
theorem freeze {s st' : AS} (ρ : List (Nat × Nat)) (h : LeK ρ st' s) : FreezeK s st' := ⟨ρ, h⟩

theorem Does.mk_cut {C : Ctx} {f : FuncId} {fn : Func} {A B R : Code} {n : Nat} {ds rs : List D} (hf : C.P.funcs[f]? = some fn) (h1 : (fn.name == "runtime.NumGoroutine") = false)
    (hb : fn.body = some (.seq A (.seq B R))) (hn : fn.ntmps = n) (hle : ds.length ≤ n) (s : AS)
    (hA : wpC C n A (fun s1 => wpC C n B (FreezeK s) (fun _ _ => False) (fun _ => False) s1) (fun _ _ => False) (fun _ => False) (start ds))
    (h : wpC C n R (ends C fn.results.toList rs) (fun _ _ => False) (ends C fn.results.toList rs) s) : Does C f ds rs := by
  refine ⟨⟨fn, hf, h1, by simp [hb]⟩, fun w X vs hX hG hl hd => calls_of_wp hf hb ?_⟩
  have hs := start_sim (n := n) (fn := fn) hn hle hX hG hl hd
  have fin : ∀ st' α' a' w', ends C fn.results.toList rs st' → Sim C.G X ⟨fun _ => False, fun _ => none, []⟩ w n (names st') α' st'.ss a' w' →
      a'.defers = [] ∧ ∃ v, (results fn a'.tmps).run C.P w' = .ok v w' ∧ ∃ v', Ending.returned v = .returned v' ∧ RdA w' (fun _ => ⟨0, 0, 0, false, .bool false⟩) X (retAV rs) v' ∧ Below w.heap.size w w' := by
    intro st' α' a' w' hk hs'
    obtain ⟨out, rfl, hrun⟩ := rvsK_out (n := n) hk
    obtain ⟨us, hus, hlen, hrd⟩ := hrun hs'
    obtain ⟨v, hv, he1, he2⟩ := results_run hus
    exact ⟨hs'.defers, v, hv, v, rfl, ret_reads hlen hrd he1 he2, ⟨hs'.os, hs'.tape, hs'.output, hs'.grow, fun b hb => hs'.fr b hb id⟩⟩
  refine wp_seq (wpC_sound (fun _ _ h => by cases h) A _ _ _ (start ds) _ _ w _ hA hs ?_ (fun i st' α' a' w' hk => hk.elim) (fun st' α' a' w' hk => hk.elim))
  intro st1 α1 a1 w1 h1' hs1
  refine wp_seq (wpC_sound (fun _ _ h => by cases h) B _ _ _ st1 _ _ w1 _ h1' hs1 ?_ (fun i st' α' a' w' hk => hk.elim) (fun st' α' a' w' hk => hk.elim))
  intro st2 α2 a2 w2 h2 hs2
  obtain ⟨ρ, hle2⟩ := h2.out
  have hs3 := hle2.sim hs2 (fun _ _ h => by cases h)
  refine wpC_sound (fun _ _ h => by cases h) R _ _ _ s _ _ w2 _ h hs3 ?_ (fun i st' α' a' w' hk => hk.elim) ?_
  · intro st' α' a' w' hk hs'; exact fin st' α' a' w' hk hs'
  · intro st' α' a' w' hk hs'; exact fin st' α' a' w' hk hs'

end Go.Eng

