/-
  The reckoning of the operations that leave the world alone, and that it speaks true.
-/
import Derived.Test.YtpogmmcfkdofhaaDoorEngE
namespace Go.Eng

abbrev KO := AV → List (Nat × Option Ent) → List Nat → Prop

def szK (C : Ctx) (T : TypeId) (K : Nat → Prop) : Prop :=
  lookK C.tab T fun ti => match ti.kd with | .slice e => lookK C.tab e fun te => K te.size | _ => False

def evTK (C : Ctx) (st : AS) (T : TypeId) (x : Operand) (K : AV → Prop) : Prop :=
  match x with
  | .const (.slice none 0 0) => szK C T fun sz => K (.nl sz)
  | x => evK st x K

theorem evTK_out {C : Ctx} {st : AS} {T : TypeId} {x : Operand} {K : AV → Prop} (h : evTK C st T x K) : ∃ av, Ev st.ss.env x av ∧ K av := by
  unfold evTK at h
  split at h
  · unfold szK at h
    replace h := lookK_out h; obtain ⟨ti, _, h⟩ := h
    split at h
    · replace h := lookK_out h; obtain ⟨te, _, h⟩ := h
      exact ⟨_, .nl _, h⟩
    · cases h
  · exact evK_out h

theorem Ev.to {o : Oper} {x : Operand} {av : AV} {env env' : Nat → Option AV} (h : Ev env x av) (hx : x ∈ o.op.operands)
    (he : ∀ t, Operand.tmp t ∈ o.op.operands → ∀ av, env t = some av → env' t = some av) : Ev env' x av :=
  h.congr fun t e => he t (e ▸ hx)

section
variable {C : Ctx} {n : Nat} {o : Oper} {nm : Nat} {st : AS} {K : KO}

theorem move_out {x : Operand} (ho : o.op = .move x) (h : evTK C st o.type x fun a => K a [] []) : ∃ out upd rd, K out upd rd ∧ VOp C n o nm st rd out upd := by
  obtain ⟨av, h1, h2⟩ := evTK_out h
  refine ⟨_, _, _, h2, VOp.pure fun X0 F w0 p α S a w hs he _ => ?_⟩
  have hx := h1.to (by rw [ho]; simp [Op.operands]) he
  exact ⟨a.eval x, by simp [execOp, ho], hx.read hs, hx.ok hs⟩

theorem pick_out {c x y : Operand} (ho : o.op = .pick c x y)
    (h : evK st c fun vc => boolK vc fun t => BIf t (evK st x fun a => K a [] []) (evK st y fun a => K a [] [])) : ∃ out upd rd, K out upd rd ∧ VOp C n o nm st rd out upd := by
  obtain ⟨vc, h1, h2⟩ := evK_out h
  unfold boolK at h2
  split at h2
  · rename_i t
    rcases h2.out with ⟨rfl, h2⟩ | ⟨rfl, h2⟩
    · obtain ⟨av, h3, h4⟩ := evK_out h2
      refine ⟨_, _, _, h4, VOp.pure fun X0 F w0 p α S a w hs he _ => ?_⟩
      have hc := (h1.to (by rw [ho]; simp [Op.operands]) he).read hs
      have hx := h3.to (by rw [ho]; simp [Op.operands]) he
      exact ⟨a.eval x, by simp [execOp, ho, hc.dinv.binv, asBool], hx.read hs, hx.ok hs⟩
    · obtain ⟨av, h3, h4⟩ := evK_out h2
      refine ⟨_, _, _, h4, VOp.pure fun X0 F w0 p α S a w hs he _ => ?_⟩
      have hc := (h1.to (by rw [ho]; simp [Op.operands]) he).read hs
      have hx := h3.to (by rw [ho]; simp [Op.operands]) he
      exact ⟨a.eval y, by simp [execOp, ho, hc.dinv.binv, asBool], hx.read hs, hx.ok hs⟩
  · cases h2

theorem bin_out {op : BinOp} {T T' : TypeId} {x y : Operand} (ho : o.op = .binOp op T x y T')
    (h : evK st x fun a => evK st y fun b => binK C T op a b fun r => K r [] []) : ∃ out upd rd, K out upd rd ∧ VOp C n o nm st rd out upd := by
  replace h := evK_out h; obtain ⟨va, h1, h⟩ := h
  replace h := evK_out h; obtain ⟨vb, h2, h⟩ := h
  obtain ⟨d, h3, h4⟩ := binK_out h
  refine ⟨_, _, _, h3, VOp.pure fun X0 F w0 p α S a w hs he _ => ?_⟩
  have hx := (h1.to (by rw [ho]; simp [Op.operands]) he).read hs
  have hy := (h2.to (by rw [ho]; simp [Op.operands]) he).read hs
  obtain ⟨v, h5, h6⟩ := h4 w α _ _ _ x y hx hy
  refine ⟨v, ?_, .d _ _ h6, .d _⟩
  simp only [execOp, ho, Sem.run_bind]
  simp only [Sem.run_bind] at h5
  rw [h5]; simp [Result.andThen]

theorem un_out {op : UnOp} {T : TypeId} {x : Operand} (ho : o.op = .unOp op T x)
    (h : evK st x fun a => unK op a fun r => K r [] []) : ∃ out upd rd, K out upd rd ∧ VOp C n o nm st rd out upd := by
  replace h := evK_out h; obtain ⟨va, h1, h⟩ := h
  obtain ⟨d, h3, h4⟩ := unK_out (P := C.P) h
  refine ⟨_, _, _, h3, VOp.pure fun X0 F w0 p α S a w hs he _ => ?_⟩
  have hx := (h1.to (by rw [ho]; simp [Op.operands]) he).read hs
  obtain ⟨v, h5, h6⟩ := h4 w α _ _ hx
  exact ⟨v, by simp [execOp, ho, h5], .d _ _ h6, .d _⟩

def extrK (a : AV) (i : Nat) (K : AV → Prop) : Prop := match a with | .tup vs => nthK vs i K | _ => False

theorem extr_out {x : Operand} {i : Nat} (ho : o.op = .extract x i) (h : evK st x fun a => extrK a i fun r => K r [] []) : ∃ out upd rd, K out upd rd ∧ VOp C n o nm st rd out upd := by
  replace h := evK_out h; obtain ⟨va, h1, h⟩ := h
  unfold extrK at h
  split at h
  · rename_i vs
    obtain ⟨r, h2, h3⟩ := nthK_out h
    refine ⟨_, _, _, h3, VOp.pure fun X0 F w0 p α S a w hs he _ => ?_⟩
    have hx := h1.to (by rw [ho]; simp [Op.operands]) he
    have hr := hx.read hs
    have hk := hx.ok hs
    generalize hv : a.eval x = v at hr
    cases hr with
    | tup _ ws hl hc =>
      have hlt : i < ws.size := by rw [← hl]; exact (List.getElem?_eq_some_iff.1 h2).1
      refine ⟨ws[i], by simp [execOp, ho, hv, Instr.extract, hlt], hc i r _ h2 (by simp [hlt]), ?_⟩
      cases hk with | tup _ h => exact h r (List.mem_of_getElem? h2)
  · cases h

/-! #### Conversions that make nothing -/

def convK (C : Ctx) (T : TypeId) (a : AV) (K : AV → Prop) : Prop :=
  lookK C.tab T fun ti => match a, ti.kd with
    | .d (.i _ m), .int k => ArK k m fun r => K (.d (.i k r))
    | .d (.s l), .str => K (.d (.s l))
    | _, _ => False

theorem und_int {P : Program} {T : TypeId} {ti : TyI} {k : IntKind} (ht : TyOk P T ti) (hk : ti.kd = .int k) : P.underlying T = some (.int k) := by
  obtain ⟨_, u, hu, _, hc⟩ := ht
  rw [hk] at hc
  cases u <;> simp [chkKd] at hc
  rw [hu, kindB_eq hc]

theorem und_str {P : Program} {T : TypeId} {ti : TyI} (ht : TyOk P T ti) (hk : ti.kd = .str) : P.underlying T = some .string := by
  obtain ⟨_, u, hu, _, hc⟩ := ht
  rw [hk] at hc
  cases u <;> simp [chkKd] at hc
  exact hu

theorem und_slice {P : Program} {T e : TypeId} {ti : TyI} (ht : TyOk P T ti) (hk : ti.kd = .slice e) : P.underlying T = some (.slice e) := by
  obtain ⟨_, u, hu, _, hc⟩ := ht
  rw [hk] at hc
  cases u <;> simp [chkKd] at hc
  rw [hu, hc]

theorem und_array {P : Program} {T e m : TypeId} {ti : TyI} (ht : TyOk P T ti) (hk : ti.kd = .array m e) : P.underlying T = some (.array m e) := by
  obtain ⟨_, u, hu, _, hc⟩ := ht
  rw [hk] at hc
  cases u <;> simp [chkKd] at hc
  rw [hu, hc.1, hc.2]

theorem und_struct {P : Program} {T : TypeId} {ti : TyI} {os : List (Nat × Nat)} (ht : TyOk P T ti) (hk : ti.kd = .struct os) :
    ∃ fs, P.underlying T = some (.struct fs) ∧ offsB P os fs.toList = true := by
  obtain ⟨_, u, hu, _, hc⟩ := ht
  rw [hk] at hc
  cases u with
  | struct fs => exact ⟨fs, hu, hc⟩
  | _ => simp [chkKd] at hc

theorem conv_out {S T : TypeId} {x : Operand} (ho : o.op = .convert S T x) (hS : ∃ tS, look C.tab S = some tS) (h : evK st x fun a => convK C T a fun r => K r [] []) :
    ∃ out upd rd, K out upd rd ∧ VOp C n o nm st rd out upd := by
  replace h := evK_out h; obtain ⟨va, h1, h⟩ := h
  replace h := lookK_out h; obtain ⟨ti, hti, h⟩ := h
  obtain ⟨tS, htS⟩ := hS
  obtain ⟨_, uS, huS, _⟩ := C.ty htS
  split at h
  · rename_i k m k' hk
    have hT := und_int (C.ty hti) hk
    refine ⟨_, _, _, h.out, VOp.pure fun X0 F w0 p α S a w hs he _ => ?_⟩
    have hx := ((h1.to (by rw [ho]; simp [Op.operands]) he).read hs).dinv.iinv
    exact ⟨_, by simp [execOp, ho, hx, convert, underlying, huS, hT, Conv.intToInt], .d _ _ (.i _ _), .d _⟩
  · rename_i l hk
    have hT := und_str (C.ty hti) hk
    refine ⟨_, _, _, h, VOp.pure fun X0 F w0 p α S a w hs he _ => ?_⟩
    have hx := ((h1.to (by rw [ho]; simp [Op.operands]) he).read hs).dinv.sinv
    exact ⟨_, by simp [execOp, ho, hx, convert, underlying, huS, hT], .d _ _ (.s _), .d _⟩
  · cases h

/-! #### An index into a string, a slice, an array -/

def indexK (C : Ctx) (T : TypeId) (a i : AV) (K : AV → Prop) : Prop :=
  lookK C.tab T fun ti => intK i fun _ j => match a, ti.kd with
    | .d (.s l), .str => GetK j l fun _ c => K (.d (.i .u8 (c.toNat : Int)))
    | _, _ => False

theorem index_out {T : TypeId} {x ix : Operand} (ho : o.op = .index T x ix) (h : evK st x fun a => evK st ix fun i => indexK C T a i fun r => K r [] []) :
    ∃ out upd rd, K out upd rd ∧ VOp C n o nm st rd out upd := by
  replace h := evK_out h; obtain ⟨va, h1, h⟩ := h
  replace h := evK_out h; obtain ⟨vi, h2, h⟩ := h
  replace h := lookK_out h; obtain ⟨ti, hti, h⟩ := h
  unfold intK at h
  split at h
  · rename_i k j
    split at h
    · rename_i l hk
      have hT := und_str (C.ty hti) hk
      obtain ⟨m, c, rfl, hc, h⟩ := h
      refine ⟨_, _, _, h, VOp.pure fun X0 F w0 p α S a w hs he _ => ?_⟩
      have hx := ((h1.to (by rw [ho]; simp [Op.operands]) he).read hs).dinv.sinv
      have hi := ((h2.to (by rw [ho]; simp [Op.operands]) he).read hs).dinv.iinv
      refine ⟨_, ?_, .d _ _ (.i _ _), .d _⟩
      have hlt : m < l.length := (List.getElem?_eq_some_iff.1 hc).1
      have hg : (ByteArray.mk l.toArray)[m]? = some c := by
        rw [getElem?_pos _ m (by simpa [ByteArray.size] using hlt)]
        have h3 := (List.getElem?_eq_some_iff.1 hc).2
        exact congrArg some (show (l.toArray)[m]'(by simpa using hlt) = c by simpa using h3)
      simp [execOp, ho, hx, hi, Instr.index, asIntOf, underlying, hT, hg]
    · cases h
  · cases h

/-! #### Lengths, the least, the greatest -/

def lenK (st : AS) (a : AV) (K : Nat → List Nat → Prop) : Prop :=
  match a with
  | .d (.s l) => K l.length []
  | .d (.sl _ xs) => K xs.length []
  | .nl _ => K 0 []
  | .os k => ownK st k fun e => match e with | .buf _ xs => K xs.length [k] | _ => False
  | _ => False

def isSl (kd : Kd) (a : AV) : Bool :=
  match kd, a with
  | .str, .d (.s _) => true
  | .slice _, .d (.sl _ _) => true
  | .slice _, .nl _ => true
  | .slice _, .os _ => true
  | _, _ => false

theorem Rd.slinv {w : World} {X : Nat → Prop} {sz : Nat} {xs : List D} {v : Value} (h : Rd w X (.sl sz xs) v) : ∃ b cap, v = .slice b xs.length cap := by
  cases h with
  | slnil => exact ⟨none, 0, rfl⟩
  | sle _ a cap => exact ⟨some a, cap, rfl⟩
  | sl _ _ blk off m cap arr T fz f _ _ hl => exact ⟨_, _, by rw [hl]⟩

theorem os_len {G : List Gl} {X0 : Nat → Prop} {F : Fr} {w0 : World} {n : Nat} {p : Nat → Prop} {α : Nat → Loc} {S : SS} {a : Act} {w : World}
    (hs : Sim G X0 F w0 n p α S a w) {k sz : Nat} {xs : List D} (h : S.own k = some (.buf sz xs)) : ∃ b cap, (α k).hv = .slice b xs.length cap := by
  rcases hs.own k _ h with ⟨_, ⟨sz', he⟩, hv⟩ | ⟨_, arr, T, fz, cap, hB⟩
  · cases he; exact ⟨none, 0, hv⟩
  · exact ⟨_, _, hB.hv sz xs rfl⟩

theorem len_out {c : Call} {x : Operand} (ho : o.op = .call c) (hc : c.callee = .builtin .len) (ha : c.args = #[x]) {T : TypeId} (hT : c.argTypes = #[T])
    (h : evK st x fun a => lookK C.tab T fun ti => match isSl ti.kd a with | true => lenK st a fun m rd => K (.d (.i .i64 (m : Int))) [] rd | false => False) :
    ∃ out upd rd, K out upd rd ∧ VOp C n o nm st rd out upd := by
  replace h := evK_out h; obtain ⟨va, h1, h⟩ := h
  replace h := lookK_out h; obtain ⟨ti, hti, h⟩ := h
  have hmem : x ∈ o.op.operands := by rw [ho]; simp [Op.operands, Call.operands, hc, ha]
  have run : ∀ (a : Act) (w : World) (v : Value), (Builtin.len_ #[T] o.type #[a.eval x]).run C.P w = .ok v w → (execOp a.eval o).run C.P w = .ok (.value v) w := by
    intro a w v hv
    simp [execOp, ho, resolve, hc, ha, hT, invoke, builtin, hv]
  split at h
  · rename_i hsl
    unfold isSl at hsl
    split at hsl
    · rename_i l hk
      have hu := und_str (C.ty hti) hk
      refine ⟨_, _, _, h, VOp.pure fun X0 F w0 p α S a w hs he _ => ?_⟩
      have hx := ((h1.to hmem he).read hs).dinv.sinv
      exact ⟨_, run a w _ (by simp [Builtin.len_, hx, underlying, hu, goInt, size_mk]), .d _ _ (.i _ _), .d _⟩
    · rename_i e sz xs hk
      have hu := und_slice (C.ty hti) hk
      refine ⟨_, _, _, h, VOp.pure fun X0 F w0 p α S a w hs he _ => ?_⟩
      obtain ⟨b, cap, hx⟩ := ((h1.to hmem he).read hs).dinv.slinv
      exact ⟨_, run a w _ (by simp [Builtin.len_, hx, underlying, hu, goInt]), .d _ _ (.i _ _), .d _⟩
    · rename_i e sz hk
      have hu := und_slice (C.ty hti) hk
      refine ⟨_, _, _, h, VOp.pure fun X0 F w0 p α S a w hs he _ => ?_⟩
      have hx := (h1.to hmem he).read hs
      generalize hv : a.eval x = v at hx
      cases hx
      exact ⟨_, run a w _ (by simp [Builtin.len_, hv, underlying, hu, goInt]), .d _ _ (.i _ _), .d _⟩
    · rename_i e k hk
      have hu := und_slice (C.ty hti) hk
      replace h := ownK_out h; obtain ⟨en, hen, h⟩ := h
      split at h
      · rename_i sz xs
        refine ⟨_, _, _, h, VOp.pure fun X0 F w0 p α S a w hs he ho' => ?_⟩
        have hx := (h1.to hmem he).read hs
        generalize hv : a.eval x = v at hx
        cases hx
        obtain ⟨b, cap, hl⟩ := os_len hs (ho' k (by simp) _ hen)
        rw [hl] at hv
        exact ⟨_, run a w _ (by simp [Builtin.len_, hv, underlying, hu, goInt]), .d _ _ (.i _ _), .d _⟩
      · cases h
    · cases hsl
  · cases h

def minmaxK (mx : Bool) : List AV → (AV → Prop) → Prop
  | [.d (.i k x), .d (.i _ y)], K => match mx with | true => K (.d (.i k (max x y))) | false => K (.d (.i k (min x y)))
  | _, _ => False

theorem minmax_out {c : Call} (mx : Bool) (ho : o.op = .call c) (hc : c.callee = .builtin (if mx then .max else .min))
    (h : evsK st c.args.toList fun as => minmaxK mx as fun r => K r [] []) : ∃ out upd rd, K out upd rd ∧ VOp C n o nm st rd out upd := by
  replace h := evsK_out h; obtain ⟨as, h1, h⟩ := h
  unfold minmaxK at h
  split at h
  · rename_i k x k' y
    obtain ⟨ox, oy, hxy⟩ : ∃ ox oy, c.args = #[ox, oy] := by
      have := h1.length
      generalize c.args = args at this
      obtain ⟨l⟩ := args
      match l, this with
      | [ox, oy], _ => exact ⟨ox, oy, rfl⟩
    rw [hxy] at h1
    have hm1 : ox ∈ o.op.operands := by rw [ho]; simp [Op.operands, Call.operands, hxy]
    have hm2 : oy ∈ o.op.operands := by rw [ho]; simp [Op.operands, Call.operands, hxy]
    cases h1 with
    | cons _ _ _ _ e1 h1 =>
    cases h1 with
    | cons _ _ _ _ e2 h1 =>
    cases mx with
    | true =>
      refine ⟨_, _, _, h, VOp.pure fun X0 F w0 p α S a w hs he _ => ?_⟩
      have hx := ((e1.to hm1 he).read hs).dinv.iinv
      have hy := ((e2.to hm2 he).read hs).dinv.iinv
      refine ⟨.int k (max x y), ?_, .d _ _ (.i _ _), .d _⟩
      have : (if x < y then y else x) = max x y := by omega
      simp [execOp, ho, resolve, hc, hxy, invoke, builtin, Builtin.max_, Builtin.max2, hx, hy, ← this]
    | false =>
      refine ⟨_, _, _, h, VOp.pure fun X0 F w0 p α S a w hs he _ => ?_⟩
      have hx := ((e1.to hm1 he).read hs).dinv.iinv
      have hy := ((e2.to hm2 he).read hs).dinv.iinv
      refine ⟨.int k (min x y), ?_, .d _ _ (.i _ _), .d _⟩
      have : (if y < x then y else x) = min x y := by omega
      simp [execOp, ho, resolve, hc, hxy, invoke, builtin, Builtin.min_, Builtin.min2, hx, hy, ← this]
  · cases h

end
end Go.Eng
