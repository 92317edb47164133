/-
  Slices, aggregates, rows of literals, conversions between strings and bytes, append, stores: their reckoning, and that it speaks true.
-/
import Derived.Test.YtpogmmcfkdofhaaDoorEngJ
namespace Go.Eng

/-- An operation that looks, and by which the entries of kills are given up. -/
theorem VOp.give {C : Ctx} {n : Nat} {o : Oper} {nm : Nat} {st : AS} {rd kills : List Nat} {out : AV} (hkr : ∀ k, k ∈ kills → k ∈ rd) (h0 : ∀ k, k ∈ kills → ∃ e, st.ss.own k = some e)
    (H : ∀ (X0 : Nat → Prop) (F : Fr) (w0 : World) (p : Nat → Prop) (α : Nat → Loc) (S : SS) (a : Act) (w : World), Sim C.G X0 F w0 n p α S a w →
      (∀ t, Operand.tmp t ∈ o.op.operands → ∀ av, st.ss.env t = some av → S.env t = some av) → (∀ k, k ∈ rd → ∀ e, st.ss.own k = some e → S.own k = some e) →
      ∃ v, (execOp a.eval o).run C.P w = .ok (.value v) w ∧ out.ok p ∧
        ∀ X' : Nat → Prop, (∀ b, X' b → XX α S.own X0 b) → (∀ k, k ∈ kills → (α k).nil = false → ¬ X' (α k).blk) → RdA w α X' out v) :
    VOp C n o nm st rd out (kills.map fun k => (k, none)) := by
  have hlk : ∀ k oe, look (kills.map fun k => (k, (none : Option Ent))) k = some oe → k ∈ kills ∧ oe = none := by
    intro k oe hl
    rcases look_kills (β := Ent) kills k with h | ⟨h, hm⟩
    · rw [h] at hl; cases hl
    · rw [h] at hl; cases hl; exact ⟨hm, rfl⟩
  have hin : ∀ k, k ∈ kills → look (kills.map fun k => (k, (none : Option Ent))) k = some none := by
    intro k hk
    clear hkr h0 H hlk
    induction kills with
    | nil => cases hk
    | cons x l ih =>
      simp only [List.map_cons, look]
      split
      · rfl
      · rename_i hb
        rcases List.mem_cons.1 hk with rfl | hk
        · simp at hb
        · exact ih hk
  refine ⟨fun k oe hl => .inl (hkr k (hlk k oe hl).1), fun X0 F w0 p α S a w Q next hs he ho _ hd hn => ?_⟩
  obtain ⟨v, h1, h2, h3⟩ := H X0 F w0 p α S a w hs he ho
  refine wp_value h1 (hn α v w ?_)
  refine hs.upd _ (fun k hk => .inl hk) α w o.dst hd out _ v (fun _ _ => rfl) (Nat.le_refl _) rfl rfl rfl (fun _ _ _ => rfl) ?_ ?_ ?_ ?_ ?_ (h2.mono fun k hk => .inl hk)
  · intro k e hl; cases (hlk k _ hl).2
  · intro k e hl; cases (hlk k _ hl).2
  · intro k e k' e' hl; cases (hlk k _ hl).2
  · intro _ k e hl; cases (hlk k _ hl).2
  · intro _
    have hold : ∀ k e, (S.upd o.dst out (kills.map fun k => (k, none))).own k = some e → k ∉ kills ∧ S.own k = some e := by
      intro k e hk
      simp only [SS.upd] at hk
      rcases look_kills (β := Ent) kills k with h | ⟨h, hm⟩
      · rw [h] at hk
        refine ⟨fun hm => ?_, hk⟩
        rw [hin k hm] at h; cases h
      · rw [h] at hk; cases hk
    refine h3 _ ?_ ?_
    · rintro b (⟨k, e, hk, hnil, rfl⟩ | hx)
      · exact .inl ⟨k, e, (hold k e hk).2, hnil, rfl⟩
      · exact .inr hx
    · rintro k hk hnil (⟨k', e', hk', hnil', hb⟩ | hx)
      · obtain ⟨e, he'⟩ := h0 k hk
        have hSk := ho k (hkr k hk) e he'
        obtain ⟨hn1, hn2⟩ := hold k' e' hk'
        have := hs.inj k' e' k e hn2 hSk hnil' hnil hb
        subst this; exact hn1 hk
      · obtain ⟨e, he'⟩ := h0 k hk
        exact (hs.mine k e (ho k (hkr k hk) e he') hnil).2 hx

/-- An owned row, given up, reads as a slice. -/
theorem own_read {w : World} {α : Nat → Loc} {X X' : Nat → Prop} {k sz : Nat} {xs : List D} (h : Own w α X k (.buf sz xs)) (hX : ∀ b, X' b → X b) (hb : (α k).nil = false → ¬ X' (α k).blk) :
    Rd w X' (.sl sz xs) (α k).hv := by
  rcases h with ⟨_, ⟨sz', he⟩, hv⟩ | ⟨hnil, arr, T, fz, cap, hB⟩
  · cases he; rw [hv]; exact .slnil sz
  · rw [hB.hv sz xs rfl]
    have hval : ∀ (j m : Nat) (x c : D), xs[j]? = some x → x.cells[m]? = some c → arr[(α k).off + j * sz + m]? = some (arr.getD ((α k).off + j * sz + m) undef) ∧ Rd w X' c (arr.getD ((α k).off + j * sz + m) undef) := by
      intro j m x c hx hc
      obtain ⟨v, hv, hr⟩ := hB.rd j m _ (cell_d (e := .buf sz xs) rfl hx hc)
      simp only [Ent.sz] at hv
      have := hr.dinv.mono (X' := X') fun b o hb' hnx => ⟨hb', fun hx' => hnx (hX b hx')⟩
      simp [Array.getD_eq_getD_getElem?, hv, this]
    exact .sl sz xs _ _ _ cap arr T fz (fun j m => arr.getD ((α k).off + j * sz + m) undef) hB.heap (hb hnil) rfl hB.len hB.wid (fun j m x c hx hc => (hval j m x c hx hc).1) fun j m x c hx hc => (hval j m x c hx hc).2

def BV (o : Option Value) (dflt j : Nat) : Prop := (o = none ∧ j = dflt) ∨ ∃ k, o = some (.int k (j : Int))

theorem run_sliceBounds {P : Program} {w : World} {isS : Bool} {len cap jl jh : Nat} {lo hi : Option Value} (h1 : BV lo 0 jl) (h2 : BV hi len jh) (h3 : jl ≤ jh) (h4 : jh ≤ cap) :
    (Instr.sliceBounds isS len cap lo hi none).run P w = .ok (jl, jh, cap) w := by
  have hb : ∀ (k : IntKind) (j y : Nat) (c : BoundsCode), j ≤ y → (Instr.sliceBound (.int k (j : Int)) y c).run P w = .ok j w := by
    intro k j y c hj
    simp [Instr.sliceBound, asIntOf, hj]
  rcases h1 with ⟨rfl, rfl⟩ | ⟨k, rfl⟩ <;> rcases h2 with ⟨rfl, rfl⟩ | ⟨k', rfl⟩
  · simp [Instr.sliceBounds]
  · simp [Instr.sliceBounds, hb _ _ _ _ h4]
  · simp [Instr.sliceBounds, hb _ _ _ _ h3]
  · simp [Instr.sliceBounds, hb _ _ _ _ h4, hb _ _ _ _ h3]

def ovK (st : AS) : Option Operand → (Option Int → Prop) → Prop
  | none, K => K none
  | some x, K => evK st x fun a => intK a fun _ i => K (some i)

inductive Ov (env : Nat → Option AV) : Option Operand → Option Int → Prop where
  | none : Ov env none none
  | some (x : Operand) (k : IntKind) (i : Int) : Ev env x (.d (.i k i)) → Ov env (some x) (some i)

theorem ovK_out {st : AS} {x : Option Operand} {K : Option Int → Prop} (h : ovK st x K) : ∃ i, Ov st.ss.env x i ∧ K i := by
  cases x with
  | none => exact ⟨none, .none, h⟩
  | some x =>
    obtain ⟨a, h1, h2⟩ := evK_out h
    unfold intK at h2
    split at h2
    · rename_i k i; exact ⟨some i, .some x k i h1, h2⟩
    · cases h2

def cutK {β : Type} (l : List β) (lo hi : Option Int) (K : List β → Prop) : Prop :=
  match lo, hi with
  | none, none => K l
  | none, some b => BndK b l.length fun j => K (l.take j)
  | some a, none => BndK a l.length fun j => K (l.drop j)
  | some a, some b => BndK b l.length fun jh => BndK a jh fun jl => K ((l.take jh).drop jl)

theorem cutK_out {β : Type} {l : List β} {lo hi : Option Int} {K : List β → Prop} (h : cutK l lo hi K) :
    ∃ jl jh, K ((l.take jh).drop jl) ∧ jl ≤ jh ∧ jh ≤ l.length ∧ (lo = none ∧ jl = 0 ∨ lo = some (jl : Int)) ∧ (hi = none ∧ jh = l.length ∨ hi = some (jh : Int)) := by
  unfold cutK at h
  split at h
  · exact ⟨0, l.length, by simpa using h, by omega, by omega, .inl ⟨rfl, rfl⟩, .inl ⟨rfl, rfl⟩⟩
  · obtain ⟨j, rfl, hj, h⟩ := h
    exact ⟨0, j, by simpa using h, by omega, hj, .inl ⟨rfl, rfl⟩, .inr rfl⟩
  · obtain ⟨j, rfl, hj, h⟩ := h
    exact ⟨j, l.length, by simpa using h, hj, by omega, .inr rfl, .inl ⟨rfl, rfl⟩⟩
  · obtain ⟨jh, rfl, hh, jl, rfl, hl, h⟩ := h
    exact ⟨jl, jh, h, hl, hh, .inr rfl, .inr rfl⟩

theorem extract_mk (l : List UInt8) (a b : Nat) : (ByteArray.mk l.toArray).extract a b = ⟨((l.take b).drop a).toArray⟩ := by
  apply ByteArray.ext
  simp only [ByteArray.data_extract]
  apply Array.ext'
  simp [List.drop_take]

theorem arr_read {w : World} {α : Nat → Loc} {X X' : Nat → Prop} {k sz : Nat} {xs : List D} (h : Own w α X k (.arr sz xs)) (hX : ∀ b, X' b → X b) (hb : (α k).nil = false → ¬ X' (α k).blk) :
    Rd w X' (.sl sz xs) (.slice (some ⟨(α k).blk, (α k).off, none⟩) xs.length xs.length) := by
  rcases h with ⟨_, ⟨sz', he⟩, hv⟩ | ⟨hnil, arr, T, fz, cap, hB⟩
  · cases he
  · have hval : ∀ (j m : Nat) (x c : D), xs[j]? = some x → x.cells[m]? = some c → arr[(α k).off + j * sz + m]? = some (arr.getD ((α k).off + j * sz + m) undef) ∧ Rd w X' c (arr.getD ((α k).off + j * sz + m) undef) := by
      intro j m x c hx hc
      obtain ⟨v, hv, hr⟩ := hB.rd j m _ (cell_d (e := .arr sz xs) rfl hx hc)
      simp only [Ent.sz] at hv
      have := hr.dinv.mono (X' := X') fun b o hb' hnx => ⟨hb', fun hx' => hnx (hX b hx')⟩
      simp [Array.getD_eq_getD_getElem?, hv, this]
    exact .sl sz xs _ _ _ xs.length arr T fz (fun j m => arr.getD ((α k).off + j * sz + m) undef) hB.heap (hb hnil) rfl (Nat.le_refl _) hB.wid (fun j m x c hx hc => (hval j m x c hx hc).1) fun j m x c hx hc => (hval j m x c hx hc).2

def sliceK (C : Ctx) (st : AS) (T : TypeId) (a : AV) (lo hi : Option Int) (K : KO) : Prop :=
  lookK C.tab T fun ti => match a, ti.kd with
    | .d (.s l), .str => cutK l lo hi fun r => K (.d (.s r)) [] []
    | .d (.sl sz xs), .slice e => lookK C.tab e fun te => match Nat.beq te.size sz with
      | true => cutK xs lo hi fun r => K (.d (.sl sz r)) [] []
      | false => False
    | .os k, .slice e => ownK st k fun en => lookK C.tab e fun te => match en with
      | .buf sz xs => match Nat.beq te.size sz with
        | true => cutK xs lo hi fun r => K (.d (.sl sz r)) [(k, none)] [k]
        | false => False
      | _ => False
    | .op k 0 0, .array m e => ownK st k fun en => lookK C.tab e fun te => match en with
      | .arr sz xs => match Nat.beq te.size sz with
        | true => SameK m xs.length (cutK xs lo hi fun r => K (.d (.sl sz r)) [(k, none)] [k])
        | false => False
      | _ => False
    | _, _ => False

section
variable {C : Ctx} {n : Nat} {o : Oper} {nm : Nat} {st : AS} {K : KO}

theorem ov_bv {G : List Gl} {X0 : Nat → Prop} {F : Fr} {w0 : World} {n : Nat} {p : Nat → Prop} {α : Nat → Loc} {S : SS} {a : Act} {w : World} (hs : Sim G X0 F w0 n p α S a w)
    {x : Option Operand} {i : Option Int} {env : Nat → Option AV} (h : Ov env x i) (he : ∀ t, x = some (.tmp t) → ∀ av, env t = some av → S.env t = some av) {d j : Nat} (hi : i = none ∧ j = d ∨ i = some (j : Int)) :
    BV (x.map a.eval) d j := by
  cases h with
  | none => rcases hi with ⟨_, rfl⟩ | h; exact .inl ⟨rfl, rfl⟩; cases h
  | some x k i hx =>
    rcases hi with ⟨h, _⟩ | h
    · cases h
    · cases h
      have := ((hx.congr fun t e => he t (by rw [e])).read hs).dinv.iinv
      exact .inr ⟨k, by simp [this]⟩

theorem run_slice_slice {P : Program} {w : World} {T e : TypeId} {ti te : TyI} (ht : TyOk P T ti) (hk : ti.kd = .slice e) (hte : TyOk P e te) (b : Option Addr) {len cap jl jh : Nat} {lo hi : Option Value}
    (h1 : BV lo 0 jl) (h2 : BV hi len jh) (h3 : jl ≤ jh) (h4 : jh ≤ cap) :
    (Instr.sliceAt T (.slice b len cap) lo hi none).run P w = .ok (.slice (if cap = jl then b else b.map (·.add (jl * te.size))) (jh - jl) (cap - jl)) w := by
  have hu := und_slice ht hk
  simp [Instr.sliceAt, Instr.slice, underlying, hu, run_sliceBounds h1 h2 h3 h4, run_size hte]

theorem run_slice_arr {P : Program} {w : World} {T e m : TypeId} {ti te : TyI} (ht : TyOk P T ti) (hk : ti.kd = .array m e) (hte : TyOk P e te) (b : Addr) {jl jh : Nat} {lo hi : Option Value}
    (h1 : BV lo 0 jl) (h2 : BV hi m jh) (h3 : jl ≤ jh) (h4 : jh ≤ m) :
    (Instr.sliceAt T (.pointer (some b)) lo hi none).run P w = .ok (.slice (if m = jl then some b else (some b).map (·.add (jl * te.size))) (jh - jl) (m - jl)) w := by
  have hu := und_array ht hk
  simp [Instr.sliceAt, Instr.sureAddr, underlying, hu, run_sliceBounds h1 h2 h3 h4, run_size hte]
  split <;> rfl

theorem run_slice_str {P : Program} {w : World} {T : TypeId} {ti : TyI} (ht : TyOk P T ti) (hk : ti.kd = .str) (l : List UInt8) {jl jh : Nat} {lo hi : Option Value}
    (h1 : BV lo 0 jl) (h2 : BV hi l.length jh) (h3 : jl ≤ jh) (h4 : jh ≤ l.length) :
    (Instr.sliceAt T (.string ⟨l.toArray⟩) lo hi none).run P w = .ok (.string ⟨((l.take jh).drop jl).toArray⟩) w := by
  have hu := und_str ht hk
  have := run_sliceBounds (P := P) (w := w) (isS := false) (len := l.length) (cap := l.length) h1 h2 h3 h4
  simp [Instr.sliceAt, Instr.slice, underlying, hu, size_mk, this, extract_mk]

theorem get_cut {β : Type} {l : List β} {jl jh j : Nat} {x : β} (h : ((l.take jh).drop jl)[j]? = some x) : l[jl + j]? = some x := by
  rw [List.getElem?_drop, List.getElem?_take] at h
  split at h
  · exact h
  · cases h

/-- A slice's part reads as the list's part. -/
theorem cut_read {w : World} {X : Nat → Prop} {sz : Nat} {xs : List D} {b : Option Addr} {len cap jl jh : Nat} (h : Rd w X (.sl sz xs) (.slice b len cap)) (h3 : jl ≤ jh) (h4 : jh ≤ xs.length) :
    Rd w X (.sl sz ((xs.take jh).drop jl)) (.slice (if cap = jl then b else b.map (·.add (jl * sz))) (jh - jl) (cap - jl)) ∧ jh ≤ cap ∧ len = xs.length := by
  cases h with
  | slnil =>
    simp at h4; subst h4
    have : jl = 0 := by omega
    subst this
    exact ⟨by simpa using Rd.slnil sz, by omega, rfl⟩
  | sle _ a =>
    simp at h4; subst h4
    have : jl = 0 := by omega
    subst this
    refine ⟨?_, by omega, rfl⟩
    have ha : a.add 0 = a := by unfold Addr.add; rw [if_pos rfl]
    have := Rd.sle (w := w) (X := X) sz a cap
    by_cases hc : cap = 0
    · rw [if_pos hc]; simpa using this
    · rw [if_neg hc]; simpa [ha] using this
  | sl _ _ blk off _ _ arr T fz f hh hX hl hc hw h1 h2 =>
    refine ⟨?_, by omega, hl.symm⟩
    by_cases hcap : cap = jl
    · rw [if_pos hcap]
      have : (xs.take jh).drop jl = [] := List.eq_nil_of_length_eq_zero (by simp; omega)
      rw [this]
      refine .sl sz [] blk off _ _ arr T fz f hh hX (by simp; omega) (by omega) ?_ ?_ ?_ <;> intro j <;> simp
    · rw [if_neg hcap]
      simp only [Option.map_some, Addr.add_mk]
      refine .sl sz _ blk (off + jl * sz) _ _ arr T fz (fun j m => f (jl + j) m) hh hX (by simp; omega) (by omega) ?_ ?_ ?_
      · intro j x hx; exact hw (jl + j) x (get_cut hx)
      · intro j m x c hx hc'
        have := h1 (jl + j) m x c (get_cut hx) hc'
        rw [← this]; congr 1; rw [Nat.add_mul]; omega
      · intro j m x c hx hc'; exact h2 (jl + j) m x c (get_cut hx) hc'

theorem slice_out {T : TypeId} {x : Operand} {lo hi : Option Operand} (ho : o.op = .slice T x lo hi none)
    (h : evK st x fun a => ovK st lo fun l => ovK st hi fun r => sliceK C st T a l r K) : ∃ out upd rd, K out upd rd ∧ VOp C n o nm st rd out upd := by
  replace h := evK_out h; obtain ⟨va, h1, h⟩ := h
  replace h := ovK_out h; obtain ⟨vl, h2, h⟩ := h
  replace h := ovK_out h; obtain ⟨vh, h3, h⟩ := h
  have hm1 : x ∈ o.op.operands := by rw [ho]; simp [Op.operands]
  have hm2 : ∀ y, lo = some y → y ∈ o.op.operands := by intro y hy; rw [ho, hy]; simp [Op.operands]
  have hm3 : ∀ y, hi = some y → y ∈ o.op.operands := by intro y hy; rw [ho, hy]; simp [Op.operands]
  unfold sliceK at h
  replace h := lookK_out h; obtain ⟨ti, hti, h⟩ := h
  have run : ∀ (a : Act) (w : World) (v : Value), (Instr.sliceAt T (a.eval x) (lo.map a.eval) (hi.map a.eval) none).run C.P w = .ok v w → (execOp a.eval o).run C.P w = .ok (.value v) w := by
    intro a w v hv
    simp [execOp, ho, hv]
  split at h
  · rename_i l hk
    replace h := cutK_out h; obtain ⟨jl, jh, h, h5, h6, h7, h8⟩ := h
    refine ⟨_, _, _, h, VOp.pure fun X0 F w0 p α S a w hs he _ => ?_⟩
    have hx := ((h1.to hm1 he).read hs).dinv.sinv
    have hl := ov_bv hs h2 (fun t e => he t (hm2 _ e)) (d := 0) h7
    have hh := ov_bv hs h3 (fun t e => he t (hm3 _ e)) (d := l.length) h8
    refine ⟨_, run a w _ ?_, .d _ _ (.s _), .d _⟩
    rw [hx]
    exact run_slice_str (C.ty hti) hk l hl hh h5 h6
  · rename_i sz xs e hk
    replace h := lookK_out h; obtain ⟨te, hte, h⟩ := h
    split at h
    · rename_i hsz
      have hsz := Nat.eq_of_beq_eq_true hsz
      replace h := cutK_out h; obtain ⟨jl, jh, h, h5, h6, h7, h8⟩ := h
      refine ⟨_, _, _, h, VOp.pure fun X0 F w0 p α S a w hs he _ => ?_⟩
      have hr := ((h1.to hm1 he).read hs).dinv
      obtain ⟨b, cap, hx⟩ := hr.slinv
      rw [hx] at hr
      have hl := ov_bv hs h2 (fun t e => he t (hm2 _ e)) (d := 0) h7
      have hh := ov_bv hs h3 (fun t e => he t (hm3 _ e)) (d := xs.length) h8
      obtain ⟨h9, h10, h11⟩ := cut_read hr h5 h6
      refine ⟨_, run a w _ (by rw [hx]; exact run_slice_slice (C.ty hti) hk (C.ty hte) b hl hh h5 h10), ?_, .d _⟩
      rw [hsz]; exact .d _ _ h9
    · cases h
  · rename_i k e hk
    replace h := ownK_out h; obtain ⟨en, hen, h⟩ := h
    replace h := lookK_out h; obtain ⟨te, hte, h⟩ := h
    split at h
    · rename_i sz xs
      split at h
      · rename_i hsz
        have hsz := Nat.eq_of_beq_eq_true hsz
        replace h := cutK_out h; obtain ⟨jl, jh, h, h5, h6, h7, h8⟩ := h
        refine ⟨_, _, _, h, VOp.give (kills := [k]) (fun _ hk => hk) (fun j hj => by simp at hj; subst hj; exact ⟨_, hen⟩) fun X0 F w0 p α S a w hs he ho' => ?_⟩
        have hSk := ho' k (by simp) _ hen
        have hr := (h1.to hm1 he).read hs
        generalize hx : a.eval x = v at hr
        cases hr
        have hl := ov_bv hs h2 (fun t e => he t (hm2 _ e)) (d := 0) h7
        have hh := ov_bv hs h3 (fun t e => he t (hm3 _ e)) (d := xs.length) h8
        obtain ⟨b, cap, hb⟩ := os_len hs hSk
        have hown := hs.own k _ hSk
        have hcap : jh ≤ cap := by
          have := own_read (X' := fun _ => False) hown (fun b hb => hb.elim) (fun _ hb => hb)
          rw [hb] at this
          exact (cut_read this h5 h6).2.1
        rw [hb] at hx
        refine ⟨_, run a w _ (by rw [hx]; exact run_slice_slice (C.ty hti) hk (C.ty hte) b hl hh h5 hcap), .d _, fun X' hX' hn => ?_⟩
        have := own_read hown hX' (hn k (by simp))
        rw [hb] at this
        rw [hsz]
        exact .d _ _ (cut_read this h5 h6).1
      · cases h
    · cases h
  · rename_i k m e hk
    replace h := ownK_out h; obtain ⟨en, hen, h⟩ := h
    replace h := lookK_out h; obtain ⟨te, hte, h⟩ := h
    split at h
    · rename_i sz xs
      split at h
      · rename_i hsz
        have hsz := Nat.eq_of_beq_eq_true hsz
        obtain ⟨hm, h⟩ := h
        replace h := cutK_out h; obtain ⟨jl, jh, h, h5, h6, h7, h8⟩ := h
        refine ⟨_, _, _, h, VOp.give (kills := [k]) (fun _ hk => hk) (fun j hj => by simp at hj; subst hj; exact ⟨_, hen⟩) fun X0 F w0 p α S a w hs he ho' => ?_⟩
        have hSk := ho' k (by simp) _ hen
        have hr := (h1.to hm1 he).read hs
        generalize hx : a.eval x = v at hr
        cases hr
        have hl := ov_bv hs h2 (fun t e => he t (hm2 _ e)) (d := 0) h7
        have hh := ov_bv hs h3 (fun t e => he t (hm3 _ e)) (d := xs.length) h8
        have hown := hs.own k _ hSk
        refine ⟨_, run a w _ (by rw [hx]; exact run_slice_arr (C.ty hti) hk (C.ty hte) _ hl (by rw [hm]; exact hh) h5 (by rw [hm]; exact h6)), .d _, fun X' hX' hn => ?_⟩
        have := arr_read hown hX' (hn k (by simp))
        have hc := (cut_read this h5 h6).1
        rw [hsz, hm]
        refine .d _ _ ?_
        simpa using hc
      · cases h
    · cases h
  · cases h

end
end Go.Eng
