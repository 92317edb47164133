/-
  Addresses, loads, slices of what is not written, aggregates: their reckoning, and that it speaks true.
-/
import Derived.Test.YtpogmmcfkdofhaaDoorEngF
namespace Go.Eng

def addK (i j : Nat) (K : Nat → Prop) : Prop := match i with | 0 => K j | i => K (i + j)
theorem addK_out {i j : Nat} {K : Nat → Prop} (h : addK i j K) : K (i + j) := by
  unfold addK at h
  split at h
  · simpa using h
  · exact h

theorem Addr.add_mk (b off n : Nat) : (Addr.mk b off none).add n = ⟨b, off + n, none⟩ := by
  unfold Addr.add; split <;> simp_all

theorem gl_at {G : List Gl} {X0 : Nat → Prop} {F : Fr} {w0 : World} {n : Nat} {p : Nat → Prop} {α : Nat → Loc} {S : SS} {a : Act} {w : World}
    (hs : Sim G X0 F w0 n p α S a w) {x : Gl} (hx : x ∈ G) : ∃ arr T fz, w.heap[x.g]? = some (.cells arr T fz) ∧ ¬ XX α S.own X0 x.g ∧ arr.size = x.xs.length * x.sz ∧
      (∀ (j : Nat) (d : D), x.xs[j]? = some d → d.wd x.sz) ∧
      ∀ (j m : Nat) (d c : D), x.xs[j]? = some d → d.cells[m]? = some c → ∃ v, arr[j * x.sz + m]? = some v ∧ Rd w (XX α S.own X0) c v := by
  obtain ⟨h1, h2, h3, arr, T, fz, h4, hsz, h5, h6⟩ := hs.gl x hx
  have hX : ∀ b, b < w0.heap.size → ¬ (X0 b ∨ F b) → ¬ XX α S.own X0 b := by
    rintro b hb hn (⟨k, e, hk, hnil, rfl⟩ | h0)
    · rcases (hs.mine k e hk hnil).1 with hge | hf
      · omega
      · exact hn (.inr hf)
    · exact hn (.inl h0)
  refine ⟨arr, T, fz, by rw [hs.fr x.g h1 h2]; exact h4, hX x.g h1 (fun h => h.elim h3 h2), hsz, h5, fun j m d c hj hm => ?_⟩
  obtain ⟨v, hv, hr⟩ := h6 j m d c hj hm
  refine ⟨v, hv, hr.mono fun b o hb hnx => ?_⟩
  have hlt : b < w0.heap.size := by
    rcases Nat.lt_or_ge b w0.heap.size with h | h
    · exact h
    · rw [Array.getElem?_eq_none h] at hb; cases hb
  exact ⟨by rw [hs.fr b hlt fun hf => hnx (.inr hf)]; exact hb, hX b hlt hnx⟩

def glK (C : Ctx) (g : Nat) (K : Gl → Prop) : Prop := go C.G
where go : List Gl → Prop
  | [] => False
  | x :: l => match Nat.beq x.g g with | true => K x | false => go l

theorem glK_out {C : Ctx} {g : Nat} {K : Gl → Prop} (h : glK C g K) : ∃ x, x ∈ C.G ∧ x.g = g ∧ K x := by
  unfold glK at h
  generalize C.G = l at h
  induction l with
  | nil => cases h
  | cons x l ih =>
    simp only [glK.go] at h
    split at h
    · rename_i hb; exact ⟨x, List.mem_cons_self, Nat.eq_of_beq_eq_true hb, h⟩
    · obtain ⟨y, h1, h2⟩ := ih h; exact ⟨y, List.mem_cons_of_mem _ h1, h2⟩

/-! #### Addresses -/

def faddrK (C : Ctx) (T : TypeId) (f : Nat) (a : AV) (K : AV → Prop) : Prop :=
  lookK C.tab T fun ti => match ti.kd with
    | .struct os => nthK os f fun x => match a with
      | .op k i j => addK j x.1 fun j => K (.op k i j)
      | .pp d j => addK j x.1 fun j => K (.pp d j)
      | .gp _ => False
      | _ => False
    | _ => False

def iaddrK (C : Ctx) (st : AS) (T : TypeId) (a i : AV) (K : AV → List Nat → Prop) : Prop :=
  lookK C.tab T fun ti => intK i fun _ j => match ti.kd, a with
    | .slice e, .d (.sl sz xs) => lookK C.tab e fun te => match Nat.beq te.size sz with
      | true => GetK j xs fun _ x => K (.pp x 0) []
      | false => False
    | .slice e, .os k => lookK C.tab e fun te => ownK st k fun en => match en with
      | .buf sz xs => match Nat.beq te.size sz with
        | true => IdxK j xs.length fun j => K (.op k j 0) [k]
        | false => False
      | _ => False
    | .array m e, .op k 0 0 => lookK C.tab e fun te => ownK st k fun en => match en with
      | .arr sz xs => match Nat.beq te.size sz with
        | true => SameK m xs.length (IdxK j m fun j => K (.op k j 0) [k])
        | false => False
      | _ => False
    | .array m e, .gp g => lookK C.tab e fun te => glK C g fun gl => match Nat.beq te.size gl.sz, Nat.beq m gl.xs.length with
      | true, true => GetK j gl.xs fun _ x => K (.pp x 0) []
      | _, _ => False
    | _, _ => False

section
variable {C : Ctx} {n : Nat} {o : Oper} {nm : Nat} {st : AS} {K : KO}

def AV.isPtr : AV → Bool
  | .op .. | .pp .. | .gp .. => true
  | _ => false

theorem ne_nil_ptr {w : World} {α : Nat → Loc} {X : Nat → Prop} {a : AV} {v : Value} (h : RdA w α X a v) (ha : a.isPtr = true) : ∃ b, v = .pointer (some b) := by
  cases h <;> simp [AV.isPtr] at ha
  · exact ⟨_, rfl⟩
  · exact ⟨_, rfl⟩
  · exact ⟨_, rfl⟩

def nilK (a : AV) (K : AV → Prop) : Prop := match a with | .op k i j => K (.op k i j) | .pp d j => K (.pp d j) | .gp g => K (.gp g) | _ => False

theorem nil_out {x : Operand} (ho : o.op = .nilCheck x) (h : evK st x fun a => nilK a fun r => K r [] []) : ∃ out upd rd, K out upd rd ∧ VOp C n o nm st rd out upd := by
  replace h := evK_out h; obtain ⟨va, h1, h⟩ := h
  have hmem : x ∈ o.op.operands := by rw [ho]; simp [Op.operands]
  have fin : va.isPtr = true → K va [] [] → ∃ out upd rd, K out upd rd ∧ VOp C n o nm st rd out upd := by
    intro hp hk
    refine ⟨_, _, _, hk, VOp.pure fun X0 F w0 p α S a w hs he _ => ?_⟩
    have hx := h1.to hmem he
    obtain ⟨b, hb⟩ := ne_nil_ptr (hx.read hs) hp
    refine ⟨a.eval x, ?_, hx.read hs, hx.ok hs⟩
    simp [execOp, ho, hb]
  unfold nilK at h
  split at h
  · exact fin rfl h
  · exact fin rfl h
  · exact fin rfl h
  · cases h

theorem run_fieldAt {P : Program} {T : TypeId} {ti : TyI} {os : List (Nat × Nat)} (ht : TyOk P T ti) (hk : ti.kd = .struct os) {f : Nat} {x : Nat × Nat} (hx : os[f]? = some x)
    (b off : Nat) (w : World) : (Instr.fieldAt T (.pointer (some ⟨b, off, none⟩)) f).run P w = .ok (.pointer (some ⟨b, off + x.1, none⟩)) w := by
  obtain ⟨fs, hu, hB⟩ := und_struct ht hk
  obtain ⟨fd, i, hf, ho, hty, hi, hz⟩ := offsB_get hB f hx
  have hf' : fs[f]? = some fd := by simpa using hf
  have hfp : (fieldPlace ⟨b, off, none⟩ fd).run P w = .ok ⟨b, off + x.1, none⟩ w := by
    simp [fieldPlace, sizeOf, typeInfo, hi, hz, Addr.add_mk, ho]
  simp [Instr.fieldAt, underlying, hu, hf', Instr.sureAddr, hfp]

theorem faddr_out {T : TypeId} {x : Operand} {f : Nat} (ho : o.op = .fieldAddr T x f) (h : evK st x fun a => faddrK C T f a fun r => K r [] []) :
    ∃ out upd rd, K out upd rd ∧ VOp C n o nm st rd out upd := by
  replace h := evK_out h; obtain ⟨va, h1, h⟩ := h
  have hmem : x ∈ o.op.operands := by rw [ho]; simp [Op.operands]
  unfold faddrK at h
  replace h := lookK_out h; obtain ⟨ti, hti, h⟩ := h
  cases hk : ti.kd with
  | struct os =>
    simp only [hk] at h
    replace h := nthK_out h; obtain ⟨y, hy, h⟩ := h
    cases va with
    | op k i j =>
      simp only at h
      replace h := addK_out h
      refine ⟨_, _, _, h, VOp.pure fun X0 F w0 p α S a w hs he _ => ?_⟩
      have hx := h1.to hmem he
      have hr := hx.read hs
      generalize hv : a.eval x = v at hr
      cases hr
      refine ⟨_, by simp [execOp, ho, hv, run_fieldAt (C.ty hti) hk hy]; rfl, ?_, ?_⟩
      · rw [Nat.add_assoc]; exact .op k i (j + y.1)
      · have := hx.ok hs; cases this with | op _ _ _ hk => exact .op _ _ _ hk
    | pp d j =>
      simp only at h
      replace h := addK_out h
      refine ⟨_, _, _, h, VOp.pure fun X0 F w0 p α S a w hs he _ => ?_⟩
      have hx := h1.to hmem he
      have hr := hx.read hs
      generalize hv : a.eval x = v at hr
      cases hr with
      | pp _ _ blk off arr U fz g hh hX h2 h3 =>
        refine ⟨_, by simp [execOp, ho, hv, run_fieldAt (C.ty hti) hk hy]; rfl, ?_, .pp _ _⟩
        rw [Nat.add_assoc]; exact .pp d (j + y.1) blk off arr U fz g hh hX h2 h3
    | _ => simp only at h
  | _ => simp only [hk] at h

theorem run_size {P : Program} {T : TypeId} {ti : TyI} (ht : TyOk P T ti) (w : World) : (sizeOf T).run P w = .ok ti.size w := by
  obtain ⟨⟨i, hi, hs, _⟩, _⟩ := ht
  simp [sizeOf, typeInfo, hi, hs]

theorem run_indexAt_slice {P : Program} {T e : TypeId} {ti te : TyI} (ht : TyOk P T ti) (hk : ti.kd = .slice e) (hte : TyOk P e te) (b off len cap m : Nat) (k : IntKind) (hm : m < len) (w : World) :
    (Instr.indexAt T (.slice (some ⟨b, off, none⟩) len cap) (.int k (m : Int))).run P w = .ok (.pointer (some ⟨b, off + m * te.size, none⟩)) w := by
  have hu := und_slice ht hk
  have h1 : (0 : Int) ≤ (m : Int) ∧ (m : Int) < (len : Int) := by omega
  simp [Instr.indexAt, asIntOf, underlying, hu, run_size hte, Addr.add_mk, hm]

theorem run_indexAt_array {P : Program} {T e l : TypeId} {ti te : TyI} (ht : TyOk P T ti) (hk : ti.kd = .array l e) (hte : TyOk P e te) (b off m : Nat) (k : IntKind) (hm : m < l) (w : World) :
    (Instr.indexAt T (.pointer (some ⟨b, off, none⟩)) (.int k (m : Int))).run P w = .ok (.pointer (some ⟨b, off + m * te.size, none⟩)) w := by
  have hu := und_array ht hk
  simp [Instr.indexAt, asIntOf, underlying, hu, run_size hte, Addr.add_mk, hm, Instr.sureAddr]

theorem Rd.slget {w : World} {X : Nat → Prop} {sz : Nat} {xs : List D} {v : Value} (h : Rd w X (.sl sz xs) v) {m : Nat} {x : D} (hx : xs[m]? = some x) :
    ∃ blk off cap arr T fz, ∃ f : Nat → Value, v = .slice (some ⟨blk, off, none⟩) xs.length cap ∧ w.heap[blk]? = some (.cells arr T fz) ∧ ¬ X blk ∧
      (∀ (j : Nat) (c : D), x.cells[j]? = some c → arr[off + m * sz + j]? = some (f j)) ∧ ∀ (j : Nat) (c : D), x.cells[j]? = some c → Rd w X c (f j) := by
  cases h with
  | slnil => simp at hx
  | sle => simp at hx
  | sl _ _ blk off l cap arr T fz f hh hX hl _ _ h1 h2 =>
    exact ⟨blk, off, cap, arr, T, fz, f m, by rw [hl], hh, hX, fun j c hc => h1 m j x c hx hc, fun j c hc => h2 m j x c hx hc⟩

theorem iaddr_out {T : TypeId} {x ix : Operand} (ho : o.op = .indexAddr T x ix) (h : evK st x fun a => evK st ix fun i => iaddrK C st T a i fun r rd => K r [] rd) :
    ∃ out upd rd, K out upd rd ∧ VOp C n o nm st rd out upd := by
  replace h := evK_out h; obtain ⟨va, h1, h⟩ := h
  replace h := evK_out h; obtain ⟨vi, h2, h⟩ := h
  have hm1 : x ∈ o.op.operands := by rw [ho]; simp [Op.operands]
  have hm2 : ix ∈ o.op.operands := by rw [ho]; simp [Op.operands]
  unfold iaddrK at h
  replace h := lookK_out h; obtain ⟨ti, hti, h⟩ := h
  unfold intK at h
  split at h
  · rename_i ki j
    split at h
    · rename_i e sz xs hk
      replace h := lookK_out h; obtain ⟨te, hte, h⟩ := h
      split at h
      · rename_i hsz
        have hsz := Nat.eq_of_beq_eq_true hsz
        obtain ⟨m, y, rfl, hy, h⟩ := h
        refine ⟨_, _, _, h, VOp.pure fun X0 F w0 p α S a w hs he _ => ?_⟩
        have hi := ((h2.to hm2 he).read hs).dinv.iinv
        obtain ⟨blk, off, cap, arr, U, fz, f, hv, hh, hX, h3, h4⟩ := ((h1.to hm1 he).read hs).dinv.slget hy
        have hlt : m < xs.length := (List.getElem?_eq_some_iff.1 hy).1
        refine ⟨_, by simp [execOp, ho, hv, hi, run_indexAt_slice (C.ty hti) hk (C.ty hte) blk off xs.length cap m ki hlt]; rfl, ?_, .pp _ _⟩
        rw [hsz]
        exact .pp y 0 blk (off + m * sz) arr U fz f hh hX h3 h4
      · cases h
    · rename_i e k hk
      replace h := lookK_out h; obtain ⟨te, hte, h⟩ := h
      replace h := ownK_out h; obtain ⟨en, hen, h⟩ := h
      split at h
      · rename_i sz xs
        split at h
        · rename_i hsz
          have hsz := Nat.eq_of_beq_eq_true hsz
          obtain ⟨m, rfl, hm, h⟩ := h
          refine ⟨_, _, _, h, VOp.pure fun X0 F w0 p α S a w hs he ho' => ?_⟩
          have hi := ((h2.to hm2 he).read hs).dinv.iinv
          have hx := h1.to hm1 he
          have hr := hx.read hs
          generalize hv : a.eval x = v at hr
          cases hr
          rcases hs.own k _ (ho' k (by simp) _ hen) with ⟨_, ⟨sz', he'⟩, _⟩ | ⟨_, arr, U, fz, cap, hB⟩
          · cases he'; simp at hm
          · have hhv := hB.hv sz xs rfl
            rw [hhv] at hv
            refine ⟨_, by simp [execOp, ho, hv, hi, run_indexAt_slice (C.ty hti) hk (C.ty hte) (α k).blk (α k).off xs.length cap m ki hm]; rfl, ?_, ?_⟩
            · have hz := hB.hsz
              simp only [Ent.sz] at hz
              rw [hsz, ← hz]; exact .op k m 0
            · have := hx.ok hs; cases this with | os _ hk => exact .op _ _ _ hk
        · cases h
      · cases h
    · rename_i l e k hk
      replace h := lookK_out h; obtain ⟨te, hte, h⟩ := h
      replace h := ownK_out h; obtain ⟨en, hen, h⟩ := h
      split at h
      · rename_i sz xs
        split at h
        · rename_i hsz
          have hsz := Nat.eq_of_beq_eq_true hsz
          obtain ⟨hl, m, rfl, hm, h⟩ := h
          refine ⟨_, _, _, h, VOp.pure fun X0 F w0 p α S a w hs he ho' => ?_⟩
          have hi := ((h2.to hm2 he).read hs).dinv.iinv
          have hx := h1.to hm1 he
          have hr := hx.read hs
          generalize hv : a.eval x = v at hr
          cases hr
          rcases hs.own k _ (ho' k (by simp) _ hen) with ⟨_, ⟨sz', he'⟩, _⟩ | ⟨_, arr, U, fz, cap, hB⟩
          · cases he'
          · refine ⟨_, by simp [execOp, ho, hv, hi, run_indexAt_array (C.ty hti) hk (C.ty hte) (α k).blk _ m ki (by omega)]; rfl, ?_, ?_⟩
            · have hz := hB.hsz
              simp only [Ent.sz] at hz
              rw [hsz, ← hz]
              have := RdA.op (w := w) (α := α) (X := XX α S.own X0) k m 0
              simpa using this
            · have := hx.ok hs; cases this with | op _ _ _ hk => exact .op _ _ _ hk
        · cases h
      · cases h
    · rename_i l e g hk
      replace h := lookK_out h; obtain ⟨te, hte, h⟩ := h
      replace h := glK_out h; obtain ⟨gl, hgl, rfl, h⟩ := h
      split at h
      · rename_i hsz hl
        have hsz := Nat.eq_of_beq_eq_true hsz
        have hl := Nat.eq_of_beq_eq_true hl
        obtain ⟨m, y, rfl, hy, h⟩ := h
        refine ⟨_, _, _, h, VOp.pure fun X0 F w0 p α S a w hs he _ => ?_⟩
        have hi := ((h2.to hm2 he).read hs).dinv.iinv
        have hr := (h1.to hm1 he).read hs
        generalize hv : a.eval x = v at hr
        cases hr
        have hlt : m < gl.xs.length := (List.getElem?_eq_some_iff.1 hy).1
        obtain ⟨arr, U, fz, hh, hX, _, _, h4⟩ := gl_at hs hgl
        refine ⟨_, by simp [execOp, ho, hv, hi, run_indexAt_array (C.ty hti) hk (C.ty hte) gl.g 0 m ki (by omega)]; rfl, ?_, .pp _ _⟩
        rw [hsz]
        have hval : ∀ (j : Nat) (c : D), y.cells[j]? = some c → arr[m * gl.sz + j]? = some (arr.getD (m * gl.sz + j) undef) ∧ Rd w (XX α S.own X0) c (arr.getD (m * gl.sz + j) undef) := by
          intro j c hc
          obtain ⟨v, hv, hr⟩ := h4 m j y c hy hc
          simp [Array.getD_eq_getD_getElem?, hv, hr]
        have := RdA.pp (α := α) y 0 gl.g (m * gl.sz) arr U fz (fun j => arr.getD (m * gl.sz + j) undef) hh hX (fun j c hc => (hval j c hc).1) fun j c hc => (hval j c hc).2
        simpa using this
      · cases h
    · cases h
  · cases h

/-! #### Loads -/

structure AtK {β : Type} (xs : List β) (i : Nat) (K : β → Prop) : Prop where
  out : ∃ x, xs[i]? = some x ∧ K x
theorem at_is {β : Type} {xs : List β} {i : Nat} {K : β → Prop} {x : β} (h : xs[i]? = some x) (h1 : K x) : AtK xs i K := ⟨x, h, h1⟩

def loadK (C : Ctx) (st : AS) (T : TypeId) (a : AV) (K : AV → List Nat → Prop) : Prop :=
  lookK C.tab T fun ti => match a with
    | .pp x j => partK x j ti fun r => K r []
    | .gp g => glK C g fun gl => match gl.xs, gl.sz, ti.agg with | [d], 1, false => nthK d.cells 0 fun c => K (.d c) [] | _, _, _ => False
    | .op k i j => ownK st k fun en => match en with
      | .box cs => match i with
        | 0 => match ti.agg with
          | true => takeK cs j ti.size fun r => mkAggK r fun v => K v [k]
          | false => nthK cs j fun c => K c [k]
        | _ => False
      | .buf _ xs => AtK xs i fun x => partK x j ti fun r => K r [k]
      | .arr _ xs => AtK xs i fun x => partK x j ti fun r => K r [k]
    | _ => False

theorem cell_d {e : Ent} {xs : List D} (he : e.cell = fun i j => (xs[i]?).bind fun x => (x.cells[j]?).map .d) {i : Nat} {x : D} (hx : xs[i]? = some x) {m : Nat} {c : D} (hc : x.cells[m]? = some c) : e.cell i m = some (.d c) := by
  rw [he]; simp [hx, hc]

theorem load_elem {P : Program} {T : TypeId} {ti : TyI} (ht : TyOk P T ti) {w : World} {α : Nat → Loc} {X : Nat → Prop} {l : Loc} {e : Ent} {arr : Array Value} {U : TypeId} {fz : Nat × Nat} {cap : Nat}
    (hB : OwnB w α X l e arr U fz cap) {xs : List D} (he : e.cell = fun i j => (xs[i]?).bind fun x => (x.cells[j]?).map .d) {i j : Nat} {x d : D} (hx : xs[i]? = some x)
    (hd : (ti.agg = true ∧ ∃ r, d = .agg r ∧ r.length = ti.size ∧ ∀ m c, r[m]? = some c → x.cells[j + m]? = some c) ∨ (ti.agg = false ∧ x.cells[j]? = some d)) :
    ∃ v, (loadVar T ⟨l.blk, l.off + i * l.sz + j, none⟩).run P w = .ok v w ∧ Rd w X d v := by
  have hval : ∀ (m : Nat) (c : D), x.cells[m]? = some c → w.cell? ⟨l.blk, l.off + i * l.sz + m, none⟩ = some (arr.getD (l.off + i * l.sz + m) undef) ∧ Rd w X c (arr.getD (l.off + i * l.sz + m) undef) := by
    intro m c hc
    obtain ⟨v, hv, hr⟩ := hB.rd i m _ (cell_d he hx hc)
    rw [← hB.hsz] at hv
    rw [cell_of hB.heap]
    simp [Array.getD_eq_getD_getElem?, hv, hr.dinv]
  exact run_load_part ht hd (fun m c hc => (hval m c hc).1) fun m c hc => (hval m c hc).2

theorem load_core {T : TypeId} {va : AV} {K : AV → List Nat → Prop} (h : loadK C st T va K) :
    ∃ out rd, K out rd ∧ ∀ {X0 F w0} {p : Nat → Prop} {α S a w v0}, Sim C.G X0 F w0 n p α S a w → (∀ k, k ∈ rd → ∀ e, st.ss.own k = some e → S.own k = some e) → RdA w α (XX α S.own X0) va v0 →
      ∃ v, (∃ b, v0 = .pointer (some b) ∧ (loadVar T b).run C.P w = .ok v w) ∧ RdA w α (XX α S.own X0) out v ∧ out.ok p := by
  unfold loadK at h
  replace h := lookK_out h; obtain ⟨ti, hti, h⟩ := h
  split at h
  · rename_i y j
    replace h := partK_out h; obtain ⟨d, h, hd⟩ := h
    refine ⟨_, _, h, fun {X0 F w0 p α S a w v0} hs ho' hr => ?_⟩
    cases hr with
    | pp _ _ blk off arr U fz f hh hX h3 h4 =>
      obtain ⟨v, h5, h6⟩ := run_load_part (C.ty hti) hd (fun m c hc => by rw [cell_of hh]; exact h3 m c hc) h4
      exact ⟨v, ⟨_, rfl, h5⟩, .d _ _ h6, .d _⟩
  · rename_i g
    replace h := glK_out h; obtain ⟨gl, hgl, rfl, h⟩ := h
    split at h
    · rename_i d hxs hsz hagg
      replace h := nthK_out h; obtain ⟨c, hc, h⟩ := h
      refine ⟨_, _, h, fun {X0 F w0 p α S a w v0} hs ho' hr => ?_⟩
      cases hr
      obtain ⟨arr, U, fz, hh, hX, _, hw, h4⟩ := gl_at hs hgl
      obtain ⟨v, hv', hr⟩ := h4 0 0 d c (by rw [hxs]; rfl) hc
      exact ⟨v, ⟨_, rfl, run_loadVar_one (C.ty hti) hagg w _ _ (by rw [cell_of hh]; simpa using hv')⟩, .d _ _ hr, .d _⟩
    · cases h
  · rename_i k i j
    replace h := ownK_out h; obtain ⟨en, hen, h⟩ := h
    split at h
    · rename_i cs
      split at h
      · split at h
        · rename_i hagg
          replace h := takeK_out h; obtain ⟨r, hr1, hr2, h⟩ := h
          replace h := mkAggK_out h; obtain ⟨av, h, hok, hrd⟩ := h
          refine ⟨_, _, h, fun {X0 F w0 p α S a w v0} hs ho' hr => ?_⟩
          have hso := ho' k (by simp) _ hen
          cases hr
          rcases hs.own k _ hso with ⟨_, ⟨sz', he'⟩, _⟩ | ⟨_, arr, U, fz, cap, hB⟩
          · cases he'
          · have hval : ∀ (m : Nat) (c : AV), r[m]? = some c → w.cell? ⟨(α k).blk, (α k).off + 0 * (α k).sz + j + m, none⟩ = some (arr.getD ((α k).off + 0 * (α k).sz + j + m) undef) ∧
                RdA w α (XX α S.own X0) c (arr.getD ((α k).off + 0 * (α k).sz + j + m) undef) := by
              intro m c hc
              obtain ⟨v, hv, hr⟩ := hB.rd 0 (j + m) c (by simp [Ent.cell, hr2 m c hc])
              rw [cell_of hB.heap]
              rw [← hB.hsz, ← Nat.add_assoc] at hv
              simp only [Array.getD_eq_getD_getElem?, hv]
              exact ⟨rfl, hr⟩
            refine ⟨_, ⟨_, rfl, run_loadVar_agg (C.ty hti) hagg w _ _ _ fun m hm => (hval m (r[m]'(by omega)) (by simp [hr1, hm])).1⟩, ?_, hok _ fun c hc => ?_⟩
            · refine hrd w α _ _ (by simp [hr1]) fun m c v hm hv' => ?_
              have hlt : m < ti.size := by
                have := (List.getElem?_eq_some_iff.1 hm).1; omega
              simp [hlt] at hv'
              subst hv'
              have := (hval m c hm).2
              simpa [Array.getD_eq_getD_getElem?] using this
            · obtain ⟨m, hm⟩ := List.mem_iff_getElem?.1 hc
              exact (hs.oko k _ hso).2 c (List.mem_of_getElem? (hr2 m c hm))
        · rename_i hagg
          replace h := nthK_out h; obtain ⟨c, hc, h⟩ := h
          refine ⟨_, _, h, fun {X0 F w0 p α S a w v0} hs ho' hr => ?_⟩
          have hso := ho' k (by simp) _ hen
          cases hr
          rcases hs.own k _ hso with ⟨_, ⟨sz', he'⟩, _⟩ | ⟨_, arr, U, fz, cap, hB⟩
          · cases he'
          · obtain ⟨v, hv', hr⟩ := hB.rd 0 j c (by simp [Ent.cell, hc])
            rw [← hB.hsz] at hv'
            exact ⟨v, ⟨_, rfl, run_loadVar_one (C.ty hti) hagg w _ _ (by rw [cell_of hB.heap]; exact hv')⟩, hr, (hs.oko k _ hso).2 c (List.mem_of_getElem? hc)⟩
      · cases h
    · rename_i sz xs
      obtain ⟨y, hy, h⟩ := h
      replace h := partK_out h; obtain ⟨d, h, hd⟩ := h
      refine ⟨_, _, h, fun {X0 F w0 p α S a w v0} hs ho' hr => ?_⟩
      cases hr
      rcases hs.own k _ (ho' k (by simp) _ hen) with ⟨_, ⟨sz', he'⟩, _⟩ | ⟨_, arr, U, fz, cap, hB⟩
      · cases he'; simp at hy
      · obtain ⟨v, h5, h6⟩ := load_elem (C.ty hti) hB rfl hy hd
        exact ⟨v, ⟨_, rfl, h5⟩, .d _ _ h6, .d _⟩
    · rename_i sz xs
      obtain ⟨y, hy, h⟩ := h
      replace h := partK_out h; obtain ⟨d, h, hd⟩ := h
      refine ⟨_, _, h, fun {X0 F w0 p α S a w v0} hs ho' hr => ?_⟩
      cases hr
      rcases hs.own k _ (ho' k (by simp) _ hen) with ⟨_, ⟨sz', he'⟩, _⟩ | ⟨_, arr, U, fz, cap, hB⟩
      · cases he'
      · obtain ⟨v, h5, h6⟩ := load_elem (C.ty hti) hB rfl hy hd
        exact ⟨v, ⟨_, rfl, h5⟩, .d _ _ h6, .d _⟩
  · cases h

theorem load_out {T : TypeId} {x : Operand} (ho : o.op = .load T x) (h : evK st x fun a => loadK C st T a fun r rd => K r [] rd) :
    ∃ out upd rd, K out upd rd ∧ VOp C n o nm st rd out upd := by
  replace h := evK_out h; obtain ⟨va, h1, h⟩ := h
  have hmem : x ∈ o.op.operands := by rw [ho]; simp [Op.operands]
  obtain ⟨out, rd, hk, hrun⟩ := load_core (n := n) h
  refine ⟨_, _, _, hk, VOp.pure fun X0 F w0 p α S a w hs he ho' => ?_⟩
  obtain ⟨v, ⟨b, hb, hl⟩, hr, hok⟩ := hrun hs ho' ((h1.to hmem he).read hs)
  exact ⟨v, by simp [execOp, ho, hb, Instr.loadAt, Instr.sureAddr, hl], hr, hok⟩

end
end Go.Eng
