/-
  Data out of slots; aggregates and rows built; strings and bytes; append; stores: their reckoning, and that it speaks true.
-/
import Derived.Test.YtpogmmcfkdofhaaDoorEngK
import Derived.Room.Entries
import Derived.Laws.Tables
import Derived.Great.BuildSlice
namespace Go.Eng

/-! #### A slot's value as data -/

def cdK (st : AS) (a : AV) (K : D → List Nat → Prop) : Prop :=
  match a with
  | .d x => K x []
  | .nl sz => K (.sl sz []) []
  | .os k => ownK st k fun e => match e with | .buf sz xs => K (.sl sz xs) [k] | _ => False
  | _ => False

def cdsK (st : AS) : List AV → (List D → List Nat → Prop) → Prop
  | [], K => K [] []
  | a :: l, K => cdK st a fun d us => cdsK st l fun ds vs => match us with | [] => K (d :: ds) vs | us => K (d :: ds) (us ++ vs)

def toDK (st : AS) (a : AV) (K : D → List Nat → Prop) : Prop :=
  match a with
  | .agg cs => cdsK st cs fun ds us => K (.agg ds) us
  | a => cdK st a K

structure ToD (st : AS) (a : AV) (d : D) (us : List Nat) : Prop where
  ent : ∀ k, k ∈ us → ∃ e, st.ss.own k = some e
  rd : ∀ w α X X' v, RdA w α X a v → (∀ k, k ∈ us → ∀ e, st.ss.own k = some e → Own w α X k e) → (∀ b, X' b → X b) → (∀ k, k ∈ us → (α k).nil = false → ¬ X' (α k).blk) → Rd w X' d v

theorem cdK_out {st : AS} {a : AV} {K : D → List Nat → Prop} (h : cdK st a K) : ∃ d us, K d us ∧ ToD st a d us := by
  unfold cdK at h
  split at h
  · exact ⟨_, _, h, (fun k hk => by cases hk), fun w α X X' v hr _ hX _ => hr.dinv.mono fun b o hb hn => ⟨hb, fun h => hn (hX b h)⟩⟩
  · exact ⟨_, _, h, (fun k hk => by cases hk), fun w α X X' v hr _ _ _ => by cases hr; exact .slnil _⟩
  · rename_i k
    replace h := ownK_out h; obtain ⟨e, he, h⟩ := h
    split at h
    · refine ⟨_, _, h, fun j hj => ?_, fun w α X X' v hr ho hX hb => ?_⟩
      · simp at hj; subst hj; exact ⟨_, he⟩
      · cases hr; exact own_read (ho k (by simp) _ he) hX (hb k (by simp))
    · cases h
  · cases h

theorem cdsK_out {st : AS} {l : List AV} {K : List D → List Nat → Prop} (h : cdsK st l K) :
    ∃ ds us, K ds us ∧ ds.length = l.length ∧ (∀ k, k ∈ us → ∃ e, st.ss.own k = some e) ∧ ∀ (j : Nat) (a : AV) (d : D), l[j]? = some a → ds[j]? = some d → ∃ vs, ToD st a d vs ∧ ∀ k, k ∈ vs → k ∈ us := by
  induction l generalizing K with
  | nil => exact ⟨[], [], h, rfl, (fun k hk => by cases hk), fun j a d hj => by simp at hj⟩
  | cons a l ih =>
    obtain ⟨d, us, h, h1⟩ := cdK_out h
    obtain ⟨ds, vs, h, h2, h3, h4⟩ := ih h
    have fin : ∀ ws, (∀ k, k ∈ ws ↔ k ∈ us ∨ k ∈ vs) → K (d :: ds) ws → ∃ ds us, K ds us ∧ ds.length = (a :: l).length ∧ (∀ k, k ∈ us → ∃ e, st.ss.own k = some e) ∧
        ∀ (j : Nat) (b : AV) (d : D), (a :: l)[j]? = some b → ds[j]? = some d → ∃ vs, ToD st b d vs ∧ ∀ k, k ∈ vs → k ∈ us := by
      intro ws hws hk
      refine ⟨_, _, hk, by simp [h2], fun k hk => ?_, fun j b d' hj hd => ?_⟩
      · rcases (hws k).1 hk with h | h
        · exact h1.ent k h
        · exact h3 k h
      · cases j with
        | zero => simp at hj hd; subst hj hd; exact ⟨us, h1, fun k hk => (hws k).2 (.inl hk)⟩
        | succ j =>
          obtain ⟨vs', h5, h6⟩ := h4 j b d' (by simpa using hj) (by simpa using hd)
          exact ⟨vs', h5, fun k hk => (hws k).2 (.inr (h6 k hk))⟩
    split at h
    · exact fin vs (fun k => by simp) h
    · exact fin _ (fun k => by simp) h

theorem toDK_out {st : AS} {a : AV} {K : D → List Nat → Prop} (h : toDK st a K) : ∃ d us, K d us ∧ ToD st a d us := by
  unfold toDK at h
  split at h
  · rename_i cs
    obtain ⟨ds, us, h, h1, h2, h3⟩ := cdsK_out h
    refine ⟨_, _, h, h2, fun w α X X' v hr ho hX hb => ?_⟩
    cases hr with
    | agg _ vs hl hc =>
      refine .agg ds vs (by omega) fun j d u hd hu => ?_
      obtain ⟨a, ha⟩ : ∃ a, cs[j]? = some a := by
        have : j < cs.length := by rw [← h1]; exact (List.getElem?_eq_some_iff.1 hd).1
        exact ⟨cs[j], by simp [this]⟩
      obtain ⟨vs', h4, h5⟩ := h3 j a d ha hd
      exact h4.rd w α X X' u (hc j a u ha hu) (fun k hk => ho k (h5 k hk)) hX fun k hk => hb k (h5 k hk)
  · exact cdK_out h

/-! #### Aggregates -/

section
variable {C : Ctx} {n : Nat} {o : Oper} {nm : Nat} {st : AS} {K : KO}

/-- The parts, each with where it goes, in turn. -/
def partsK (C : Ctx) (st : AS) (place : Nat → (Nat × Nat → Prop) → Prop) : List (Nat × Operand) → List AV → (List AV → Prop) → Prop
  | [], cs, K => K cs
  | (i, x) :: ps, cs, K => place i fun pt => lookK C.tab pt.2 fun te => evTK C st pt.2 x fun a => cellsK a fun new =>
      match Nat.beq new.length te.size with
      | true => setK cs pt.1 new fun r => partsK C st place ps r K
      | false => False

theorem partsK_out {place : Nat → (Nat × Nat → Prop) → Prop} {pl : Nat → Option (Nat × Nat)} {ps : List (Nat × Operand)} {cs : List AV} {K : List AV → Prop}
    (hpl : ∀ i K, place i K → ∃ pt : Nat × Nat, K pt ∧ ∀ te, look C.tab pt.2 = some te → pl i = some (pt.1, te.size))
    (hmem : ∀ i x, (i, x) ∈ ps → x ∈ o.op.operands) (h : partsK C st place ps cs K) :
    ∃ r, K r ∧ r.length = cs.length ∧ (∀ X0 F w0 p α S a w, Sim C.G X0 F w0 n p α S a w → (∀ t, Operand.tmp t ∈ o.op.operands → ∀ av, st.ss.env t = some av → S.env t = some av) →
      (∀ c, c ∈ cs → c.ok p) → ∀ vs, Alike w α (XX α S.own X0) cs vs → ∃ vs', Instr.fill pl vs (ps.map fun (i, x) => (i, a.eval x)) = some vs' ∧ Alike w α (XX α S.own X0) r vs' ∧ ∀ c, c ∈ r → c.ok p) := by
  induction ps generalizing cs with
  | nil => exact ⟨cs, h, rfl, fun X0 F w0 p α S a w _ _ hok vs hA => ⟨vs, rfl, hA, hok⟩⟩
  | cons y ps ih =>
    obtain ⟨i, x⟩ := y
    simp only [partsK] at h
    obtain ⟨pt, h, hp⟩ := hpl i _ h
    replace h := lookK_out h; obtain ⟨te, hte, h⟩ := h
    replace h := evTK_out h; obtain ⟨av, h1, h⟩ := h
    replace h := cellsK_out h; obtain ⟨new, h, h2⟩ := h
    split at h
    · rename_i hlen
      have hlen := Nat.eq_of_beq_eq_true hlen
      replace h := setK_out h; obtain ⟨r, h, h3, h4, h5⟩ := h
      obtain ⟨r', h, h6, h7⟩ := ih (fun i x hx => hmem i x (List.mem_cons_of_mem _ hx)) h
      refine ⟨r', h, by omega, fun X0 F w0 p α S a w hs he hok vs hA => ?_⟩
      have hx := h1.to (hmem i x List.mem_cons_self) he
      have hA' := alike_set hA h2 (hx.read hs) h3 h4 h5
      have hok' : ∀ c, c ∈ r → c.ok p := by
        intro c hc
        obtain ⟨j, hj⟩ := List.mem_iff_getElem?.1 hc
        rw [h5 j] at hj
        split at hj
        · exact h2.ok p (hx.ok hs) c (List.mem_of_getElem? hj)
        · exact hok c (List.mem_of_getElem? hj)
      obtain ⟨vs', h8, h9⟩ := h7 X0 F w0 p α S a w hs he hok' _ hA'
      refine ⟨vs', ?_, h9⟩
      have hsz := (h2.rd w α _ _ (hx.read hs)).1
      simp only [List.map_cons, Instr.fill, hp te hte]
      rw [if_neg]
      · exact h8
      · simp only [ne_eq, Bool.or_eq_true, decide_eq_true_eq]
        have := hA.1
        simp only [not_or, Decidable.not_not, Nat.not_lt]
        omega
    · cases h

def buildK (C : Ctx) (st : AS) (T : TypeId) (ps : List (Nat × Operand)) (K : AV → Prop) : Prop :=
  lookK C.tab T fun ti => match ti.kd with
    | .struct os => partsK C st (fun i K => nthK os i K) ps ti.zero fun r => mkAggK r K
    | .array _ e => lookK C.tab e fun te => partsK C st (fun i K => K (i * te.size, e)) ps ti.zero fun r => mkAggK r K
    | _ => False

theorem places_of {P : Program} {os : List (Nat × Nat)} : ∀ {fs : List Field}, offsB P os fs = true →
    ∃ r, fs.mapM (fun f => (P.info? f.type).map fun i => (f.offset, i.size)) = some r ∧ ∀ (j : Nat) (x : Nat × Nat), os[j]? = some x → ∃ i, P.info? x.2 = some i ∧ r[j]? = some (x.1, i.size) := by
  induction os with
  | nil => intro fs h; cases fs <;> simp [offsB] at h; exact ⟨[], by simp, fun j x hx => by simp at hx⟩
  | cons o os ih =>
    intro fs h
    cases fs with
    | nil => simp [offsB] at h
    | cons f fs =>
      simp only [offsB, Bool.and_eq_true] at h
      obtain ⟨⟨⟨h1, h2⟩, h3⟩, h4⟩ := h
      obtain ⟨r, h5, h6⟩ := ih h4
      split at h3
      · rename_i i hi
        refine ⟨(f.offset, i.size) :: r, by simp [hi, h5], fun j x hx => ?_⟩
        cases j with
        | zero =>
          simp at hx; subst hx
          exact ⟨i, by rw [Nat.eq_of_beq_eq_true h2]; exact hi, by simp [Nat.eq_of_beq_eq_true h1]⟩
        | succ j => simpa using h6 j x (by simpa using hx)
      · cases h3

theorem build_out {T : TypeId} {ps : Array (Nat × Operand)} (ho : o.op = .build T ps) (h : buildK C st T ps.toList fun r => K r [] []) : ∃ out upd rd, K out upd rd ∧ VOp C n o nm st rd out upd := by
  have hmem : ∀ i x, (i, x) ∈ ps.toList → x ∈ o.op.operands := by
    intro i x hx
    rw [ho]
    simp only [Op.operands, List.mem_toArray]
    exact List.mem_map.2 ⟨(i, x), hx, rfl⟩
  unfold buildK at h
  replace h := lookK_out h; obtain ⟨ti, hti, h⟩ := h
  have hty := C.ty hti
  obtain ⟨⟨it, hit, hits, _, z, hz, hzl⟩, _⟩ := C.ty hti
  have fin : ∀ (pl : Nat → Option (Nat × Nat)) (r : List AV) , (∀ (parts : List (Nat × Value)) cells, Instr.fill pl z.cells parts = some cells → C.P.built T parts = some cells) →
      (∀ X0 F w0 p α S a w, Sim C.G X0 F w0 n p α S a w → (∀ t, Operand.tmp t ∈ o.op.operands → ∀ av, st.ss.env t = some av → S.env t = some av) →
      (∀ c, c ∈ ti.zero → c.ok p) → ∀ vs, Alike w α (XX α S.own X0) ti.zero vs → ∃ vs', Instr.fill pl vs (ps.toList.map fun (i, x) => (i, a.eval x)) = some vs' ∧ Alike w α (XX α S.own X0) r vs' ∧ ∀ c, c ∈ r → c.ok p) →
      mkAggK r (fun r => K r [] []) → ∃ out upd rd, K out upd rd ∧ VOp C n o nm st rd out upd := by
    intro pl r hbuilt hr hk
    obtain ⟨av, hk, hok, hrd⟩ := mkAggK_out hk
    refine ⟨_, _, _, hk, VOp.pure fun X0 F w0 p α S a w hs he _ => ?_⟩
    obtain ⟨vs', h1, h2, h3⟩ := hr X0 F w0 p α S a w hs he (zl_ok hzl) z.cells (zl_alike hzl)
    refine ⟨.agg vs', ?_, hrd w α _ vs' h2.1 h2.2, hok p h3⟩
    have := run_build (P := C.P) w T (ps.map fun (i, x) => (i, a.eval x)) vs' (by rw [Array.toList_map]; exact hbuilt _ _ h1)
    simp only [execOp, ho, Sem.run_bind, this, Result.andThen_ok]
    rfl
  split at h
  · rename_i os hk
    obtain ⟨fs, hu, hB⟩ := und_struct hty hk
    obtain ⟨places, hpl, hpl2⟩ := places_of hB
    obtain ⟨r, h, _, hr⟩ := partsK_out (n := n) (o := o) (pl := fun i => places.toArray[i]?) (fun i K hK => by
      obtain ⟨x, h1, h2⟩ := nthK_out hK
      refine ⟨x, h2, fun te hte => ?_⟩
      obtain ⟨ii, h3, h4⟩ := hpl2 i x h1
      obtain ⟨⟨i2, h5, h6, _⟩, _⟩ := C.ty hte
      rw [h3] at h5; cases h5
      simp [h4, h6]) hmem h
    refine fin _ r (fun parts cells hf => ?_) hr h
    simp only [Program.built, hit, hu, hz, hpl]; exact hf
  · rename_i m e hk
    have hu := und_array hty hk
    replace h := lookK_out h; obtain ⟨te, hte, h⟩ := h
    obtain ⟨⟨ie, hie, hies, _⟩, _⟩ := C.ty hte
    obtain ⟨r, h, _, hr⟩ := partsK_out (n := n) (o := o) (pl := fun i => some (i * ie.size, ie.size)) (fun i K hK => by
      refine ⟨(i * te.size, e), hK, fun te' hte' => ?_⟩
      rw [hte] at hte'; cases hte'
      simp [hies]) hmem h
    refine fin _ r (fun parts cells hf => ?_) hr h
    simp only [Program.built, hit, hu, hz, hie]; exact hf
  · cases h

/-! #### A row of literals -/

def chunkK (sz : Nat) (agg : Bool) : Nat → List D → (List D → Prop) → Prop
  | 0, [], K => K []
  | 0, _ :: _, _ => False
  | m + 1, l, K => match agg with
    | true => takeK l 0 sz fun x => dropK sz l fun r => chunkK sz agg m r fun ds => K (.agg x :: ds)
    | false => match l with | x :: r => chunkK sz agg m r fun ds => K (x :: ds) | [] => False
where
  dropK : Nat → List D → (List D → Prop) → Prop
  | 0, l, K => K l
  | j + 1, _ :: l, K => dropK j l K
  | _ + 1, [], _ => False

theorem dropK_out {j : Nat} {l : List D} {K : List D → Prop} (h : chunkK.dropK j l K) : K (l.drop j) ∧ j ≤ l.length := by
  induction j generalizing l with
  | zero => exact ⟨h, by omega⟩
  | succ j ih =>
    cases l with
    | nil => cases h
    | cons x l => obtain ⟨h1, h2⟩ := ih h; exact ⟨h1, by simp; omega⟩

theorem chunkK_out {sz : Nat} {agg : Bool} {m : Nat} {l : List D} {K : List D → Prop} (h0 : ∀ d, d ∈ l → d.one = true) (h1 : agg = false → sz = 1) (h : chunkK sz agg m l K) :
    ∃ ds, K ds ∧ ds.length = m ∧ l.length = m * sz ∧ (∀ (j : Nat) (x : D), ds[j]? = some x → x.wd sz) ∧ ∀ (j i : Nat) (x c : D), ds[j]? = some x → x.cells[i]? = some c → l[j * sz + i]? = some c := by
  induction m generalizing l K with
  | zero =>
    cases l with
    | nil => exact ⟨[], h, rfl, by simp, (fun j x hx => by simp at hx), fun j i x c hx => by simp at hx⟩
    | cons => simp only [chunkK] at h
  | succ m ih =>
    simp only [chunkK] at h
    split at h
    · replace h := takeK_out h; obtain ⟨x, hx1, hx2, h⟩ := h
      replace h := dropK_out h; obtain ⟨h, hle⟩ := h
      obtain ⟨ds, h, h2, h3, h4, h5⟩ := ih (fun d hd => h0 d (List.mem_of_mem_drop hd)) h
      refine ⟨_, h, by simp [h2], ?_, fun j y hy => ?_, fun j i y c hy hc => ?_⟩
      · simp at h3; rw [Nat.add_mul]; omega
      · cases j with
        | zero =>
          simp at hy; subst hy
          refine ⟨hx1, fun c hc => ?_⟩
          obtain ⟨i, hi⟩ := List.mem_iff_getElem?.1 hc
          have := hx2 i c hi
          exact h0 c (List.mem_of_getElem? this)
        | succ j => exact h4 j y (by simpa using hy)
      · cases j with
        | zero => simp at hy; subst hy; simpa using hx2 i c hc
        | succ j =>
          have := h5 j i y c (by simpa using hy) hc
          rw [List.getElem?_drop] at this
          rw [← this]; congr 1; rw [Nat.add_mul]; omega
    · obtain rfl := h1 rfl
      cases l with
      | nil => cases h
      | cons x r =>
        obtain ⟨ds, h, h2, h3, h4, h5⟩ := ih (fun d hd => h0 d (List.mem_cons_of_mem _ hd)) h
        have hx1 := h0 x List.mem_cons_self
        have hx := one_cells hx1
        refine ⟨_, h, by simp [h2], by simp at h3 ⊢; omega, fun j y hy => ?_, fun j i y c hy hc => ?_⟩
        · cases j with
          | zero => simp at hy; subst hy; unfold D.wd; rw [hx]; exact ⟨rfl, fun c hc => by simp at hc; subst hc; exact hx1⟩
          | succ j => exact h4 j y (by simpa using hy)
        · cases j with
          | zero =>
            simp at hy; subst hy; rw [hx] at hc
            cases i with
            | zero => simpa using hc
            | succ i => simp at hc
          | succ j =>
            have := h5 j i y c (by simpa using hy) hc
            simp only [Nat.mul_one] at this ⊢
            rw [show j + 1 + i = (j + i) + 1 by omega]; simpa using this

def anysK : Nat → (List AV → Prop) → Prop
  | 0, K => K []
  | m + 1, K => anysK m fun l => K (.any :: l)

theorem anysK_out {m : Nat} {K : List AV → Prop} (h : anysK m K) : K (List.replicate m .any) := by
  induction m generalizing K with
  | zero => exact h
  | succ m ih => exact ih (K := fun l => K (.any :: l)) h

def rowK (C : Ctx) (st : AS) (nm : Nat) (T : TypeId) (len : Nat) (ps : List (Nat × Operand)) (K : KO) : Prop :=
  lookK C.tab T fun ti => match ti.kd with
    | .slice e => lookK C.tab e fun te => match len with
      | 0 => match ps with | [] => K (.os (16 * nm)) [(16 * nm, some (.buf te.size []))] [] | _ => False
      | len => match Nat.ble 1 (len * te.size), Nat.ble (len * te.size) 16777216 with
        | true, true => anysK (len * te.size) fun cs => partsK C st (fun i K => K (i * te.size, e)) ps cs fun r => allDK r (fun l => match te.agg, l.all D.one with
          | true, true => chunkK te.size true len l fun ds => K (.os (16 * nm)) [(16 * nm, some (.buf te.size ds))] []
          | false, true => match Nat.beq te.size 1 with
            | true => chunkK te.size false len l fun ds => K (.os (16 * nm)) [(16 * nm, some (.buf te.size ds))] []
            | _ => False
          | _, _ => False) False
        | _, _ => False
    | _ => False

theorem row_out {T : TypeId} {len : Nat} {ps : Array (Nat × Operand)} (ho : o.op = .buildSlice T len ps) (h : rowK C st nm T len ps.toList K) : ∃ out upd rd, K out upd rd ∧ VOp C n o nm st rd out upd := by
  have hmem : ∀ i x, (i, x) ∈ ps.toList → x ∈ o.op.operands := by
    intro i x hx
    rw [ho]
    simp only [Op.operands, List.mem_toArray]
    exact List.mem_map.2 ⟨(i, x), hx, rfl⟩
  unfold rowK at h
  replace h := lookK_out h; obtain ⟨ti, hti, h⟩ := h
  split at h
  · rename_i e hk
    have hu := und_slice (C.ty hti) hk
    replace h := lookK_out h; obtain ⟨te, hte, h⟩ := h
    obtain ⟨⟨ie, hie, hies, _, z, hz, hzl⟩, _⟩ := C.ty hte
    split at h
    · split at h
      · rename_i hps
        refine ⟨_, _, _, h, VOp.make (kills := []) (fun _ hk => by cases hk) (.inl rfl) fun X0 F w0 p α S a w hs he _ => ?_⟩
        refine ⟨w.alloc (.cells #[] e), .slice (some ⟨w.heap.size, 0, none⟩) 0 0, #[], e, (0, 0), 0, ⟨rfl, rfl, rfl, rfl, Nat.le_refl _, by simp, (fun o ho => by simp), (fun j x hx => by simp at hx), ?_, (fun x hx => by cases hx), ?_, rfl⟩, ?_⟩
        · intro j m c hc; simp [Ent.cell] at hc
        · intro sz xs h; cases h; rfl
        · have hps' : ps = #[] := by cases ps; simp_all
          simp [execOp, ho, Instr.buildSlice, underlying, hu, sizeOf, typeInfo, hie, hps', Instr.fill, newRow]
          exact congrArg (fun x => w.alloc (.cells x e)) (Array.eq_empty_of_size_eq_zero (by simp))
      · cases h
    · split at h
      · rename_i hb1 hb2
        have hb1 := Nat.le_of_ble_eq_true hb1
        have hb2 := Nat.le_of_ble_eq_true hb2
        replace h := anysK_out h
        obtain ⟨r, h, hrl, hr⟩ := partsK_out (n := n) (o := o) (pl := fun i => some (i * ie.size, ie.size)) (fun i K hK => by
          refine ⟨(i * te.size, e), hK, fun te' hte' => ?_⟩
          rw [hte] at hte'; cases hte'
          simp [hies]) hmem h
        rcases allDK_out h with ⟨l, rfl, h8⟩ | h8
        · have fin : ∀ ds, K (.os (16 * nm)) [(16 * nm, some (.buf te.size ds))] [] → ds.length = len → l.length = len * te.size → (∀ (j : Nat) (x : D), ds[j]? = some x → x.wd te.size) →
              (∀ (j i : Nat) (x c : D), ds[j]? = some x → x.cells[i]? = some c → l[j * te.size + i]? = some c) → ∃ out upd rd, K out upd rd ∧ VOp C n o nm st rd out upd := by
            intro ds hK h1 h2 h3 h4
            refine ⟨_, _, _, hK, VOp.make (kills := []) (fun _ hk => by cases hk) (.inl rfl) fun X0 F w0 p α S a w hs he _ => ?_⟩
            obtain ⟨vs', h5, h6, _⟩ := hr X0 F w0 p α S a w hs he (fun c hc => by rw [List.eq_of_mem_replicate hc]; exact .any)
              ((Array.range (len * ie.size)).map (z.cells[· % z.cells.size]!)) ⟨by simp [hies], fun j c v hc _ => by
                have := List.mem_of_getElem? hc
                rw [List.eq_of_mem_replicate this]; exact .any v⟩
            have hrun := run_buildSlice (P := C.P) w T e len (ps.map fun (i, x) => (i, a.eval x)) vs' ie z hu hie hz (by rw [hies]; omega) (by rw [hies]; omega) (by rw [Array.toList_map]; exact h5)
            refine ⟨w.alloc (.cells vs' e), .slice (some ⟨w.heap.size, 0, none⟩) len len, vs', e, (0, 0), len, ⟨rfl, rfl, rfl, rfl, by simp [Ent.len, h1], ?_, (fun o ho => by simp), h3, ?_, (fun x hx => by cases hx), ?_, rfl⟩, ?_⟩
            · have := h6.1; simp only [Ent.sz]; simp at this; omega
            · intro j m c hc
              simp only [Ent.cell, Option.bind_eq_some_iff, Option.map_eq_some_iff] at hc
              obtain ⟨x, hx, y, hy, rfl⟩ := hc
              have h7 := h4 j m x y hx hy
              have hlt : j * te.size + m < vs'.size := by
                have := (List.getElem?_eq_some_iff.1 h7).1
                have := h6.1; simp at this; omega
              exact ⟨vs'[j * te.size + m], by simp [Ent.sz, hlt], h6.2 (j * te.size + m) (.d y) _ (by simp [h7]) (by simp [hlt])⟩
            · intro sz xs h; cases h; rw [h1]
            · simp only [execOp, ho, Sem.run_bind, hrun, Result.andThen_ok]; rfl
          split at h8
          · rename_i hall
            obtain ⟨ds, hK, h1, h2, h3, h4⟩ := chunkK_out (List.all_eq_true.1 hall) (fun hf => by cases hf) h8
            exact fin ds hK h1 h2 h3 h4
          · rename_i hall
            split at h8
            · rename_i hb
              obtain ⟨ds, hK, h1, h2, h3, h4⟩ := chunkK_out (List.all_eq_true.1 hall) (fun _ => Nat.eq_of_beq_eq_true hb) h8
              exact fin ds hK h1 h2 h3 h4
            · cases h8
          · cases h8
        · cases h8
      · cases h
  · cases h

end
end Go.Eng
