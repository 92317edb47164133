/-
  Assignments, variables, boxes, aggregates, rows, conversions between strings and bytes, slices: their reckoning, and that it speaks true.
-/
import Derived.Test.YtpogmmcfkdofhaaDoorEngI
namespace Go.Eng

section
variable {C : Ctx} {n : Nat} {o : Oper} {nm : Nat} {st : AS} {K : KO}

def assignK (nm : Nat) (a : AV) (K : KO) : Prop :=
  match a with
  | .nl sz => K (.os (16 * nm)) [(16 * nm, some (.buf sz []))] []
  | a => K a [] []

theorem assign_out {x : Operand} (ho : o.op = .assign x) (h : evTK C st o.type x fun a => assignK nm a K) : ∃ out upd rd, K out upd rd ∧ VOp C n o nm st rd out upd := by
  replace h := evTK_out h; obtain ⟨av, h1, h⟩ := h
  have hmem : x ∈ o.op.operands := by rw [ho]; simp [Op.operands]
  unfold assignK at h
  split at h
  · rename_i sz
    refine ⟨_, _, _, h, fun k oe hl => ?_, fun X0 F w0 p α S a w Q next hs he _ hp hd hn => ?_⟩
    · simp only [look] at hl
      split at hl
      · rename_i hb; rw [Nat.eq_of_beq_eq_true hb]; exact .inr (fam_mk nm 0 (by omega))
      · cases hl
    have hr := (h1.to hmem he).read hs
    generalize hv : a.eval x = v at hr
    cases hr
    let L : Loc := ⟨0, 0, sz, true, .slice none 0 0⟩
    have hpn : ¬ p (16 * nm) := hp _ (fam_mk nm 0 (by omega))
    have hLk : updLoc α (16 * nm) L (16 * nm) = L := by simp [updLoc]
    have hα : ∀ k, p k → updLoc α (16 * nm) L k = α k := by
      intro k hk
      have : k ≠ 16 * nm := fun h => hpn (h ▸ hk)
      simp [updLoc, this]
    have hlk : ∀ k oe, look [(16 * nm, some (Ent.buf sz []))] k = some oe → k = 16 * nm ∧ oe = some (Ent.buf sz []) := by
      intro k oe hl
      simp only [look] at hl
      split at hl
      · rename_i hb; exact ⟨Nat.eq_of_beq_eq_true hb, by cases hl; rfl⟩
      · cases hl
    have hrun : (execOp a.eval o).run C.P w = .ok (.value (.slice none 0 0)) w := by simp [execOp, ho, hv]
    refine wp_value hrun (hn (updLoc α (16 * nm) L) _ w ?_)
    refine hs.upd _ (fun k hk => .inl hk) _ w o.dst hd (.os (16 * nm)) _ _ hα (Nat.le_refl _) rfl rfl rfl (fun _ _ _ => rfl) ?_ ?_ ?_ ?_ ?_ (.os _ (.inr (fam_mk nm 0 (by omega))))
    · intro k e hl; obtain ⟨rfl, _⟩ := hlk k _ hl; exact .inr (fam_mk nm 0 (by omega))
    · intro k e hl hnil; obtain ⟨rfl, _⟩ := hlk k _ hl; rw [hLk] at hnil; cases hnil
    · intro k e k' e' hl hl' _ _ _; obtain ⟨rfl, _⟩ := hlk k _ hl; obtain ⟨rfl, _⟩ := hlk k' _ hl'; rfl
    · intro _ k e hl
      obtain ⟨rfl, h2⟩ := hlk k _ hl
      cases h2
      refine ⟨.inl ?_, fun x hx => by cases hx⟩
      rw [hLk]
      exact ⟨rfl, ⟨sz, rfl⟩, rfl⟩
    · intro _
      have := RdA.os (w := w) (α := updLoc α (16 * nm) L) (X := XX (updLoc α (16 * nm) L) (S.upd o.dst (.os (16 * nm)) [(16 * nm, some (Ent.buf sz []))]).own X0) (16 * nm) (by rw [hLk]; rfl)
      rw [hLk] at this
      exact this
  · refine ⟨_, _, _, h, VOp.pure fun X0 F w0 p α S a w hs he _ => ?_⟩
    have hx := h1.to hmem he
    exact ⟨a.eval x, by simp [execOp, ho], hx.read hs, hx.ok hs⟩

/-! #### New variables -/

def zdK : List AV → (List D → Prop) → Prop
  | [], K => K []
  | .d x :: l, K => match x.one with | true => zdK l fun r => K (x :: r) | false => False
  | .nl sz :: l, K => zdK l fun r => K (.sl sz [] :: r)
  | _ :: _, _ => False

theorem zdK_out {l : List AV} {K : List D → Prop} (h : zdK l K) : ∃ ds, K ds ∧ ds.length = l.length ∧ (∀ d, d ∈ ds → d.one = true) ∧
    ∀ w α X (j : Nat) (d : D) (a : AV) (v : Value), ds[j]? = some d → l[j]? = some a → RdA w α X a v → Rd w X d v := by
  induction l generalizing K with
  | nil => exact ⟨[], h, rfl, (fun d hd => by cases hd), fun w α X j d a v hd => by simp at hd⟩
  | cons b l ih =>
    cases b with
    | d x =>
      simp only [zdK] at h
      split at h
      · rename_i hone
        obtain ⟨ds, h1, h2, h3, h4⟩ := ih h
        refine ⟨x :: ds, h1, by simp [h2], fun d hd => ?_, fun w α X j d a v hd ha hr => ?_⟩
        · rcases List.mem_cons.1 hd with rfl | hd
          · exact hone
          · exact h3 d hd
        · cases j with
          | zero => simp at hd ha; subst hd ha; exact hr.dinv
          | succ j => exact h4 w α X j d a v (by simpa using hd) (by simpa using ha) hr
      · cases h
    | nl sz =>
      simp only [zdK] at h
      obtain ⟨ds, h1, h2, h3, h4⟩ := ih h
      refine ⟨.sl sz [] :: ds, h1, by simp [h2], fun d hd => ?_, fun w α X j d a v hd ha hr => ?_⟩
      · rcases List.mem_cons.1 hd with rfl | hd
        · rfl
        · exact h3 d hd
      · cases j with
        | zero =>
          simp at hd ha; subst hd ha
          cases hr; exact .slnil sz
        | succ j => exact h4 w α X j d a v (by simpa using hd) (by simpa using ha) hr
    | _ => simp only [zdK] at h

theorem one_cells {d : D} (h : d.one = true) : d.cells = [d] := by
  cases d <;> first | rfl | (simp [D.one] at h)

def allocK (C : Ctx) (nm : Nat) (T : TypeId) (K : KO) : Prop :=
  lookK C.tab T fun ti => match ti.kd with
    | .array _ e => lookK C.tab e fun te => match te.size with
      | 1 => zdK ti.zero fun ds => K (.op (16 * nm) 0 0) [(16 * nm, some (.arr 1 ds))] []
      | _ => False
    | _ => K (.op (16 * nm) 0 0) [(16 * nm, some (.box ti.zero))] []

theorem alloc_push (w : World) (o : Obj) : (w.alloc o).heap = w.heap.push o := rfl

theorem run_newVar {P : Program} (w : World) (T : TypeId) (v : Value) : (newVar T v).run P w = .ok ⟨w.heap.size, 0, none⟩ (w.alloc (.cells v.cells T)) := by
  simp [newVar, newRow]

/-- A variable's cells, as a box. -/
theorem made_box {w : World} {α : Nat → Loc} {X : Nat → Prop} {p : Nat → Prop} {cs : List AV} {v : Value} {T : TypeId} (hA : Alike w α X cs v.cells) (hok : ∀ c, c ∈ cs → c.ok p) (hone : ∀ c, c ∈ cs → c.one = true) :
    Made w (w.alloc (.cells v.cells T)) α X p (.box cs) (.bool false) v.cells T (0, 0) 1 := by
  refine ⟨rfl, rfl, rfl, rfl, Nat.le_refl _, ?_, fun o _ => by simp, hone, fun j m c hc => ?_, hok, fun sz xs h => (Ent.noConfusion h), rfl⟩
  · simp only [Ent.sz]; rw [hA.1]; omega
  · simp only [Ent.cell] at hc
    split at hc
    · rename_i hj
      subst hj
      have hlt : m < v.cells.size := by rw [← hA.1]; exact (List.getElem?_eq_some_iff.1 hc).1
      exact ⟨v.cells[m], by simp [hlt], hA.2 m c _ hc (by simp [hlt])⟩
    · cases hc

theorem made_arr {w : World} {α : Nat → Loc} {X : Nat → Prop} {p : Nat → Prop} {ds : List D} {v : Value} {T : TypeId} (hl : ds.length = v.cells.size) (hone : ∀ d, d ∈ ds → d.one = true)
    (hA : ∀ (j : Nat) (d : D) (u : Value), ds[j]? = some d → v.cells[j]? = some u → Rd w X d u) :
    Made w (w.alloc (.cells v.cells T)) α X p (.arr 1 ds) (.bool false) v.cells T (0, 0) ds.length := by
  refine ⟨rfl, rfl, rfl, rfl, Nat.le_refl _, ?_, fun o _ => by simp, fun j x hx => ?_, fun j m c hc => ?_, (fun x hx => by cases hx), fun sz xs h => (Ent.noConfusion h), rfl⟩
  · simp only [Ent.sz]; omega
  · have h1 := hone x (List.mem_of_getElem? hx)
    unfold D.wd; rw [one_cells h1]; exact ⟨rfl, fun c hc => by simp at hc; subst hc; exact h1⟩
  · simp only [Ent.cell, Option.bind_eq_some_iff, Option.map_eq_some_iff] at hc
    obtain ⟨x, hx, y, hy, rfl⟩ := hc
    rw [one_cells (hone x (List.mem_of_getElem? hx))] at hy
    have hlt : j < v.cells.size := by rw [← hl]; exact (List.getElem?_eq_some_iff.1 hx).1
    cases m with
    | zero =>
      simp at hy; subst hy
      exact ⟨v.cells[j], by simp [Ent.sz, hlt], .d _ _ (hA j x _ hx (by simp [hlt]))⟩
    | succ m => simp at hy

theorem alloc_out {T : TypeId} (ho : o.op = .alloc T) (h : allocK C nm T K) : ∃ out upd rd, K out upd rd ∧ VOp C n o nm st rd out upd := by
  unfold allocK at h
  replace h := lookK_out h; obtain ⟨ti, hti, h⟩ := h
  obtain ⟨z, hz, hzl⟩ := run_zero (C.ty hti)
  have run : ∀ (a : Act) (w : World), (execOp a.eval o).run C.P w = .ok (.value (.pointer (some ⟨w.heap.size, 0, none⟩))) (w.alloc (.cells z.cells T)) := by
    intro a w
    simp [execOp, ho, Instr.alloc, hz, run_newVar]
  have box : K (.op (16 * nm) 0 0) [(16 * nm, some (.box ti.zero))] [] → ∃ out upd rd, K out upd rd ∧ VOp C n o nm st rd out upd := by
    intro h
    exact ⟨_, _, _, h, VOp.make (kills := []) (fun _ hk => by cases hk) (.inr rfl) fun X0 F w0 p α S a w hs he _ =>
      ⟨_, _, _, _, _, _, made_box (zl_alike hzl) (zl_ok hzl) (zl_one hzl), run a w⟩⟩
  split at h
  · replace h := lookK_out h; obtain ⟨te, hte, h⟩ := h
    split at h
    · replace h := zdK_out h; obtain ⟨ds, h, h2, h3, h4⟩ := h
      refine ⟨_, _, _, h, VOp.make (kills := []) (fun _ hk => by cases hk) (.inr rfl) fun X0 F w0 p α S a w hs he _ => ⟨_, _, _, _, _, _, made_arr ?_ h3 ?_, run a w⟩⟩
      · have := (zl_get hzl).1; simp at this; omega
      · intro j d u hd hu
        obtain ⟨av, hav⟩ : ∃ av, ti.zero[j]? = some av := by
          have : j < ti.zero.length := by rw [← h2]; exact (List.getElem?_eq_some_iff.1 hd).1
          exact ⟨ti.zero[j], by simp [this]⟩
        exact h4 w α _ j d av u hd hav ((zl_alike hzl).2 j av u hav hu)
    · cases h
  · exact box h

def boxK (C : Ctx) (nm : Nat) (T : TypeId) (a : AV) (K : KO) : Prop :=
  lookK C.tab T fun ti => match ti.kd, a with
    | .array _ e, .d (.agg ds) => lookK C.tab e fun te => match te.size, ds.all D.one with
      | 1, true => K (.op (16 * nm) 0 0) [(16 * nm, some (.arr 1 ds))] []
      | _, _ => False
    | .array _ _, _ => False
    | _, a => cellsK a fun cs => K (.op (16 * nm) 0 0) [(16 * nm, some (.box cs))] []

theorem box_out {T : TypeId} {x : Operand} (ho : o.op = .box T x) (h : evTK C st T x fun a => boxK C nm T a K) : ∃ out upd rd, K out upd rd ∧ VOp C n o nm st rd out upd := by
  replace h := evTK_out h; obtain ⟨va, h1, h⟩ := h
  have hmem : x ∈ o.op.operands := by rw [ho]; simp [Op.operands]
  unfold boxK at h
  replace h := lookK_out h; obtain ⟨ti, hti, h⟩ := h
  have run : ∀ (a : Act) (w : World), (execOp a.eval o).run C.P w = .ok (.value (.pointer (some ⟨w.heap.size, 0, none⟩))) (w.alloc (.cells (a.eval x).cells T)) := by
    intro a w
    simp [execOp, ho, Instr.box, run_newVar]
  split at h
  · rename_i m e ds hk
    replace h := lookK_out h; obtain ⟨te, hte, h⟩ := h
    split at h
    · rename_i hall
      have hall := List.all_eq_true.1 hall
      refine ⟨_, _, _, h, VOp.make (kills := []) (fun _ hk => by cases hk) (.inr rfl) fun X0 F w0 p α S a w hs he _ => ?_⟩
      have hr := ((h1.to hmem he).read hs).dinv
      have hrun := run a w
      generalize hv : a.eval x = v at hr hrun
      cases hr with
      | agg _ vs hl hc => exact ⟨_, _, _, _, _, _, made_arr (v := .agg vs) hl hall hc, hrun⟩
    · cases h
  · cases h
  · replace h := cellsK_out h; obtain ⟨cs, h, hcs⟩ := h
    refine ⟨_, _, _, h, VOp.make (kills := []) (fun _ hk => by cases hk) (.inr rfl) fun X0 F w0 p α S a w hs he _ => ?_⟩
    have hx := h1.to hmem he
    obtain ⟨h3, h4⟩ := hcs.rd w α _ _ (hx.read hs)
    refine ⟨_, _, _, _, _, _, made_box ⟨h3.symm, fun j c v hc hv => ?_⟩ (hcs.ok p (hx.ok hs)) hcs.one, run a w⟩
    obtain ⟨u, h5, h6, _⟩ := h4 j c hc
    rw [hv] at h5; cases h5; exact h6

end
end Go.Eng
