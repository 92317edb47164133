/-
  Append as an operation; calls of functions that have a contract: their reckoning, and that it speaks true.
-/
import Derived.Test.YtpogmmcfkdofhaaDoorEngO
namespace Go.Eng
open Go.RowKit (Below)

section
variable {C : Ctx} {n : Nat} {o : Oper} {nm : Nat} {st : AS} {K : KO}

def appendK (C : Ctx) (st : AS) (nm : Nat) (T Tx : TypeId) (s x : AV) (K : KO) : Prop :=
  lookK C.tab T fun ti => match ti.kd with
    | .slice e => lookK C.tab e fun te => match Nat.ble te.bytes 2048, Nat.beq te.zero.length te.size with
      | true, true => srcK C st te.size Tx x fun ys us => match s with
        | .nl _ => AppK ys.length (K (.os (16 * nm)) [(16 * nm, some (.buf te.size ys))] us)
        | .os k => ownK st k fun en => match en with
          | .buf sz xs => match Nat.beq sz te.size with
            | true => AppK (xs.length + ys.length) (K (.os (16 * nm)) [(16 * nm, some (.buf te.size (xs ++ ys))), (k, none)] (k :: us))
            | false => False
          | _ => False
        | _ => False
      | _, _ => False
    | _ => False

theorem append_run {c : Call} {s x : Operand} {T Tx : TypeId} (ho : o.op = .call c) (hc : c.callee = .builtin .append) (ha : c.args = #[s, x]) (hT : c.argTypes = #[T, Tx]) {P : Program} {a : Act} {w w' : World} {v : Value}
    (h : (Builtin.append_ #[T, Tx] o.type #[a.eval s, a.eval x]).run P w = .ok v w') : (execOp a.eval o).run P w = .ok (.value v) w' := by
  simp [execOp, ho, resolve, hc, ha, hT, invoke, builtin, h]

theorem append_out {c : Call} {s x : Operand} {T Tx : TypeId} (ho : o.op = .call c) (hc : c.callee = .builtin .append) (ha : c.args = #[s, x]) (hT : c.argTypes = #[T, Tx])
    (h : evTK C st T s fun a => evTK C st Tx x fun b => appendK C st nm T Tx a b K) : ∃ out upd rd, K out upd rd ∧ VOp C n o nm st rd out upd := by
  replace h := evTK_out h; obtain ⟨sa, h1, h⟩ := h
  replace h := evTK_out h; obtain ⟨xa, h2, h⟩ := h
  have hm1 : s ∈ o.op.operands := by rw [ho]; simp [Op.operands, Call.operands, hc, ha]
  have hm2 : x ∈ o.op.operands := by rw [ho]; simp [Op.operands, Call.operands, hc, ha]
  unfold appendK at h
  replace h := lookK_out h; obtain ⟨ti, hti, h⟩ := h
  split at h
  · rename_i e hk
    have hu := und_slice (C.ty hti) hk
    replace h := lookK_out h; obtain ⟨te, hte, h⟩ := h
    split at h
    · rename_i hby hz
      have hby := Nat.le_of_ble_eq_true hby
      have hz := Nat.eq_of_beq_eq_true hz
      replace h := srcK_out h; obtain ⟨ys, us, h, hsrc⟩ := h
      split at h
      · rename_i sz0
        obtain ⟨hle, h⟩ := h
        refine ⟨_, _, _, h, fun k oe hl => ?_, fun X0 F w0 p α S a w Q next hs he ho' hp hd hn => ?_⟩
        · simp only [look] at hl
          split at hl
          · rename_i hb; rw [Nat.eq_of_beq_eq_true hb]; exact .inr (fam_mk nm 0 (by omega))
          · cases hl
        have hr := (h1.to hm1 he).read hs
        generalize hv : a.eval s = sv at hr
        cases hr
        obtain ⟨nw, hso⟩ := hsrc hs ho' _ ((h2.to hm2 he).read hs)
        by_cases hy : ys.length = 0
        · have hys : ys = [] := List.eq_nil_of_length_eq_zero hy
          subst hys
          have hn0 : nw = [] := List.eq_nil_of_length_eq_zero (by have := hso.src.newsLen; simpa using this)
          subst hn0
          obtain ⟨⟨i, hi, his, _⟩, _⟩ := C.ty hte
          have hrun : (Builtin.append_ #[T, Tx] o.type #[.slice none 0 0, a.eval x]).run C.P w = .ok (.slice none 0 0) w := by
            have hcc := hso.src.cells
            rcases hso.src.kind with ⟨e', hk⟩ | hk <;> simp [Builtin.append_, run_underlying hu, run_underlying hk, sizeOf, typeInfo, hi, his, hso.src.len]
            all_goals (first | simpa using hcc | (simp at hcc; simp [hcc]))
          obtain ⟨α', hS⟩ := hs.nilrow hp te.size [] o.dst hd
          exact wp_value (append_run ho hc ha hT (by rw [hv]; exact hrun)) (hn α' _ w hS)
        · obtain ⟨w', hv', arr, cap, hM, hrun⟩ := app_grow (α := α) (p := p) (ty := o.type) (xs := []) (base := none) (sCap := 0) (ol := []) hu (C.ty hte) hz hby hso (run_firstCells_none _ _ _ _ _) (by simp) (fun j x hx => by simp at hx) (fun j m x c hx => by simp at hx)
            (by simp; omega) (by simpa using hle)
          obtain ⟨α', hS⟩ := hs.make hp hM [] o.dst hd (.os (16 * nm)) (.inl rfl)
          exact wp_value (append_run ho hc ha hT (by rw [hv]; exact hrun)) (hn α' _ w' hS)
      · rename_i k
        replace h := ownK_out h; obtain ⟨en, hen, h⟩ := h
        split at h
        · rename_i sz xs
          split at h
          · rename_i hsz
            obtain rfl := Nat.eq_of_beq_eq_true hsz
            obtain ⟨hle, h⟩ := h
            refine ⟨_, _, _, h, fun j oe hl => ?_, fun X0 F w0 p α S a w Q next hs he ho' hp hd hn => ?_⟩
            · simp only [look] at hl
              split at hl
              · rename_i hb; rw [Nat.eq_of_beq_eq_true hb]; exact .inr (fam_mk nm 0 (by omega))
              · split at hl
                · rename_i hb; rw [Nat.eq_of_beq_eq_true hb]; exact .inl List.mem_cons_self
                · cases hl
            have hr := (h1.to hm1 he).read hs
            generalize hv : a.eval s = sv at hr
            cases hr
            obtain ⟨nw, hso⟩ := hsrc hs (fun k hk => ho' k (List.mem_cons_of_mem _ hk)) _ ((h2.to hm2 he).read hs)
            obtain ⟨α', v', w', hrun, hS⟩ := app_own (ty := o.type) hs hp hu (C.ty hte) hz hby (ho' k List.mem_cons_self _ hen) hso hle o.dst hd
            exact wp_value (append_run ho hc ha hT (by rw [hv]; exact hrun)) (hn α' _ w' hS)
          · cases h
        · cases h
      · cases h
    · cases h
  · cases h

/-! #### Calls -/

def retAV (rs : List D) : AV := match rs with | [r] => .d r | rs => .tup (rs.map .d)

/-- THE CONTRACT OF A FUNCTION: called with values that read as ds it returns values that read as rs; whatever there was stays as it was. -/
def Does (C : Ctx) (f : FuncId) (ds rs : List D) : Prop :=
  (∃ fn, C.P.funcs[f]? = some fn ∧ (fn.name == "runtime.NumGoroutine") = false ∧ fn.body.isNone = false) ∧
  ∀ (w : World) (X : Nat → Prop) (vs : Array Value), (∀ b, X b → b < w.heap.size) → (∀ x, x ∈ C.G → x.g < w.heap.size ∧ ¬ X x.g ∧ GlobAt w X x) → ds.length = vs.size →
    (∀ (j : Nat) (d : D) (v : Value), ds[j]? = some d → vs[j]? = some v → Rd w X d v) →
    Calls C.P f vs w fun e w' => ∃ v, e = .returned v ∧ RdA w' (fun _ => ⟨0, 0, 0, false, .bool false⟩) X (retAV rs) v ∧ Below w.heap.size w w'

def D.flat0 : D → Bool
  | .sl _ _ => false
  | .agg _ => false
  | _ => true

def D.flat : D → Bool
  | .sl _ _ => false
  | .agg cs => cs.all D.flat0
  | _ => true

theorem Rd.flat0 {w w' : World} {X X' : Nat → Prop} {d : D} {v : Value} (h : Rd w X d v) (hf : d.flat0 = true) : Rd w' X' d v := by
  cases h with
  | b t => exact .b t
  | i k n => exact .i k n
  | s l => exact .s l
  | x v => exact .x v
  | agg => simp [D.flat0] at hf
  | slnil => simp [D.flat0] at hf
  | sle => simp [D.flat0] at hf
  | sl => simp [D.flat0] at hf

theorem Rd.flat {w w' : World} {X X' : Nat → Prop} {d : D} {v : Value} (h : Rd w X d v) (hf : d.flat = true) : Rd w' X' d v := by
  cases h with
  | b t => exact .b t
  | i k n => exact .i k n
  | s l => exact .s l
  | x v => exact .x v
  | agg cs vs hl hc => exact .agg cs vs hl fun j c v h1 h2 => (hc j c v h1 h2).flat0 (List.all_eq_true.1 hf c (List.mem_of_getElem? h1))
  | slnil => simp [D.flat] at hf
  | sle => simp [D.flat] at hf
  | sl => simp [D.flat] at hf

theorem retAV_inv {w : World} {α : Nat → Loc} {X : Nat → Prop} {rs : List D} {v : Value} (h : RdA w α X (retAV rs) v) {w' : World} {α' : Nat → Loc} {X' : Nat → Prop} (ht : ∀ d u, d ∈ rs → Rd w X d u → Rd w' X' d u) : RdA w' α' X' (retAV rs) v := by
  unfold retAV at *
  split at h
  · exact .d _ _ (ht _ _ (by simp) h.dinv)
  · cases h with
    | tup _ vs hl hc =>
      refine .tup _ vs hl fun j c u h1 h2 => ?_
      have h3 := hc j c u h1 h2
      simp only [List.getElem?_map, Option.map_eq_some_iff] at h1
      obtain ⟨d, h4, rfl⟩ := h1
      exact .d _ _ (ht _ _ (List.mem_of_getElem? h4) h3.dinv)

theorem retAV_ok {p : Nat → Prop} {rs : List D} : (retAV rs).ok p := by
  unfold retAV
  split
  · exact .d _
  · refine .tup _ fun c hc => ?_
    obtain ⟨d, _, rfl⟩ := List.mem_map.1 hc
    exact .d d

def argsK (st : AS) : List AV → (List D → List Nat → Prop) → Prop
  | [], K => K [] []
  | a :: l, K => toDK st a fun d us => argsK st l fun ds vs => match us with | [] => K (d :: ds) vs | us => K (d :: ds) (us ++ vs)

theorem argsK_out {st : AS} {l : List AV} {K : List D → List Nat → Prop} (h : argsK st l K) :
    ∃ ds us, K ds us ∧ ds.length = l.length ∧ (∀ k, k ∈ us → ∃ e, st.ss.own k = some e) ∧ ∀ (j : Nat) (a : AV) (d : D), l[j]? = some a → ds[j]? = some d → ∃ vs, ToD st a d vs ∧ ∀ k, k ∈ vs → k ∈ us := by
  induction l generalizing K with
  | nil => exact ⟨[], [], h, rfl, (fun k hk => by cases hk), fun j a d hj => by simp at hj⟩
  | cons a l ih =>
    obtain ⟨d, us, h, h1⟩ := toDK_out h
    obtain ⟨ds, vs, h, h2, h3, h4⟩ := ih h
    have fin : ∀ ws, (∀ k, k ∈ ws ↔ k ∈ us ∨ k ∈ vs) → K (d :: ds) ws → ∃ ds us, K ds us ∧ ds.length = (a :: l).length ∧ (∀ k, k ∈ us → ∃ e, st.ss.own k = some e) ∧
        ∀ (j : Nat) (b : AV) (d : D), (a :: l)[j]? = some b → ds[j]? = some d → ∃ vs, ToD st b d vs ∧ ∀ k, k ∈ vs → k ∈ us := by
      intro ws hws hk
      refine ⟨_, _, hk, by simp [h2], fun k hk => ?_, fun j b d' hj hd => ?_⟩
      · rcases (hws k).1 hk with h | h
        · exact h1.ent k h
        · exact h3 k h
      · cases j with
        | zero => simp at hj hd; subst hj hd; exact ⟨us, h1, fun k hk => (hws k).2 (.inl hk)⟩
        | succ j =>
          obtain ⟨vs', h5, h6⟩ := h4 j b d' (by simpa using hj) (by simpa using hd)
          exact ⟨vs', h5, fun k hk => (hws k).2 (.inr (h6 k hk))⟩
    split at h
    · exact fin vs (fun k => by simp) h
    · exact fin _ (fun k => by simp) h

def killsK (us : List Nat) (K : List (Nat × Option Ent) → Prop) : Prop := K (us.map fun k => (k, none))

def retK (rs : List D) (us : List Nat) (K : KO) : Prop :=
  match us with
  | [] => match rs with | [r] => K (.d r) [] [] | rs => K (retAV rs) [] []
  | us => match rs with
    | [r] => match r.flat with | true => K (.d r) [] us | false => K (.d r) (us.map fun k => (k, none)) us
    | rs => K (retAV rs) (us.map fun k => (k, none)) us

end
end Go.Eng
