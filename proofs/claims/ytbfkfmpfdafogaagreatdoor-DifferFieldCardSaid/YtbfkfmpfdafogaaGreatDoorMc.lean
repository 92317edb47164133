import Derived.Test.YtbfkfmpfdafogaaGreatDoorMb
import Derived.Defers
import Derived.Lib.UnsafeStr
import Derived.Lib.Builder
import Derived.Laws.MakeOwn
import Derived.Lib.AppendZerosOnto
/-
  Append as an operation; calls of functions that have a contract: their reckoning, and that it speaks true.
-/
namespace Go.Eng
open Go.RowKit (Below)

section
variable {C : Ctx} {n : Nat} {o : Oper} {nm : Nat} {st : AS} {K : KO}

/-- The type of a row that was appended to. -/
def appTy (T0 : Option TypeId) (e : TypeId) : Option TypeId := match T0 with | some t => (match Nat.beq t e with | true => some e | false => none) | none => none
theorem appTy_ok (T0 : Option TypeId) (e : TypeId) : ∀ U, appTy T0 e = some U → U = e ∧ T0 = some U := by
  intro U h
  unfold appTy at h
  split at h
  · split at h
    · rename_i hb; cases h; exact ⟨rfl, by rw [Nat.eq_of_beq_eq_true hb]⟩
    · cases h
  · cases h

def appendK (C : Ctx) (st : AS) (nm : Nat) (T Tx : TypeId) (s x : AV) (K : KO) : Prop :=
  lookK C.tab T fun ti => match ti.kd with
    | .slice e => lookK C.tab e fun te => match Nat.ble te.bytes 2048, Nat.beq te.zero.length te.size with
      | true, true => srcK C st te.size Tx x fun ys us => match s with
        | .nl _ => AppK ys.length (K (.os (16 * nm)) [(16 * nm, some (.buf te.size ys (some e)))] us)
        | .os k => ownK st k fun en => match en with
          | .buf sz xs T0 => match Nat.beq sz te.size with
            | true => AppK (xs.length + ys.length) (K (.os (16 * nm)) [(16 * nm, some (.buf te.size (xs ++ ys) (appTy T0 e))), (k, none)] (k :: us))
            | false => False
          | _ => False
        | _ => False
      | _, _ => False
    | _ => False

theorem append_run {c : Call} {s x : Operand} {T Tx : TypeId} (ho : o.op = .call c) (hc : c.callee = .builtin .append) (ha : c.args = #[s, x]) (hT : c.argTypes = #[T, Tx]) {P : Program} {a : Act} {w w' : World} {v : Value}
    (h : (Builtin.append_ #[T, Tx] o.type #[a.eval s, a.eval x]).run P w = .ok v w') : (execOp a.eval o).run P w = .ok (.value v) w' := by
  simp [execOp, ho, resolve, hc, ha, hT, invoke, builtin, h]

theorem append_out {c : Call} {s x : Operand} {T Tx : TypeId} (ho : o.op = .call c) (hc : c.callee = .builtin .append) (ha : c.args = #[s, x]) (hT : c.argTypes = #[T, Tx])
    (h : evTK C st T s fun a => evTK C st Tx x fun b => appendK C st nm T Tx a b K) : ∃ out upd rd, K out upd rd ∧ VOp C n o nm st rd out upd := by
  replace h := evTK_out h; obtain ⟨sa, h1, h⟩ := h
  replace h := evTK_out h; obtain ⟨xa, h2, h⟩ := h
  have hm1 : s ∈ o.op.operands := by rw [ho]; simp [Op.operands, Call.operands, hc, ha]
  have hm2 : x ∈ o.op.operands := by rw [ho]; simp [Op.operands, Call.operands, hc, ha]
  unfold appendK at h
  replace h := lookK_out h; obtain ⟨ti, hti, h⟩ := h
  split at h
  · rename_i e hk
    have hu := und_slice (C.ty hti) hk
    replace h := lookK_out h; obtain ⟨te, hte, h⟩ := h
    split at h
    · rename_i hby hz
      have hby := Nat.le_of_ble_eq_true hby
      have hz := Nat.eq_of_beq_eq_true hz
      replace h := srcK_out h; obtain ⟨ys, us, h, hsrc⟩ := h
      split at h
      · rename_i sz0
        obtain ⟨hle, h⟩ := h
        refine ⟨_, _, _, h, fun k oe hl => ?_, fun X0 F w0 p α S a w Q next hs he ho' hp hd hn => ?_⟩
        · simp only [look] at hl
          split at hl
          · rename_i hb; rw [Nat.eq_of_beq_eq_true hb]; exact .inr (fam_mk nm 0 (by omega))
          · cases hl
        have hr := (h1.to hm1 he).read hs
        generalize hv : a.eval s = sv at hr
        cases hr
        obtain ⟨nw, hso⟩ := hsrc hs ho' _ ((h2.to hm2 he).read hs)
        by_cases hy : ys.length = 0
        · have hys : ys = [] := List.eq_nil_of_length_eq_zero hy
          subst hys
          have hn0 : nw = [] := List.eq_nil_of_length_eq_zero (by have := hso.src.newsLen; simpa using this)
          subst hn0
          obtain ⟨⟨i, hi, his, _⟩, _⟩ := C.ty hte
          have hrun : (Builtin.append_ #[T, Tx] o.type #[.slice none 0 0, a.eval x]).run C.P w = .ok (.slice none 0 0) w := by
            have hcc := hso.src.cells
            rcases hso.src.kind with ⟨e', hk⟩ | hk <;> simp [Builtin.append_, run_underlying hu, run_underlying hk, sizeOf, typeInfo, hi, his, hso.src.len]
            all_goals (first | simpa using hcc | (simp at hcc; simp [hcc]))
          obtain ⟨α', hS⟩ := hs.nilrow hp te.size (some e) [] o.dst hd
          exact wp_value (append_run ho hc ha hT (by rw [hv]; exact hrun)) (hn α' _ w hS)
        · obtain ⟨w', hv', arr, cap, hM, hrun⟩ := app_grow (α := α) (p := p) (T1 := some e) (ty := o.type) (xs := []) (base := none) (sCap := 0) (ol := []) hu (C.ty hte) hz hby hso (run_firstCells_none _ _ _ _ _) (by simp) (fun j x hx => by simp at hx) (fun j m x c hx => by simp at hx)
            (fun U h => (Option.some.inj h).symm) (by simp; omega) (by simpa using hle)
          obtain ⟨α', hS⟩ := hs.make hp hM [] o.dst hd (.os (16 * nm)) (.inl rfl)
          exact wp_value (append_run ho hc ha hT (by rw [hv]; exact hrun)) (hn α' _ w' hS)
      · rename_i k
        replace h := ownK_out h; obtain ⟨en, hen, h⟩ := h
        split at h
        · rename_i sz xs T0
          split at h
          · rename_i hsz
            obtain rfl := Nat.eq_of_beq_eq_true hsz
            obtain ⟨hle, h⟩ := h
            refine ⟨_, _, _, h, fun j oe hl => ?_, fun X0 F w0 p α S a w Q next hs he ho' hp hd hn => ?_⟩
            · simp only [look] at hl
              split at hl
              · rename_i hb; rw [Nat.eq_of_beq_eq_true hb]; exact .inr (fam_mk nm 0 (by omega))
              · split at hl
                · rename_i hb; rw [Nat.eq_of_beq_eq_true hb]; exact .inl List.mem_cons_self
                · cases hl
            have hr := (h1.to hm1 he).read hs
            generalize hv : a.eval s = sv at hr
            cases hr
            obtain ⟨nw, hso⟩ := hsrc hs (fun k hk => ho' k (List.mem_cons_of_mem _ hk)) _ ((h2.to hm2 he).read hs)
            obtain ⟨α', v', w', hrun, hS⟩ := app_own (ty := o.type) hs hp hu (C.ty hte) hz hby (appTy_ok T0 e) (ho' k List.mem_cons_self _ hen) hso hle o.dst hd
            exact wp_value (append_run ho hc ha hT (by rw [hv]; exact hrun)) (hn α' _ w' hS)
          · cases h
        · cases h
      · cases h
    · cases h
  · cases h

/-! #### Calls -/

def retAV (rs : List D) : AV := match rs with | [r] => .d r | rs => .tup (rs.map .d)

/-- THE CONTRACT OF A FUNCTION: called with values that read as ds it returns values that read as rs; whatever there was stays as it was. -/
def Does (C : Ctx) (f : FuncId) (ds rs : List D) : Prop :=
  (∃ fn, C.P.funcs[f]? = some fn ∧ (fn.name == "runtime.NumGoroutine") = false ∧ fn.body.isNone = false) ∧
  ∀ (w : World) (X : Nat → Prop) (vs : Array Value), (∀ b, X b → b < w.heap.size) → (∀ x, x ∈ C.G → x.g < w.heap.size ∧ ¬ X x.g ∧ GlobAt w X x) → ds.length = vs.size →
    (∀ (j : Nat) (d : D) (v : Value), ds[j]? = some d → vs[j]? = some v → Rd w X d v) →
    Calls C.P f vs w fun e w' => ∃ v, e = .returned v ∧ RdA w' (fun _ => ⟨0, 0, 0, false, .bool false⟩) X (retAV rs) v ∧ Below w.heap.size w w'

def D.flat0 : D → Bool
  | .sl _ _ => false
  | .agg _ => false
  | _ => true

def D.flat : D → Bool
  | .sl _ _ => false
  | .agg cs => cs.all D.flat0
  | _ => true

theorem Rd.flat0 {w w' : World} {X X' : Nat → Prop} {d : D} {v : Value} (h : Rd w X d v) (hf : d.flat0 = true) : Rd w' X' d v := by
  cases h with
  | b t => exact .b t
  | i k n => exact .i k n
  | s l => exact .s l
  | x v => exact .x v
  | agg => simp [D.flat0] at hf
  | slnil => simp [D.flat0] at hf
  | sle => simp [D.flat0] at hf
  | sl => simp [D.flat0] at hf

theorem Rd.flat {w w' : World} {X X' : Nat → Prop} {d : D} {v : Value} (h : Rd w X d v) (hf : d.flat = true) : Rd w' X' d v := by
  cases h with
  | b t => exact .b t
  | i k n => exact .i k n
  | s l => exact .s l
  | x v => exact .x v
  | agg cs vs hl hc => exact .agg cs vs hl fun j c v h1 h2 => (hc j c v h1 h2).flat0 (List.all_eq_true.1 hf c (List.mem_of_getElem? h1))
  | slnil => simp [D.flat] at hf
  | sle => simp [D.flat] at hf
  | sl => simp [D.flat] at hf

theorem retAV_inv {w : World} {α : Nat → Loc} {X : Nat → Prop} {rs : List D} {v : Value} (h : RdA w α X (retAV rs) v) {w' : World} {α' : Nat → Loc} {X' : Nat → Prop} (ht : ∀ d u, d ∈ rs → Rd w X d u → Rd w' X' d u) : RdA w' α' X' (retAV rs) v := by
  unfold retAV at *
  split at h
  · exact .d _ _ (ht _ _ (by simp) h.dinv)
  · cases h with
    | tup _ vs hl hc =>
      refine .tup _ vs hl fun j c u h1 h2 => ?_
      have h3 := hc j c u h1 h2
      simp only [List.getElem?_map, Option.map_eq_some_iff] at h1
      obtain ⟨d, h4, rfl⟩ := h1
      exact .d _ _ (ht _ _ (List.mem_of_getElem? h4) h3.dinv)

theorem retAV_ok {p : Nat → Prop} {rs : List D} : (retAV rs).ok p := by
  unfold retAV
  split
  · exact .d _
  · refine .tup _ fun c hc => ?_
    obtain ⟨d, _, rfl⟩ := List.mem_map.1 hc
    exact .d d

def argsK (st : AS) : List AV → (List D → List Nat → Prop) → Prop
  | [], K => K [] []
  | a :: l, K => toDK st a fun d us => argsK st l fun ds vs => match us with | [] => K (d :: ds) vs | us => K (d :: ds) (us ++ vs)

theorem argsK_out {st : AS} {l : List AV} {K : List D → List Nat → Prop} (h : argsK st l K) :
    ∃ ds us, K ds us ∧ ds.length = l.length ∧ (∀ k, k ∈ us → ∃ e, st.ss.own k = some e) ∧ ∀ (j : Nat) (a : AV) (d : D), l[j]? = some a → ds[j]? = some d → ∃ vs, ToD st a d vs ∧ ∀ k, k ∈ vs → k ∈ us := by
  induction l generalizing K with
  | nil => exact ⟨[], [], h, rfl, (fun k hk => by cases hk), fun j a d hj => by simp at hj⟩
  | cons a l ih =>
    obtain ⟨d, us, h, h1⟩ := toDK_out h
    obtain ⟨ds, vs, h, h2, h3, h4⟩ := ih h
    have fin : ∀ ws, (∀ k, k ∈ ws ↔ k ∈ us ∨ k ∈ vs) → K (d :: ds) ws → ∃ ds us, K ds us ∧ ds.length = (a :: l).length ∧ (∀ k, k ∈ us → ∃ e, st.ss.own k = some e) ∧
        ∀ (j : Nat) (b : AV) (d : D), (a :: l)[j]? = some b → ds[j]? = some d → ∃ vs, ToD st b d vs ∧ ∀ k, k ∈ vs → k ∈ us := by
      intro ws hws hk
      refine ⟨_, _, hk, by simp [h2], fun k hk => ?_, fun j b d' hj hd => ?_⟩
      · rcases (hws k).1 hk with h | h
        · exact h1.ent k h
        · exact h3 k h
      · cases j with
        | zero => simp at hj hd; subst hj hd; exact ⟨us, h1, fun k hk => (hws k).2 (.inl hk)⟩
        | succ j =>
          obtain ⟨vs', h5, h6⟩ := h4 j b d' (by simpa using hj) (by simpa using hd)
          exact ⟨vs', h5, fun k hk => (hws k).2 (.inr (h6 k hk))⟩
    split at h
    · exact fin vs (fun k => by simp) h
    · exact fin _ (fun k => by simp) h

def killsK (us : List Nat) (K : List (Nat × Option Ent) → Prop) : Prop := K (us.map fun k => (k, none))

def retK (rs : List D) (us : List Nat) (K : KO) : Prop :=
  match us with
  | [] => match rs with | [r] => K (.d r) [] [] | rs => K (retAV rs) [] []
  | us => match rs with
    | [r] => match r.flat with | true => K (.d r) [] us | false => K (.d r) (us.map fun k => (k, none)) us
    | rs => K (retAV rs) (us.map fun k => (k, none)) us

end
end Go.Eng

/-
  What one view says of another.
-/
namespace Go.Eng
open Go.RowKit (Below)

def hasN (l : List Nat) (x : Nat) : Bool := match l with | [] => false | y :: r => match Nat.beq y x with | true => true | false => hasN r x
def meetN (l m : List Nat) : Bool := match l with | [] => false | x :: r => match hasN m x with | true => true | false => meetN r m

theorem hasN_iff {l : List Nat} {x : Nat} : hasN l x = true ↔ x ∈ l := by
  induction l with
  | nil => simp [hasN]
  | cons y r ih =>
    simp only [hasN]
    split
    · rename_i hb; simp [Nat.eq_of_beq_eq_true hb]
    · rename_i hb
      rw [ih]
      have : x ≠ y := fun h => by subst h; simp at hb
      simp [this]

theorem meetN_iff {l m : List Nat} : meetN l m = true ↔ ∃ x, x ∈ l ∧ x ∈ m := by
  induction l with
  | nil => simp [meetN]
  | cons y r ih =>
    simp only [meetN]
    split
    · rename_i hb; exact ⟨fun _ => ⟨y, List.mem_cons_self, hasN_iff.1 hb⟩, fun _ => rfl⟩
    · rename_i hb
      rw [ih]
      constructor
      · rintro ⟨x, h1, h2⟩; exact ⟨x, List.mem_cons_of_mem _ h1, h2⟩
      · rintro ⟨x, h1, h2⟩
        rcases List.mem_cons.1 h1 with rfl | h1
        · rw [hasN_iff.2 h2] at hb; cases hb
        · exact ⟨x, h1, h2⟩

def names (st : AS) (k : Nat) : Prop := k / 16 < st.nx

/-! ### What one view says of another -/

def rho (l : List (Nat × Nat)) (k : Nat) : Nat := match look l k with | some j => j | none => k

/-- What is left to the prover. -/
def Hold (p : Prop) : Prop := p
theorem hold {p : Prop} (h : p) : Hold p := h
theorem Hold.out {p : Prop} (h : Hold p) : p := h
theorem blt_lt {m n : Nat} (h : Nat.blt m n = true) : m < n := by simp [Nat.blt] at h; omega

def celLe0 (ρ : List (Nat × Nat)) (N : Nat) (a b : AV) : Prop :=
  match b with
  | .any => True
  | .d y => match a with | .d x => Hold (x = y) | _ => False
  | .op k i j => match a with | .op k' i' j' => k' = rho ρ k ∧ i' = i ∧ j' = j ∧ Nat.blt (k / 16) N = true | _ => False
  | .os k => match a with | .os k' => k' = rho ρ k ∧ Nat.blt (k / 16) N = true | _ => False
  | .nl s => match a with | .nl s' => s' = s | _ => False
  | .pp y j => match a with | .pp x i => Hold (x = y) ∧ i = j | _ => False
  | .gp g => match a with | .gp g' => g' = g | _ => False
  | _ => False

def celsLe0 (ρ : List (Nat × Nat)) (N : Nat) : List AV → List AV → Prop
  | [], [] => True
  | a :: l, b :: m => celLe0 ρ N a b ∧ celsLe0 ρ N l m
  | _, _ => False

/-- chk: which rows (of st) may be read as data from now on. -/
def celLe (st : AS) (chk : List Nat → Bool) (ρ : List (Nat × Nat)) (N : Nat) (a b : AV) : Prop :=
  match b with
  | .any => True
  | .d y => match a with | .d x => Hold (x = y) | a => toDK st a fun d us => Hold (d = y) ∧ chk us = true
  | .op k i j => match a with | .op k' i' j' => k' = rho ρ k ∧ i' = i ∧ j' = j ∧ Nat.blt (k / 16) N = true | _ => False
  | .os k => match a with | .os k' => k' = rho ρ k ∧ Nat.blt (k / 16) N = true | .nl _ => 14 = rho ρ k ∧ Nat.blt (k / 16) N = true | _ => False
  | .nl s => match a with | .nl s' => s' = s | _ => False
  | .pp y j => match a with | .pp x i => Hold (x = y) ∧ i = j | _ => False
  | .gp g => match a with | .gp g' => g' = g | _ => False
  | .fn g xs ys => match a with | .fn g' xs' ys' => g' = g ∧ celsLe0 ρ N xs' xs ∧ celsLe0 ρ N ys' ys | _ => False
  | _ => False

def celsLe (st : AS) (chk : List Nat → Bool) (ρ : List (Nat × Nat)) (N : Nat) : List AV → List AV → Prop
  | [], [] => True
  | a :: l, b :: m => celLe st chk ρ N a b ∧ celsLe st chk ρ N l m
  | _, _ => False

def avLe (st : AS) (chk : List Nat → Bool) (ρ : List (Nat × Nat)) (N : Nat) (a b : AV) : Prop :=
  match b with
  | .agg m => match a with | .agg l => celsLe st chk ρ N l m | _ => False
  | .tup m => match a with | .tup l => celsLe st chk ρ N l m | _ => False
  | b => celLe st chk ρ N a b

def envLe (st : AS) (chk : List Nat → Bool) (ρ : List (Nat × Nat)) (N : Nat) (env : List (Nat × AV)) : List (Nat × AV) → Prop
  | [] => True
  | (t, b) :: r => lookK env t (fun a => avLe st chk ρ N a b) ∧ envLe st chk ρ N env r

/-- The wanted type of a block: nothing, or what it is. -/
def tyLe (T : Option TypeId) (T' : Option TypeId) : Prop := match T' with | none => True | some U => T = some U
theorem tyLe.ty {T T' : Option TypeId} (h : tyLe T T') : ∀ U, T' = some U → T = some U := by
  intro U hU; subst hU; exact h

def entLe (st : AS) (chk : List Nat → Bool) (ρ : List (Nat × Nat)) (N : Nat) (e e' : Ent) : Prop :=
  match e, e' with
  | .box l T, .box m T' => celsLe st chk ρ N l m ∧ m.all AV.one = true ∧ tyLe T T'
  | .arr s xs, .arr s' ys => s = s' ∧ Hold (xs = ys)
  | .buf s xs T, .buf s' ys T' => s = s' ∧ Hold (xs = ys) ∧ tyLe T T'
  | .iset l, .iset m => Hold (l = m)
  | .iters s i, .iters s' j => s = s' ∧ Hold (i = j)
  | _, _ => False

def ownLe (chk : List Nat → Bool) (ρ : List (Nat × Nat)) (N : Nat) (st : AS) : List (Nat × Option Ent) → Prop
  | [] => True
  | (k, some e') :: r => (Nat.blt (k / 16) N = true ∧ ownK st (rho ρ k) fun e => entLe st chk ρ N e e') ∧ ownLe chk ρ N st r
  | (_, none) :: _ => False

def injN (ρ : List (Nat × Nat)) : List (Nat × Option Ent) → Bool
  | [] => true
  | (k, _) :: r => (r.all fun x => !Nat.beq (rho ρ k) (rho ρ x.1)) && injN ρ r

/-- .. where an own row may be wanted of what is nil: its name is turned to 14. -/
def nilE (e : Ent) : Prop := match e with | .buf _ xs _ => Hold (xs = []) | _ => False
theorem nilE_out {e : Ent} (h : nilE e) : ∃ s T, e = .buf s [] T := by
  unfold nilE at h
  split at h
  · have h := h.out; subst h; exact ⟨_, _, rfl⟩
  · cases h
def ownLeZ (chk : List Nat → Bool) (ρ : List (Nat × Nat)) (N : Nat) (st : AS) : List (Nat × Option Ent) → Prop
  | [] => True
  | (k, some e') :: r => (match Nat.beq (rho ρ k) 14 with
    | true => Nat.blt (k / 16) N = true ∧ nilE e'
    | false => Nat.blt (k / 16) N = true ∧ ownK st (rho ρ k) fun e => entLe st chk ρ N e e') ∧ ownLeZ chk ρ N st r
  | (_, none) :: _ => False
def injZ (ρ : List (Nat × Nat)) : List (Nat × Option Ent) → Bool
  | [] => true
  | (k, _) :: r => (Nat.beq (rho ρ k) 14 || r.all fun x => !Nat.beq (rho ρ k) (rho ρ x.1)) && injZ ρ r

/-- The names below 16 stay. -/
def fixB (ρ : List (Nat × Nat)) : Bool := ρ.all fun x => Nat.ble 16 x.1
theorem fixB_rho {ρ : List (Nat × Nat)} (h : fixB ρ = true) {k : Nat} (hk : k < 16) : rho ρ k = k := by
  unfold rho
  cases hl : look ρ k with
  | none => rfl
  | some j =>
    have := List.all_eq_true.1 h _ (look_mem hl)
    have := Nat.le_of_ble_eq_true this
    simp only at this; omega

def keptOf (ρ : List (Nat × Nat)) (own : List (Nat × Option Ent)) : List Nat := own.map fun x => rho ρ x.1
def offB (l : List Nat) (us : List Nat) : Bool := !meetN us l

/-- The view st says at least what st' says, its names turned by ρ. -/
def LeK (ρ : List (Nat × Nat)) (st st' : AS) : Prop :=
  envLe st (offB (keptOf ρ st'.own)) ρ st'.nx st.env st'.env ∧ ownLeZ (offB (keptOf ρ st'.own)) ρ st'.nx st st'.own ∧ injZ ρ st'.own = true ∧ (fixB ρ && Nat.ble 1 st'.nx) = true

theorem celLe0_read {ρ : List (Nat × Nat)} {N : Nat} {w : World} {α : Nat → Loc} {X X' : Nat → Prop} (hX : ∀ b, X' b → X b) {a b : AV} {v : Value} (h : celLe0 ρ N a b) (hr : RdA w α X a v) :
    RdA w (fun k => α (rho ρ k)) X' b v ∧ b.ok (fun k => k / 16 < N) := by
  have hm : ∀ {x : D} {u : Value}, Rd w X x u → Rd w X' x u := fun h => h.mono fun b o hb hn => ⟨hb, fun h => hn (hX b h)⟩
  unfold celLe0 at h
  split at h
  · exact ⟨.any v, .any⟩
  · split at h
    · have h := h.out; subst h; exact ⟨.d _ _ (hm hr.dinv), .d _⟩
    · cases h
  · split at h
    · obtain ⟨rfl, rfl, rfl, hk⟩ := h
      cases hr
      exact ⟨.op _ _ _, .op _ _ _ (blt_lt hk)⟩
    · cases h
  · split at h
    · obtain ⟨rfl, hk⟩ := h
      cases hr with
      | os _ ho => exact ⟨RdA.os (α := fun k => α (rho ρ k)) _ ho, .os _ (blt_lt hk)⟩
    · cases h
  · split at h
    · subst h; cases hr; exact ⟨.nl _, .nl _⟩
    · cases h
  · split at h
    · obtain ⟨h0, rfl⟩ := h
      have h0 := h0.out; subst h0
      cases hr with
      | pp _ _ blk off arr T fz f hh hx h1 h2 => exact ⟨.pp _ _ blk off arr T fz f hh (fun h => hx (hX _ h)) h1 fun j c hc => hm (h2 j c hc), .pp _ _⟩
    · cases h
  · split at h
    · subst h; cases hr; exact ⟨.gp _, .gp _⟩
    · cases h
  · cases h

theorem celsLe0_read {ρ : List (Nat × Nat)} {N : Nat} {w : World} {α : Nat → Loc} {X X' : Nat → Prop} (hX : ∀ b, X' b → X b) : ∀ {l m : List AV}, celsLe0 ρ N l m →
    l.length = m.length ∧ ∀ (j : Nat) (a b : AV), l[j]? = some a → m[j]? = some b → ∀ v, RdA w α X a v → RdA w (fun k => α (rho ρ k)) X' b v ∧ b.ok (fun k => k / 16 < N)
  | [], [], _ => ⟨rfl, fun j a b h => by simp at h⟩
  | a :: l, b :: m, h => by
    obtain ⟨h1, h2⟩ := celsLe0_read hX h.2
    refine ⟨by simp [h1], fun j x y hx hy v hr => ?_⟩
    cases j with
    | zero => simp at hx hy; subst hx hy; exact celLe0_read hX h.1 hr
    | succ j => exact h2 j x y (by simpa using hx) (by simpa using hy) v hr
  | [], _ :: _, h => h.elim
  | _ :: _, [], h => h.elim

/-- What readings by LeK want of the world. -/
structure LeW (st : AS) (chk : List Nat → Bool) (w : World) (α : Nat → Loc) (X X' : Nat → Prop) : Prop where
  sub : ∀ b, X' b → X b
  own : ∀ us, chk us = true → ∀ k, k ∈ us → ∀ e, st.ss.own k = some e → Own w α X k e
  out : ∀ us, chk us = true → ∀ k, k ∈ us → ∀ e, st.ss.own k = some e → (α k).nil = false → ¬ X' (α k).blk
  nil0 : (α 14).hv = .slice none 0 0

theorem no_meet {l m : List Nat} (h : meetN l m = false) {x : Nat} (hx : x ∈ l) : x ∉ m := by
  intro hm
  have := meetN_iff.2 ⟨x, hx, hm⟩
  rw [h] at this; cases this

theorem celLe_read {st : AS} {chk : List Nat → Bool} {ρ : List (Nat × Nat)} {N : Nat} {w : World} {α : Nat → Loc} {X X' : Nat → Prop} (hW : LeW st chk w α X X') {a b : AV} {v : Value} (h : celLe st chk ρ N a b) (hr : RdA w α X a v) :
    RdA w (fun k => α (rho ρ k)) X' b v ∧ b.ok (fun k => k / 16 < N) := by
  have hX := hW.sub
  have hm : ∀ {x : D} {u : Value}, Rd w X x u → Rd w X' x u := fun h => h.mono fun b o hb hn => ⟨hb, fun h => hn (hX b h)⟩
  unfold celLe at h
  split at h
  · exact ⟨.any v, .any⟩
  · split at h
    · have h := h.out; subst h; exact ⟨.d _ _ (hm hr.dinv), .d _⟩
    · obtain ⟨d, us, ⟨h1, h2⟩, h3⟩ := toDK_out h
      have h1 := h1.out; subst h1
      refine ⟨.d _ _ (h3.rd w α X X' v hr (fun k hk e he => hW.own us h2 k hk e he) hX fun k hk hnil => ?_), .d _⟩
      obtain ⟨e, he⟩ := h3.ent k hk
      exact hW.out us h2 k hk e he hnil
  · split at h
    · obtain ⟨rfl, rfl, rfl, hk⟩ := h
      cases hr
      exact ⟨.op _ _ _, .op _ _ _ (blt_lt hk)⟩
    · cases h
  · rename_i k
    split at h
    · obtain ⟨rfl, hk⟩ := h
      cases hr with
      | os _ ho => exact ⟨RdA.os (α := fun k => α (rho ρ k)) _ ho, .os _ (blt_lt hk)⟩
    · obtain ⟨h14, hk⟩ := h
      cases hr
      have e : α (rho ρ k) = α 14 := by rw [← h14]
      have := RdA.os (w := w) (α := fun k => α (rho ρ k)) (X := X') k (by rw [e, hW.nil0]; rfl)
      rw [e, hW.nil0] at this
      exact ⟨this, .os _ (blt_lt hk)⟩
    · cases h
  · split at h
    · subst h; cases hr; exact ⟨.nl _, .nl _⟩
    · cases h
  · split at h
    · obtain ⟨h0, rfl⟩ := h
      have h0 := h0.out; subst h0
      cases hr with
      | pp _ _ blk off arr T fz f hh hx h1 h2 => exact ⟨.pp _ _ blk off arr T fz f hh (fun h => hx (hX _ h)) h1 fun j c hc => hm (h2 j c hc), .pp _ _⟩
    · cases h
  · split at h
    · subst h; cases hr; exact ⟨.gp _, .gp _⟩
    · cases h
  · split at h
    · obtain ⟨rfl, h1, h2⟩ := h
      obtain ⟨h3, h4⟩ := celsLe0_read (w := w) (α := α) hX h1
      obtain ⟨h5, h6⟩ := celsLe0_read (w := w) (α := α) hX h2
      have go : ∀ {l m : List AV} {vs : Array Value}, l.length = m.length → (∀ (j : Nat) (a b : AV), l[j]? = some a → m[j]? = some b → ∀ v, RdA w α X a v → RdA w (fun k => α (rho ρ k)) X' b v ∧ b.ok (fun k => k / 16 < N)) →
          l.length = vs.size → (∀ (j : Nat) (c : AV) (v : Value), l[j]? = some c → vs[j]? = some v → RdA w α X c v) →
          m.length = vs.size ∧ (∀ (j : Nat) (c : AV) (v : Value), m[j]? = some c → vs[j]? = some v → RdA w (fun k => α (rho ρ k)) X' c v) ∧ ∀ c, c ∈ m → c.ok (fun k => k / 16 < N) := by
        intro l m vs h1 h2 hl hc
        have hg : ∀ (j : Nat) (c : AV), m[j]? = some c → ∃ a u, l[j]? = some a ∧ vs[j]? = some u := by
          intro j c hj
          have : j < m.length := (List.getElem?_eq_some_iff.1 hj).1
          exact ⟨l[j]'(by omega), vs[j]'(by omega), by simp [show j < l.length by omega], by simp [show j < vs.size by omega]⟩
        refine ⟨by omega, fun j c u hj hu => ?_, fun c hc' => ?_⟩
        · obtain ⟨a, u', ha, _⟩ := hg j c hj
          exact (h2 j a c ha hj u (hc j a u ha hu)).1
        · obtain ⟨j, hj⟩ := List.mem_iff_getElem?.1 hc'
          obtain ⟨a, u', ha, hu⟩ := hg j c hj
          exact (h2 j a c ha hj u' (hc j a u' ha hu)).2
      cases hr with
      | fn _ _ _ va vb l1 l2 c1 c2 =>
        obtain ⟨q1, q2, q3⟩ := go h3 h4 l1 c1
        obtain ⟨q4, q5, q6⟩ := go h5 h6 l2 c2
        exact ⟨.fn _ _ _ va vb q1 q4 q2 q5, .fn _ _ _ q3 q6⟩
    · cases h
  · cases h

theorem celsLe_get {st : AS} {chk : List Nat → Bool} {ρ : List (Nat × Nat)} {N : Nat} : ∀ {l m : List AV}, celsLe st chk ρ N l m → l.length = m.length ∧ ∀ (j : Nat) (a b : AV), l[j]? = some a → m[j]? = some b → celLe st chk ρ N a b
  | [], [], _ => ⟨rfl, fun j a b h => by simp at h⟩
  | a :: l, b :: m, h => by
    obtain ⟨h1, h2⟩ := celsLe_get h.2
    refine ⟨by simp [h1], fun j x y hx hy => ?_⟩
    cases j with
    | zero => simp at hx hy; subst hx hy; exact h.1
    | succ j => exact h2 j x y (by simpa using hx) (by simpa using hy)
  | [], _ :: _, h => h.elim
  | _ :: _, [], h => h.elim

theorem avLe_read {st : AS} {chk : List Nat → Bool} {ρ : List (Nat × Nat)} {N : Nat} {w : World} {α : Nat → Loc} {X X' : Nat → Prop} (hW : LeW st chk w α X X') {a b : AV} {v : Value} (h : avLe st chk ρ N a b) (hr : RdA w α X a v) :
    RdA w (fun k => α (rho ρ k)) X' b v ∧ b.ok (fun k => k / 16 < N) := by
  have go : ∀ {l m : List AV} {vs : Array Value}, celsLe st chk ρ N l m → l.length = vs.size → (∀ (j : Nat) (c : AV) (v : Value), l[j]? = some c → vs[j]? = some v → RdA w α X c v) →
      m.length = vs.size ∧ (∀ (j : Nat) (c : AV) (v : Value), m[j]? = some c → vs[j]? = some v → RdA w (fun k => α (rho ρ k)) X' c v) ∧ ∀ c, c ∈ m → c.ok (fun k => k / 16 < N) := by
    intro l m vs h hl hc
    obtain ⟨h1, h2⟩ := celsLe_get h
    have hg : ∀ (j : Nat) (c : AV), m[j]? = some c → ∃ a u, l[j]? = some a ∧ vs[j]? = some u := by
      intro j c hj
      have : j < m.length := (List.getElem?_eq_some_iff.1 hj).1
      exact ⟨l[j]'(by omega), vs[j]'(by omega), by simp [show j < l.length by omega], by simp [show j < vs.size by omega]⟩
    refine ⟨by omega, fun j c u hj hu => ?_, fun c hc' => ?_⟩
    · obtain ⟨a, u', ha, _⟩ := hg j c hj
      exact (celLe_read hW (h2 j a c ha hj) (hc j a u ha hu)).1
    · obtain ⟨j, hj⟩ := List.mem_iff_getElem?.1 hc'
      obtain ⟨a, u', ha, hu⟩ := hg j c hj
      exact (celLe_read hW (h2 j a c ha hj) (hc j a u' ha hu)).2
  unfold avLe at h
  split at h
  · split at h
    · cases hr with
      | agg _ vs hl hc => obtain ⟨h1, h2, h3⟩ := go h hl hc; exact ⟨.agg _ vs h1 h2, .agg _ h3⟩
    · cases h
  · split at h
    · cases hr with
      | tup _ vs hl hc => obtain ⟨h1, h2, h3⟩ := go h hl hc; exact ⟨.tup _ vs h1 h2, .tup _ h3⟩
    · cases h
  · exact celLe_read hW h hr

theorem envLe_get {st : AS} {chk : List Nat → Bool} {ρ : List (Nat × Nat)} {N : Nat} {env : List (Nat × AV)} : ∀ {l : List (Nat × AV)}, envLe st chk ρ N env l → ∀ t b, look l t = some b → ∃ a, look env t = some a ∧ avLe st chk ρ N a b
  | [], _, t, b, h => by simp [look] at h
  | (y, c) :: r, h, t, b, hl => by
    simp only [look] at hl
    split at hl
    · rename_i hb
      cases hl
      have := Nat.eq_of_beq_eq_true hb; subst this
      exact lookK_out h.1
    · exact envLe_get h.2 t b hl

theorem ownLe_get {chk : List Nat → Bool} {ρ : List (Nat × Nat)} {N : Nat} {st : AS} : ∀ {l : List (Nat × Option Ent)}, ownLe chk ρ N st l → ∀ k oe, look l k = some oe → ∃ e' e, oe = some e' ∧ k / 16 < N ∧ st.ss.own (rho ρ k) = some e ∧ entLe st chk ρ N e e'
  | [], _, k, oe, h => by simp [look] at h
  | (y, some e') :: r, h, k, oe, hl => by
    simp only [look] at hl
    split at hl
    · rename_i hb
      cases hl
      have := Nat.eq_of_beq_eq_true hb; subst this
      obtain ⟨e, h1, h2⟩ := ownK_out h.1.2
      exact ⟨e', e, rfl, blt_lt h.1.1, h1, h2⟩
    · exact ownLe_get h.2 k oe hl
  | (_, none) :: _, h, _, _, _ => h.elim

theorem ownLeZ_get {chk : List Nat → Bool} {ρ : List (Nat × Nat)} {N : Nat} {st : AS} : ∀ {l : List (Nat × Option Ent)}, ownLeZ chk ρ N st l → ∀ k oe, look l k = some oe → ∃ e', oe = some e' ∧ k / 16 < N ∧ ((rho ρ k = 14 ∧ ∃ s T, e' = .buf s [] T) ∨ (rho ρ k ≠ 14 ∧ ∃ e, st.ss.own (rho ρ k) = some e ∧ entLe st chk ρ N e e'))
  | [], _, k, oe, h => by simp [look] at h
  | (y, some e') :: r, h, k, oe, hl => by
    simp only [look] at hl
    split at hl
    · rename_i hb
      cases hl
      have := Nat.eq_of_beq_eq_true hb; subst this
      have h1 := h.1
      split at h1
      · rename_i h14
        exact ⟨e', rfl, blt_lt h1.1, .inl ⟨Nat.eq_of_beq_eq_true h14, nilE_out h1.2⟩⟩
      · rename_i h14
        obtain ⟨e, h3, h4⟩ := ownK_out h1.2
        exact ⟨e', rfl, blt_lt h1.1, .inr ⟨fun he => by rw [he] at h14; simp at h14, e, h3, h4⟩⟩
    · exact ownLeZ_get h.2 k oe hl
  | (_, none) :: _, h, _, _, _ => h.elim

theorem injZ_get {ρ : List (Nat × Nat)} : ∀ {l : List (Nat × Option Ent)}, injZ ρ l = true → ∀ k k' oe oe', look l k = some oe → look l k' = some oe' → rho ρ k = rho ρ k' → rho ρ k ≠ 14 → k = k'
  | [], _, k, _, _, _, h, _, _, _ => by simp [look] at h
  | (y, e) :: r, h, k, k', oe, oe', h1, h2, he, hn => by
    simp only [injZ, Bool.and_eq_true, Bool.or_eq_true] at h
    have no : rho ρ y ≠ 14 → ∀ j o, look r j = some o → rho ρ y ≠ rho ρ j := by
      intro hy j o hj hr
      rcases h.1 with h3 | h3
      · exact hy (Nat.eq_of_beq_eq_true h3)
      · have := List.all_eq_true.1 h3 _ (look_mem hj)
        simp [hr] at this
    simp only [look] at h1 h2
    cases hb : Nat.beq k y <;> cases hb' : Nat.beq k' y <;> simp only [hb, hb'] at h1 h2
    · exact injZ_get h.2 k k' oe oe' h1 h2 he hn
    · have e1 := Nat.eq_of_beq_eq_true hb'; subst e1; exact absurd he.symm (no (he ▸ hn) _ _ h1)
    · have e1 := Nat.eq_of_beq_eq_true hb; subst e1; exact absurd he (no hn _ _ h2)
    · rw [Nat.eq_of_beq_eq_true hb, Nat.eq_of_beq_eq_true hb']

theorem injN_get {ρ : List (Nat × Nat)} : ∀ {l : List (Nat × Option Ent)}, injN ρ l = true → ∀ k k' oe oe', look l k = some oe → look l k' = some oe' → rho ρ k = rho ρ k' → k = k'
  | [], _, k, _, _, _, h, _, _ => by simp [look] at h
  | (y, e) :: r, h, k, k', oe, oe', h1, h2, he => by
    simp only [injN, Bool.and_eq_true] at h
    have hall := List.all_eq_true.1 h.1
    have no : ∀ j o, look r j = some o → rho ρ y ≠ rho ρ j := by
      intro j o hj hr
      have := hall _ (look_mem hj)
      simp [hr] at this
    simp only [look] at h1 h2
    cases hb : Nat.beq k y <;> cases hb' : Nat.beq k' y <;> simp only [hb, hb'] at h1 h2
    · exact injN_get h.2 k k' oe oe' h1 h2 he
    · rw [Nat.eq_of_beq_eq_true hb'] at he; exact absurd he.symm (no _ _ h1)
    · rw [Nat.eq_of_beq_eq_true hb] at he; exact absurd he (no _ _ h2)
    · rw [Nat.eq_of_beq_eq_true hb, Nat.eq_of_beq_eq_true hb']

theorem entLe_kind {st : AS} {chk : List Nat → Bool} {ρ : List (Nat × Nat)} {N : Nat} {e e' : Ent} (h : entLe st chk ρ N e e') : e.sz = e'.sz ∧ e.len = e'.len := by
  unfold entLe at h
  split at h
  · exact ⟨(celsLe_get h.1).1, rfl⟩
  · obtain ⟨rfl, h⟩ := h; have h := h.out; subst h; exact ⟨rfl, rfl⟩
  · obtain ⟨rfl, h, _⟩ := h; have h := h.out; subst h; exact ⟨rfl, rfl⟩
  · exact ⟨rfl, rfl⟩
  · exact ⟨rfl, rfl⟩
  · cases h

theorem entLe_cases {st : AS} {chk : List Nat → Bool} {ρ : List (Nat × Nat)} {N : Nat} {e e' : Ent} (h : entLe st chk ρ N e e') : (∃ l m T T', e = .box l T ∧ e' = .box m T' ∧ celsLe st chk ρ N l m ∧ m.all AV.one = true ∧ tyLe T T') ∨ (∃ s xs, e = .arr s xs ∧ e' = .arr s xs) ∨ (∃ s xs T T', e = .buf s xs T ∧ e' = .buf s xs T' ∧ tyLe T T') ∨ (∃ Q mp, e = e' ∧ e'.obj = some (Q, mp)) := by
  unfold entLe at h
  split at h
  · exact .inl ⟨_, _, _, _, rfl, rfl, h⟩
  · obtain ⟨rfl, h⟩ := h; have h := h.out; subst h; exact .inr (.inl ⟨_, _, rfl, rfl⟩)
  · obtain ⟨rfl, h, ht⟩ := h; have h := h.out; subst h; exact .inr (.inr (.inl ⟨_, _, _, _, rfl, rfl, ht⟩))
  · have h := h.out; subst h; exact .inr (.inr (.inr ⟨_, _, rfl, rfl⟩))
  · obtain ⟨rfl, h⟩ := h; have h := h.out; subst h; exact .inr (.inr (.inr ⟨_, _, rfl, rfl⟩))
  · cases h

/-- An owned entry, read by what LeK leaves. -/
theorem entLe_own {st : AS} {chk : List Nat → Bool} {ρ : List (Nat × Nat)} {N : Nat} {w : World} {α : Nat → Loc} {X X' : Nat → Prop} (hW : LeW st chk w α X X') {k : Nat} {e e' : Ent} (h6 : entLe st chk ρ N e e') (ho : Own w α X (rho ρ k) e) :
    Own w (fun k => α (rho ρ k)) X' k e' ∧ ∀ x, x ∈ e'.vars → x.ok (fun k => k / 16 < N) := by
  obtain ⟨hsz, hlen⟩ := entLe_kind h6
  have hm : ∀ {x : D} {u : Value}, Rd w X x u → Rd w X' x u := fun h => h.mono fun b o hb hn => ⟨hb, fun h => hn (hW.sub b h)⟩
  rcases entLe_cases h6 with ⟨l, m', T1, T2, rfl, rfl, hc1, hc2, hc3⟩ | ⟨s, xs, rfl, rfl⟩ | ⟨s, xs, T1, T2, rfl, rfl, hty⟩ | ⟨Q, mp, rfl, hobj⟩
  rotate_right
  · have hvars : e.vars = [] := by cases e <;> first | rfl | cases hobj
    refine ⟨?_, fun x hx => by rw [hvars] at hx; cases hx⟩
    rcases ho.cases with (⟨_, ⟨sz, _, he⟩, _⟩ | ⟨hnil, arr, T, fz, cap, hB⟩) | ⟨Q', mp', he', hO⟩
    · subst he; cases hobj
    · have := hB.wid; cases e <;> first | exact this.elim | (cases hobj; done)
    · exact Own.ofO he' hO
  · rcases ho with ⟨_, ⟨sz, _, he⟩, _⟩ | ⟨hnil, arr, T, fz, cap, hB⟩
    · cases he
    obtain ⟨hl1, hl2⟩ := celsLe_get hc1
    have hget : ∀ (m : Nat) (c : AV), m'[m]? = some c → ∃ u, arr[(α (rho ρ k)).off + 0 * (Ent.box l T1).sz + m]? = some u ∧ RdA w (fun k => α (rho ρ k)) X' c u ∧ c.ok (fun k => k / 16 < N) := by
      intro m c hc
      have hlt : m < l.length := by rw [hl1]; exact (List.getElem?_eq_some_iff.1 hc).1
      obtain ⟨u, h7, h8⟩ := hB.rd 0 m l[m] (by simp [Ent.cell, hlt])
      have := celLe_read hW (hl2 m _ c (by simp [hlt]) hc) h8
      exact ⟨u, h7, this.1, this.2⟩
    refine ⟨.inr ⟨hnil, arr, T, fz, cap, hB.heap, by rw [← hsz]; exact hB.hsz, by rw [← hlen]; exact hB.len, by rw [← hsz]; exact hB.bnd, by rw [← hsz]; exact hB.nf, List.all_eq_true.1 hc2, fun j m c hc => ?_, (fun sz xs _ he => by cases he), hB.hone, fun V hV => ⟨(hB.ty V (hc3.ty V hV)).1, (hB.ty V (hc3.ty V hV)).2.1, fun cs V' h => by cases h; rw [← hl1]; exact (hB.ty V (hc3.ty V hV)).2.2 l T1 rfl⟩⟩, fun x hx => ?_⟩
    · rw [← hsz]
      simp only [Ent.cell] at hc
      split at hc
      · rename_i hj
        subst hj
        obtain ⟨u, h7, h8, _⟩ := hget m c hc
        exact ⟨u, h7, h8⟩
      · cases hc
    · obtain ⟨m, hm'⟩ := List.mem_iff_getElem?.1 (show x ∈ m' from hx)
      obtain ⟨u, _, _, h9⟩ := hget m x hm'
      exact h9
  · refine ⟨?_, fun x hx => by cases hx⟩
    rcases ho with ⟨_, ⟨sz, _, he⟩, _⟩ | ⟨hnil, arr, T, fz, cap, hB⟩
    · cases he
    · refine .inr ⟨hnil, arr, T, fz, cap, hB.heap, hB.hsz, hB.len, hB.bnd, hB.nf, hB.wid, fun j m c hc => ?_, hB.hv, hB.hone, hB.ty⟩
      obtain ⟨u, h7, h8⟩ := hB.rd j m c hc
      refine ⟨u, h7, ?_⟩
      simp only [Ent.cell, Option.bind_eq_some_iff, Option.map_eq_some_iff] at hc
      obtain ⟨x, _, y, _, rfl⟩ := hc
      exact .d _ _ (hm h8.dinv)
  · refine ⟨?_, fun x hx => by cases hx⟩
    rcases ho with ⟨hnil, ⟨sz, _, he⟩, hv⟩ | ⟨hnil, arr, T, fz, cap, hB⟩
    · cases he; exact .inl ⟨hnil, ⟨_, _, rfl⟩, hv⟩
    · refine .inr ⟨hnil, arr, T, fz, cap, hB.heap, hB.hsz, hB.len, hB.bnd, hB.nf, hB.wid, fun j m c hc => ?_, fun sz xs _ h => by cases h; exact hB.hv _ _ _ rfl, hB.hone, fun V hV => ⟨(hB.ty V (hty.ty V hV)).1, (hB.ty V (hty.ty V hV)).2.1, fun cs V' h => by cases h⟩⟩
      obtain ⟨u, h7, h8⟩ := hB.rd j m c hc
      refine ⟨u, h7, ?_⟩
      simp only [Ent.cell, Option.bind_eq_some_iff, Option.map_eq_some_iff] at hc
      obtain ⟨x, _, y, _, rfl⟩ := hc
      exact .d _ _ (hm h8.dinv)

theorem own_look {st : AS} {k : Nat} {e : Ent} (h : st.ss.own k = some e) : look st.own k = some (some e) := by
  simp only [AS.ss] at h
  cases hl : look st.own k with
  | none => simp [hl] at h
  | some oe => simp only [hl] at h; rw [h]

theorem mem_kept {ρ : List (Nat × Nat)} {own : List (Nat × Option Ent)} {k : Nat} {oe : Option Ent} (h : look own k = some oe) : rho ρ k ∈ keptOf ρ own :=
  List.mem_map.2 ⟨(k, oe), look_mem h, rfl⟩

/-- .. where names below 16 may be given. -/
structure LeD (ρ : List (Nat × Nat)) (st st' : AS) : Prop where
  env : envLe st (offB (keptOf ρ st'.own)) ρ st'.nx st.env st'.env
  rows : ownLeZ (offB (keptOf ρ st'.own)) ρ st'.nx st st'.own
  inj : injZ ρ st'.own = true
  nil : rho ρ 14 = 14
  nx : Nat.ble 1 st'.nx = true

theorem LeD.sim {ρ : List (Nat × Nat)} {st st' : AS} (h : LeD ρ st st') {G : List Gl} {X0 : Nat → Prop} {F : Fr} {w0 : World} {n : Nat} {α : Nat → Loc} {a : Act} {w : World} (hs : Sim G X0 F w0 n (names st) α st.ss a w)
    (hfix : ∀ k l, F.fix k = some l → k < 16 ∧ rho ρ k = k) :
    Sim G X0 F w0 n (names st') (fun k => α (rho ρ k)) st'.ss a w := by
  obtain ⟨h1, h2, h3, hr14, hf2⟩ := h
  have hown : ∀ k e', st'.ss.own k = some e' → k / 16 < st'.nx ∧ look st'.own k = some (some e') ∧ ((rho ρ k = 14 ∧ ∃ s T, e' = .buf s [] T) ∨ (rho ρ k ≠ 14 ∧ ∃ e, st.ss.own (rho ρ k) = some e ∧ entLe st (offB (keptOf ρ st'.own)) ρ st'.nx e e')) := by
    intro k e' hk
    have hl := own_look hk
    obtain ⟨e1, h4, h5, h6⟩ := ownLeZ_get h2 k _ hl
    cases h4
    exact ⟨h5, hl, h6⟩
  have hnil : ∀ k e', st'.ss.own k = some e' → (α (rho ρ k)).nil = false → ∃ e, k / 16 < st'.nx ∧ st.ss.own (rho ρ k) = some e ∧ entLe st (offB (keptOf ρ st'.own)) ρ st'.nx e e' ∧ look st'.own k = some (some e') ∧ rho ρ k ≠ 14 := by
    intro k e' hk hn
    obtain ⟨h5, h6, h7 | ⟨h7, e, h8, h9⟩⟩ := hown k e' hk
    · rw [h7.1, hs.nil0.1] at hn; cases hn
    · exact ⟨e, h5, h8, h9, h6, h7⟩
  have hX : ∀ b, XX (fun k => α (rho ρ k)) st'.ss.own X0 b → XX α st.ss.own X0 b := by
    rintro b (⟨k, e', hk, hn, rfl⟩ | hx)
    · obtain ⟨e, _, h5, _⟩ := hnil k e' hk hn
      exact .inl ⟨_, e, h5, hn, rfl⟩
    · exact .inr hx
  have hW : LeW st (offB (keptOf ρ st'.own)) w α (XX α st.ss.own X0) (XX (fun k => α (rho ρ k)) st'.ss.own X0) := by
    refine ⟨hX, fun _ _ k _ e he => hs.own k e he, fun us hus k hku e hk hnl => ?_, hs.nil0.2.1⟩
    have hnk : k ∉ keptOf ρ st'.own := no_meet (by simpa [offB] using hus) hku
    rintro (⟨k', e', hk', hnl', hb⟩ | hx)
    · obtain ⟨e2, _, h5, _, h7, _⟩ := hnil k' e' hk' hnl'
      have := hs.inj _ _ _ _ h5 hk hnl' hnl hb
      exact hnk (this ▸ mem_kept h7)
    · exact (hs.mine k e hk hnl).2 hx
  refine ⟨hs.size, hs.defers, fun t b ht => ?_, fun t b ht => ?_, fun k e' hk => ?_, fun k e' hk => ?_, fun k e k' e' hk hk' hn hn' hb => ?_, fun k e' hk hn => ?_, hs.x0, hs.fr, hs.grow, hs.os, hs.tape, hs.output, hs.gl, fun k l hk => ?_, ?_⟩
  · obtain ⟨a, ha, hl⟩ := envLe_get h1 t b ht
    exact (avLe_read hW hl (hs.env t a ha)).1
  · obtain ⟨a, ha, hl⟩ := envLe_get h1 t b ht
    exact (avLe_read hW hl (hs.env t a ha)).2
  · obtain ⟨_, _, ⟨h7, s, T, rfl⟩ | ⟨_, e, h5, h6⟩⟩ := hown k e' hk
    · exact .inl ⟨by show (α (rho ρ k)).nil = true; rw [h7]; exact hs.nil0.1, ⟨s, T, rfl⟩, by show (α (rho ρ k)).hv = _; rw [h7]; exact hs.nil0.2.1⟩
    · exact (entLe_own hW h6 (hs.own _ e h5)).1
  · obtain ⟨h4, _, ⟨h7, s, T, rfl⟩ | ⟨_, e, h5, h6⟩⟩ := hown k e' hk
    · exact ⟨h4, fun x hx => by cases hx⟩
    · exact ⟨h4, (entLe_own hW h6 (hs.own _ e h5)).2⟩
  · obtain ⟨e1, _, h5, _, h6, h9⟩ := hnil k e hk hn
    obtain ⟨e2, _, h7, _, h8, _⟩ := hnil k' e' hk' hn'
    exact injZ_get h3 k k' _ _ h6 h8 (hs.inj _ _ _ _ h5 h7 hn hn' hb) h9
  · obtain ⟨e, _, h5, _⟩ := hnil k e' hk hn
    exact hs.mine _ e h5 hn
  · obtain ⟨h4, h4'⟩ := hfix k l hk
    obtain ⟨h5, h6⟩ := hs.fix k l hk
    refine ⟨?_, ?_⟩
    case refine_2 =>
      simp only [names] at h6 ⊢
      have := Nat.le_of_ble_eq_true hf2; omega
    show α (rho ρ k) = l
    rw [h4']
    exact (hs.fix k l hk).1
  · show (α (rho ρ 14)).nil = true ∧ (α (rho ρ 14)).hv = _ ∧ _
    rw [hr14]
    refine ⟨hs.nil0.1, hs.nil0.2.1, ?_⟩
    have := Nat.le_of_ble_eq_true hf2
    show 14 / 16 < st'.nx
    omega

theorem LeK.sim {ρ : List (Nat × Nat)} {st st' : AS} (h : LeK ρ st st') {G : List Gl} {X0 : Nat → Prop} {F : Fr} {w0 : World} {n : Nat} {α : Nat → Loc} {a : Act} {w : World} (hs : Sim G X0 F w0 n (names st) α st.ss a w)
    (hfix : ∀ k l, F.fix k = some l → k < 16) :
    Sim G X0 F w0 n (names st') (fun k => α (rho ρ k)) st'.ss a w := by
  obtain ⟨h1, h2, h3, hf⟩ := h
  simp only [Bool.and_eq_true] at hf
  exact LeD.sim ⟨h1, h2, h3, fixB_rho hf.1 (by omega), hf.2⟩ hs fun k l hk => ⟨hfix k l hk, fixB_rho hf.1 (hfix k l hk)⟩

end Go.Eng

/-
  Calls: of functions with a contract over data, and of functions with a contract over rows that the caller lends; function values.
-/
namespace Go.Eng
open Go.RowKit (Below)

def argA : Nat → List AV → List (Nat × AV)
  | _, [] => []
  | i, a :: l => (i, a) :: argA (i + 1) l

theorem argA_look : ∀ (as : List AV) (i t : Nat) (av : AV), look (argA i as) t = some av → i ≤ t ∧ as[t - i]? = some av
  | [], i, t, av, h => by simp [argA, look] at h
  | a :: as, i, t, av, h => by
    simp only [argA, look] at h
    split at h
    · rename_i hb
      have := Nat.eq_of_beq_eq_true hb
      subst this
      cases h
      exact ⟨Nat.le_refl _, by simp⟩
    · obtain ⟨h1, h2⟩ := argA_look as (i + 1) t av h
      refine ⟨by omega, ?_⟩
      rw [show t - i = (t - (i + 1)) + 1 by omega]
      simpa using h2

theorem argA_get : ∀ (as : List AV) (i j : Nat) (av : AV), as[j]? = some av → look (argA i as) (i + j) = some av
  | [], i, j, av, h => by simp at h
  | a :: as, i, 0, av, h => by simp at h; subst h; simp [argA, look]
  | a :: as, i, j + 1, av, h => by
    have := argA_get as (i + 1) j av (by simpa using h)
    simp only [argA, look]
    split
    · rename_i hb
      have := Nat.eq_of_beq_eq_true hb
      omega
    · rw [show i + (j + 1) = i + 1 + j by omega]; exact this

def retOf (us : Array Value) : Value := if h : us.size = 1 then us[0] else .tuple us

/-- A function that has a body. -/
def HasBody (C : Ctx) (f : FuncId) : Prop := ∃ fn, C.P.funcs[f]? = some fn ∧ (fn.name == "runtime.NumGoroutine") = false ∧ fn.body.isNone = false

/-- THE CONTRACT OF A FUNCTION THAT IS LENT ROWS: called at what reads as bs, the rows own lent (names below 16), it returns what reads as rs, and the rows are own' then (names from 16 to 31 are new). -/
def DoesG (C : Ctx) (CA : Array Value → World → (Ending → World → Prop) → Prop) (f : FuncId) (bs : List AV) (own : List (Nat × Option Ent)) (rs : List AV) (own' : List (Nat × Option Ent)) : Prop :=
  HasBody C f ∧
  ∀ (w : World) (X : Nat → Prop) (F : Fr) (α : Nat → Loc) (vs : Array Value), (∀ k l, F.fix k = some l → k < 16) →
    Sim C.G X F w bs.length (names ⟨argA 0 bs, own, 1⟩) α (AS.ss ⟨argA 0 bs, own, 1⟩) ⟨vs, []⟩ w →
    CA vs w fun e w' => ∃ α' us, e = .returned (retOf us) ∧ Sim C.G X F w rs.length (names ⟨argA 0 rs, own', 2⟩) α' (AS.ss ⟨argA 0 rs, own', 2⟩) ⟨us, []⟩ w'

/-- Called by a statement, or deferred. -/
def CallsW (P : Program) (f : FuncId) (vs : Array Value) (w : World) (R : Ending → World → Prop) : Prop :=
  Calls P f vs w R ∧ ∀ u, CallsD P f vs u w fun e u' w' => u' = u ∧ R e w'
theorem CallsW.mono {P : Program} {f : FuncId} {vs : Array Value} {w : World} {R R' : Ending → World → Prop} (h : CallsW P f vs w R) (hr : ∀ e w', R e w' → R' e w') : CallsW P f vs w R' :=
  ⟨h.1.mono hr, fun u => (h.2 u).mono fun e _ w' hh => ⟨hh.1, hr e w' hh.2⟩⟩

def DoesH (C : Ctx) (f : FuncId) (bs : List AV) (own : List (Nat × Option Ent)) (rs : List AV) (own' : List (Nat × Option Ent)) : Prop := DoesG C (Calls C.P f) f bs own rs own'
/-- .. that may be deferred, too. -/
def DoesW (C : Ctx) (f : FuncId) (bs : List AV) (own : List (Nat × Option Ent)) (rs : List AV) (own' : List (Nat × Option Ent)) : Prop := DoesG C (CallsW C.P f) f bs own rs own'
theorem DoesW.toH {C : Ctx} {f : FuncId} {bs : List AV} {own : List (Nat × Option Ent)} {rs : List AV} {own' : List (Nat × Option Ent)} (h : DoesW C f bs own rs own') : DoesH C f bs own rs own' :=
  ⟨h.1, fun w X F α vs hF hs => (h.2 w X F α vs hF hs).1⟩

/-! #### What the call leaves, in the caller's names -/

def rn (ρ : List (Nat × Nat)) (nm k : Nat) : Nat := match Nat.blt k 16 with | true => rho ρ k | false => 16 * nm + (k - 16)

def rnK (keys : List Nat) (ρ : List (Nat × Nat)) (nm k : Nat) (K : Nat → Prop) : Prop :=
  match Nat.blt k 16 with
  | true => match hasN keys k with | true => (match rho ρ k with | 0 => K 0 | m + 1 => K (m + 1)) | false => False
  | false => match Nat.blt k 32 with | true => (match 16 * nm + (k - 16) with | 0 => K 0 | m + 1 => K (m + 1)) | false => False

theorem rnK_out {keys : List Nat} {ρ : List (Nat × Nat)} {nm k : Nat} {K : Nat → Prop} (h : rnK keys ρ nm k K) : K (rn ρ nm k) ∧ ((k < 16 ∧ k ∈ keys) ∨ (16 ≤ k ∧ k < 32)) := by
  unfold rnK at h
  unfold rn
  split at h
  · rename_i hb
    have h1 := blt_lt hb
    split at h
    · rename_i hk
      refine ⟨?_, .inl ⟨h1, hasN_iff.1 hk⟩⟩
      split at h
      · rename_i h0; simpa [h0] using h
      · rename_i m h0; simpa [h0] using h
    · cases h
  · rename_i hb
    split at h
    · rename_i hb2
      have h1 := blt_lt hb2
      have h2 : ¬ k < 16 := by
        intro hlt
        have : Nat.blt k 16 = true := by simp [Nat.blt]; omega
        rw [this] at hb; cases hb
      refine ⟨?_, .inr ⟨by omega, h1⟩⟩
      split at h
      · rename_i h0; simpa [h0] using h
      · rename_i m h0; simpa [h0] using h
    · cases h

def AV.rn0 (ρ : List (Nat × Nat)) (nm : Nat) : AV → AV
  | .op k i j => .op (rn ρ nm k) i j
  | .os k => .os (rn ρ nm k)
  | a => a

def AV.rn1 (ρ : List (Nat × Nat)) (nm : Nat) : AV → AV
  | .fn g as bs => .fn g (as.map (AV.rn0 ρ nm)) (bs.map (AV.rn0 ρ nm))
  | a => a.rn0 ρ nm

def AV.rn (ρ : List (Nat × Nat)) (nm : Nat) : AV → AV
  | .agg cs => .agg (cs.map (AV.rn1 ρ nm))
  | .tup cs => .tup (cs.map (AV.rn1 ρ nm))
  | a => a.rn1 ρ nm

/-- Which names are known. -/
def KN (keys : List Nat) (k : Nat) : Prop := (k < 16 ∧ k ∈ keys) ∨ (16 ≤ k ∧ k < 32)

/-- One level: no parts. -/
def rc0K (keys : List Nat) (ρ : List (Nat × Nat)) (nm : Nat) (a : AV) (K : AV → Prop) : Prop :=
  match a with
  | .any => K .any
  | .d x => K (.d x)
  | .op k i j => rnK keys ρ nm k fun k => K (.op k i j)
  | .os k => rnK keys ρ nm k fun k => K (.os k)
  | .nl s => K (.nl s)
  | .pp x j => K (.pp x j)
  | .gp g => K (.gp g)
  | _ => False

theorem rc0K_out {keys : List Nat} {ρ : List (Nat × Nat)} {nm : Nat} {a : AV} {K : AV → Prop} (h : rc0K keys ρ nm a K) : K (a.rn0 ρ nm) ∧ a.ok (KN keys) ∧ (∀ cs, a ≠ .agg cs) ∧ (∀ cs, a ≠ .tup cs) ∧ ∀ g xs ys, a ≠ .fn g xs ys := by
  unfold rc0K at h
  split at h
  · exact ⟨h, .any, by simp, by simp, by simp⟩
  · exact ⟨h, .d _, by simp, by simp, by simp⟩
  · obtain ⟨h1, h2⟩ := rnK_out h; exact ⟨h1, .op _ _ _ h2, by simp, by simp, by simp⟩
  · obtain ⟨h1, h2⟩ := rnK_out h; exact ⟨h1, .os _ h2, by simp, by simp, by simp⟩
  · exact ⟨h, .nl _, by simp, by simp, by simp⟩
  · exact ⟨h, .pp _ _, by simp, by simp, by simp⟩
  · exact ⟨h, .gp _, by simp, by simp, by simp⟩
  · cases h

def rcs0K (keys : List Nat) (ρ : List (Nat × Nat)) (nm : Nat) : List AV → (List AV → Prop) → Prop
  | [], K => K []
  | a :: l, K => rc0K keys ρ nm a fun a => rcs0K keys ρ nm l fun l => K (a :: l)

/-- A list without parts of parts. -/
def Simple (keys : List Nat) (l : List AV) : Prop := ∀ a, a ∈ l → a.ok (KN keys) ∧ (∀ cs, a ≠ .agg cs) ∧ (∀ cs, a ≠ .tup cs) ∧ ∀ g xs ys, a ≠ .fn g xs ys

theorem rcs0K_out {keys : List Nat} {ρ : List (Nat × Nat)} {nm : Nat} {l : List AV} {K : List AV → Prop} (h : rcs0K keys ρ nm l K) : K (l.map (AV.rn0 ρ nm)) ∧ Simple keys l := by
  induction l generalizing K with
  | nil => exact ⟨h, fun a ha => by cases ha⟩
  | cons a l ih =>
    obtain ⟨h1, h2⟩ := rc0K_out h
    obtain ⟨h3, h4⟩ := ih h1
    exact ⟨h3, fun b hb => by
      rcases List.mem_cons.1 hb with rfl | hb
      · exact h2
      · exact h4 b hb⟩

/-- One level, and functions over such parts. -/
def rc1K (keys : List Nat) (ρ : List (Nat × Nat)) (nm : Nat) (a : AV) (K : AV → Prop) : Prop :=
  match a with
  | .fn g as bs => rcs0K keys ρ nm as fun as => rcs0K keys ρ nm bs fun bs => K (.fn g as bs)
  | a => rc0K keys ρ nm a K

def rcs1K (keys : List Nat) (ρ : List (Nat × Nat)) (nm : Nat) : List AV → (List AV → Prop) → Prop
  | [], K => K []
  | a :: l, K => rc1K keys ρ nm a fun a => rcs1K keys ρ nm l fun l => K (a :: l)

def rcK (keys : List Nat) (ρ : List (Nat × Nat)) (nm : Nat) (a : AV) (K : AV → Prop) : Prop :=
  match a with
  | .agg cs => rcs1K keys ρ nm cs fun cs => K (.agg cs)
  | .tup cs => rcs1K keys ρ nm cs fun cs => K (.tup cs)
  | a => rc1K keys ρ nm a K

/-- What a renaming of a is good for. -/
structure Ren (keys : List Nat) (ρ : List (Nat × Nat)) (nm : Nat) (a : AV) : Prop where
  ok : a.ok (KN keys)
  one : (a.rn ρ nm).one = a.one
  okr : ∀ q : Nat → Prop, (∀ k, KN keys k → q (Eng.rn ρ nm k)) → (a.rn ρ nm).ok q
  rd : ∀ (w : World) (α α' : Nat → Loc) (X X' : Nat → Prop) (v : Value), RdA w α' X a v → (∀ b, (∃ o, w.heap[b]? = some o) → X' b → X b) → (∀ k, KN keys k → α (Eng.rn ρ nm k) = α' k) → RdA w α X' (a.rn ρ nm) v

theorem ren0_rd {keys : List Nat} {ρ : List (Nat × Nat)} {nm : Nat} {a : AV} (h : a.ok (KN keys)) (h1 : ∀ cs, a ≠ .agg cs) (h2 : ∀ cs, a ≠ .tup cs) (h3 : ∀ g xs ys, a ≠ .fn g xs ys) :
    (a.rn0 ρ nm).one = a.one ∧ (∀ q : Nat → Prop, (∀ k, KN keys k → q (Eng.rn ρ nm k)) → (a.rn0 ρ nm).ok q) ∧
    ∀ (w : World) (α α' : Nat → Loc) (X X' : Nat → Prop) (v : Value), RdA w α' X a v → (∀ b, (∃ o, w.heap[b]? = some o) → X' b → X b) → (∀ k, KN keys k → α (Eng.rn ρ nm k) = α' k) → RdA w α X' (a.rn0 ρ nm) v := by
  have hm : ∀ {w : World} {X X' : Nat → Prop} {x : D} {u : Value}, (∀ b, (∃ o, w.heap[b]? = some o) → X' b → X b) → Rd w X x u → Rd w X' x u :=
    fun hX h => h.mono fun b o hb hn => ⟨hb, fun h => hn (hX b ⟨o, hb⟩ h)⟩
  cases h with
  | any => exact ⟨rfl, fun q _ => .any, fun w α α' X X' v hr _ _ => .any v⟩
  | ab => exact ⟨rfl, fun q _ => .ab, fun w α α' X X' v hr _ _ => by cases hr; exact .ab _⟩
  | ap => exact ⟨rfl, fun q _ => .ap, fun w α α' X X' v hr _ _ => by cases hr; exact .ap _⟩
  | d x => exact ⟨rfl, fun q _ => .d x, fun w α α' X X' v hr hX _ => .d _ _ (hm hX hr.dinv)⟩
  | agg cs _ => exact absurd rfl (h1 cs)
  | op k i j hk =>
    refine ⟨rfl, fun q hq => .op _ _ _ (hq k hk), fun w α α' X X' v hr hX hα => ?_⟩
    cases hr
    rw [← hα k hk]; exact .op _ _ _
  | os k hk =>
    refine ⟨rfl, fun q hq => .os _ (hq k hk), fun w α α' X X' v hr hX hα => ?_⟩
    cases hr with
    | os _ ho => rw [← hα k hk] at ho ⊢; exact .os _ ho
  | nl s => exact ⟨rfl, fun q _ => .nl s, fun w α α' X X' v hr _ _ => by cases hr; exact .nl _⟩
  | pp x i =>
    refine ⟨rfl, fun q _ => .pp x i, fun w α α' X X' v hr hX _ => ?_⟩
    cases hr with
    | pp _ _ blk off arr T fz f hh hx g1 g2 => exact .pp _ _ blk off arr T fz f hh (fun h => hx (hX _ ⟨_, hh⟩ h)) g1 fun j c hc => hm hX (g2 j c hc)
  | gp g => exact ⟨rfl, fun q _ => .gp g, fun w α α' X X' v hr _ _ => by cases hr; exact .gp _⟩
  | tup cs _ => exact absurd rfl (h2 cs)
  | fn g as bs _ _ => exact absurd rfl (h3 g as bs)

/-- .. of what has no parts but a function's. -/
structure Ren1 (keys : List Nat) (ρ : List (Nat × Nat)) (nm : Nat) (a : AV) : Prop where
  nagg : ∀ cs, a ≠ .agg cs
  ntup : ∀ cs, a ≠ .tup cs
  ok : a.ok (KN keys)
  one : (a.rn1 ρ nm).one = a.one
  okr : ∀ q : Nat → Prop, (∀ k, KN keys k → q (Eng.rn ρ nm k)) → (a.rn1 ρ nm).ok q
  rd : ∀ (w : World) (α α' : Nat → Loc) (X X' : Nat → Prop) (v : Value), RdA w α' X a v → (∀ b, (∃ o, w.heap[b]? = some o) → X' b → X b) → (∀ k, KN keys k → α (Eng.rn ρ nm k) = α' k) → RdA w α X' (a.rn1 ρ nm) v

theorem rc1K_out {keys : List Nat} {ρ : List (Nat × Nat)} {nm : Nat} {a : AV} {K : AV → Prop} (h : rc1K keys ρ nm a K) : K (a.rn1 ρ nm) ∧ Ren1 keys ρ nm a := by
  have lst : ∀ {cs : List AV}, Simple keys cs → ∀ {w : World} {α α' : Nat → Loc} {X X' : Nat → Prop} {vs : Array Value}, (∀ (j : Nat) (c : AV) (v : Value), cs[j]? = some c → vs[j]? = some v → RdA w α' X c v) →
      (∀ b, (∃ o, w.heap[b]? = some o) → X' b → X b) → (∀ k, KN keys k → α (Eng.rn ρ nm k) = α' k) → ∀ (j : Nat) (c : AV) (v : Value), (cs.map (AV.rn0 ρ nm))[j]? = some c → vs[j]? = some v → RdA w α X' c v := by
    intro cs hs w α α' X X' vs hc hX hα j c v h1 h2
    simp only [List.getElem?_map, Option.map_eq_some_iff] at h1
    obtain ⟨a, ha, rfl⟩ := h1
    obtain ⟨g1, g2, g3, g4⟩ := hs a (List.mem_of_getElem? ha)
    exact (ren0_rd g1 g2 g3 g4).2.2 w α α' X X' v (hc j a v ha h2) hX hα
  have lok : ∀ {cs : List AV}, Simple keys cs → ∀ q : Nat → Prop, (∀ k, KN keys k → q (Eng.rn ρ nm k)) → ∀ c, c ∈ cs.map (AV.rn0 ρ nm) → c.ok q := by
    intro cs hs q hq c hc
    obtain ⟨a, ha, rfl⟩ := List.mem_map.1 hc
    obtain ⟨g1, g2, g3, g4⟩ := hs a ha
    exact (ren0_rd g1 g2 g3 g4).2.1 q hq
  unfold rc1K at h
  split at h
  · obtain ⟨h1, h2⟩ := rcs0K_out h
    obtain ⟨h3, h4⟩ := rcs0K_out h1
    refine ⟨h3, by simp, by simp, .fn _ _ _ (fun c hc => (h2 c hc).1) fun c hc => (h4 c hc).1, rfl, fun q hq => .fn _ _ _ (lok h2 q hq) (lok h4 q hq), fun w α α' X X' v hr hX hα => ?_⟩
    cases hr with
    | fn _ _ _ va vb l1 l2 c1 c2 => exact .fn _ _ _ va vb (by simpa using l1) (by simpa using l2) (lst h2 c1 hX hα) (lst h4 c2 hX hα)
  · rename_i h3
    obtain ⟨hk, hok, n1, n2, n3⟩ := rc0K_out h
    have e : a.rn1 ρ nm = a.rn0 ρ nm := by
      cases a <;> first | rfl | exact absurd rfl (h3 _ _ _)
    obtain ⟨g1, g2, g3⟩ := ren0_rd (ρ := ρ) (nm := nm) hok n1 n2 n3
    rw [e]
    exact ⟨hk, n1, n2, hok, by rw [e]; exact g1, by rw [e]; exact g2, by rw [e]; exact g3⟩

theorem rcs1K_out {keys : List Nat} {ρ : List (Nat × Nat)} {nm : Nat} {l : List AV} {K : List AV → Prop} (h : rcs1K keys ρ nm l K) : K (l.map (AV.rn1 ρ nm)) ∧ ∀ a, a ∈ l → Ren1 keys ρ nm a := by
  induction l generalizing K with
  | nil => exact ⟨h, fun a ha => by cases ha⟩
  | cons a l ih =>
    obtain ⟨h1, h2⟩ := rc1K_out h
    obtain ⟨h3, h4⟩ := ih h1
    exact ⟨h3, fun b hb => by
      rcases List.mem_cons.1 hb with rfl | hb
      · exact h2
      · exact h4 b hb⟩

theorem rcK_out {keys : List Nat} {ρ : List (Nat × Nat)} {nm : Nat} {a : AV} {K : AV → Prop} (h : rcK keys ρ nm a K) : K (a.rn ρ nm) ∧ Ren keys ρ nm a := by
  have lst : ∀ {cs : List AV}, (∀ a, a ∈ cs → Ren1 keys ρ nm a) → ∀ {w : World} {α α' : Nat → Loc} {X X' : Nat → Prop} {vs : Array Value}, (∀ (j : Nat) (c : AV) (v : Value), cs[j]? = some c → vs[j]? = some v → RdA w α' X c v) →
      (∀ b, (∃ o, w.heap[b]? = some o) → X' b → X b) → (∀ k, KN keys k → α (Eng.rn ρ nm k) = α' k) → ∀ (j : Nat) (c : AV) (v : Value), (cs.map (AV.rn1 ρ nm))[j]? = some c → vs[j]? = some v → RdA w α X' c v := by
    intro cs hs w α α' X X' vs hc hX hα j c v h1 h2
    simp only [List.getElem?_map, Option.map_eq_some_iff] at h1
    obtain ⟨a, ha, rfl⟩ := h1
    exact (hs a (List.mem_of_getElem? ha)).rd w α α' X X' v (hc j a v ha h2) hX hα
  have lok : ∀ {cs : List AV}, (∀ a, a ∈ cs → Ren1 keys ρ nm a) → ∀ q : Nat → Prop, (∀ k, KN keys k → q (Eng.rn ρ nm k)) → ∀ c, c ∈ cs.map (AV.rn1 ρ nm) → c.ok q := by
    intro cs hs q hq c hc
    obtain ⟨a, ha, rfl⟩ := List.mem_map.1 hc
    exact (hs a ha).okr q hq
  unfold rcK at h
  split at h
  · obtain ⟨h1, h2⟩ := rcs1K_out h
    refine ⟨h1, .agg _ fun c hc => (h2 c hc).ok, rfl, fun q hq => .agg _ (lok h2 q hq), fun w α α' X X' v hr hX hα => ?_⟩
    cases hr with
    | agg _ vs hl hc => exact .agg _ vs (by simpa using hl) (lst h2 hc hX hα)
  · obtain ⟨h1, h2⟩ := rcs1K_out h
    refine ⟨h1, .tup _ fun c hc => (h2 c hc).ok, rfl, fun q hq => .tup _ (lok h2 q hq), fun w α α' X X' v hr hX hα => ?_⟩
    cases hr with
    | tup _ vs hl hc => exact .tup _ vs (by simpa using hl) (lst h2 hc hX hα)
  · rename_i h1 h2
    obtain ⟨hk, r⟩ := rc1K_out h
    have e : a.rn ρ nm = a.rn1 ρ nm := by
      cases a <;> first | rfl | exact absurd rfl (h1 _) | exact absurd rfl (h2 _)
    rw [e]
    exact ⟨hk, r.ok, by rw [e]; exact r.one, by rw [e]; exact r.okr, by rw [e]; exact r.rd⟩

def rcsK (keys : List Nat) (ρ : List (Nat × Nat)) (nm : Nat) : List AV → (List AV → Prop) → Prop
  | [], K => K []
  | a :: l, K => rcK keys ρ nm a fun a => rcsK keys ρ nm l fun l => K (a :: l)

theorem rcsK_out {keys : List Nat} {ρ : List (Nat × Nat)} {nm : Nat} {l : List AV} {K : List AV → Prop} (h : rcsK keys ρ nm l K) : K (l.map (AV.rn ρ nm)) ∧ ∀ a, a ∈ l → Ren keys ρ nm a := by
  induction l generalizing K with
  | nil => exact ⟨h, fun a ha => by cases ha⟩
  | cons a l ih =>
    obtain ⟨h1, h2⟩ := rcK_out h
    obtain ⟨h3, h4⟩ := ih h1
    exact ⟨h3, fun b hb => by
      rcases List.mem_cons.1 hb with rfl | hb
      · exact h2
      · exact h4 b hb⟩

def Ent.rn (ρ : List (Nat × Nat)) (nm : Nat) : Ent → Ent
  | .box cs T => .box (cs.map (AV.rn ρ nm)) T
  | e => e

def reK (keys : List Nat) (ρ : List (Nat × Nat)) (nm : Nat) (e : Ent) (K : Ent → Prop) : Prop :=
  match e with
  | .box cs T => rcsK keys ρ nm cs fun cs => K (.box cs T)
  | .arr s xs => K (.arr s xs)
  | .buf s xs T => K (.buf s xs T)
  | .iset ks => K (.iset ks)
  | .iters s pos => K (.iters s pos)

theorem reK_out {keys : List Nat} {ρ : List (Nat × Nat)} {nm : Nat} {e : Ent} {K : Ent → Prop} (h : reK keys ρ nm e K) : K (e.rn ρ nm) ∧ ∀ a, a ∈ e.vars → Ren keys ρ nm a := by
  unfold reK at h
  split at h
  · exact rcsK_out h
  · exact ⟨h, fun a ha => by cases ha⟩
  · exact ⟨h, fun a ha => by cases ha⟩
  · exact ⟨h, fun a ha => by cases ha⟩
  · exact ⟨h, fun a ha => by cases ha⟩

/-- The rows after the call, ahead of the row tail. -/
def updHK (keys : List Nat) (ρ : List (Nat × Nat)) (nm : Nat) (tail : List (Nat × Option Ent)) : List (Nat × Option Ent) → (List (Nat × Option Ent) → Prop) → Prop
  | [], K => K tail
  | (k, some e) :: r, K => rnK keys ρ nm k fun k => reK keys ρ nm e fun e => updHK keys ρ nm tail r fun u => K ((k, some e) :: u)
  | (_, none) :: _, _ => False

def rnEnt (ρ : List (Nat × Nat)) (nm : Nat) (x : Nat × Option Ent) : Nat × Option Ent := (rn ρ nm x.1, x.2.map (Ent.rn ρ nm))

theorem updHK_out {keys : List Nat} {ρ : List (Nat × Nat)} {nm : Nat} {tail : List (Nat × Option Ent)} {l : List (Nat × Option Ent)} {K : List (Nat × Option Ent) → Prop} (h : updHK keys ρ nm tail l K) :
    K (l.map (rnEnt ρ nm) ++ tail) ∧ ∀ k oe, (k, oe) ∈ l → KN keys k ∧ ∃ e, oe = some e ∧ ∀ a, a ∈ e.vars → Ren keys ρ nm a := by
  induction l generalizing K with
  | nil => exact ⟨h, fun k oe hk => by cases hk⟩
  | cons x l ih =>
    obtain ⟨k, oe⟩ := x
    cases oe with
    | none => exact h.elim
    | some e =>
      obtain ⟨h1, h2⟩ := rnK_out h
      obtain ⟨h3, h4⟩ := reK_out h1
      obtain ⟨h5, h6⟩ := ih h3
      refine ⟨h5, fun k' oe' hk' => ?_⟩
      rcases List.mem_cons.1 hk' with he | hk'
      · cases he; exact ⟨h2, e, rfl, h4⟩
      · exact h6 k' oe' hk'

def outK (rs : List AV) (K : AV → Prop) : Prop := match rs with | [r] => K r | rs => K (.tup rs)
def outAV (rs : List AV) : AV := match rs with | [r] => r | rs => .tup rs
theorem outK_out {rs : List AV} {K : AV → Prop} (h : outK rs K) : K (outAV rs) := by
  unfold outK at h; unfold outAV
  split at h
  · exact h
  · exact h

def nones (l : List Nat) : List (Nat × Option Ent) := match l with | [] => [] | k :: r => (k, none) :: nones r
theorem nones_eq (l : List Nat) : nones l = l.map fun k => (k, none) := by
  induction l with
  | nil => rfl
  | cons k r ih => simp [nones, ih]

def appN (l m : List Nat) : List Nat := match l with | [] => m | x :: r => x :: appN r m
theorem appN_eq (l m : List Nat) : appN l m = l ++ m := by
  induction l with
  | nil => rfl
  | cons k r ih => simp [appN, ih]

def subN (l m : List Nat) : Bool := match l with | [] => true | x :: r => match hasN m x with | true => subN r m | false => false
theorem subN_get {l m : List Nat} (h : subN l m = true) : ∀ x, x ∈ l → x ∈ m := by
  induction l with
  | nil => intro x hx; cases hx
  | cons y r ih =>
    simp only [subN] at h
    split at h
    · rename_i hb
      intro x hx
      rcases List.mem_cons.1 hx with rfl | hx
      · exact hasN_iff.1 hb
      · exact ih h x hx
    · cases h

/-- Rows that may be read as data: those of us. -/
def chkH (us vs : List Nat) : Bool := subN vs us

def leArgs (st : AS) (chk : List Nat → Bool) (ρ : List (Nat × Nat)) : List AV → List AV → Prop
  | [], [] => True
  | a :: l, b :: m => avLe st chk ρ 1 a b ∧ leArgs st chk ρ l m
  | _, _ => False

theorem leArgs_get {st : AS} {chk : List Nat → Bool} {ρ : List (Nat × Nat)} : ∀ {l m : List AV}, leArgs st chk ρ l m → l.length = m.length ∧ ∀ (j : Nat) (a b : AV), l[j]? = some a → m[j]? = some b → avLe st chk ρ 1 a b
  | [], [], _ => ⟨rfl, fun j a b h => by simp at h⟩
  | a :: l, b :: m, h => by
    obtain ⟨h1, h2⟩ := leArgs_get h.2
    refine ⟨by simp [h1], fun j x y hx hy => ?_⟩
    cases j with
    | zero => simp at hx hy; subst hx hy; exact h.1
    | succ j => exact h2 j x y (by simpa using hx) (by simpa using hy)
  | [], _ :: _, h => h.elim
  | _ :: _, [], h => h.elim

def keysOf (own : List (Nat × Option Ent)) : List Nat := match own with | [] => [] | x :: r => x.1 :: keysOf r
theorem keysOf_eq (own : List (Nat × Option Ent)) : keysOf own = own.map (·.1) := by
  induction own with
  | nil => rfl
  | cons k r ih => simp [keysOf, ih]

def keptN (ρ : List (Nat × Nat)) (own : List (Nat × Option Ent)) : List Nat := match own with | [] => [] | x :: r => rho ρ x.1 :: keptN ρ r
theorem keptN_eq (ρ : List (Nat × Nat)) (own : List (Nat × Option Ent)) : keptN ρ own = keptOf ρ own := by
  induction own with
  | nil => rfl
  | cons k r ih => simp [keptN, ih, keptOf]

/-- The caller's view says at least what the contract asks. -/
structure LeH (st : AS) (ρ : List (Nat × Nat)) (us : List Nat) (as bs : List AV) (own : List (Nat × Option Ent)) : Prop where
  args : leArgs st (chkH us) ρ as bs
  rows : ownLe (chkH us) ρ 1 st own
  inj : injN ρ own = true
  off : offB (keptN ρ own) us = true
  nil : rho ρ 14 = 14

/-- A call of f with as; ρ: the caller's names of the rows that are lent; us: rows that are read as data (and given up). -/
structure CallHK (C : Ctx) (CA : Array Value → World → (Ending → World → Prop) → Prop) (st : AS) (nm : Nat) (f : FuncId) (as : List AV) (K : KO) : Prop where
  out : ∃ bs own rs own' ρ us, DoesG C CA f bs own rs own' ∧ LeH st ρ us as bs own ∧
    updHK (keysOf own) ρ nm (nones (appN (keptN ρ own) us)) own' fun upd => rcsK (keysOf own) ρ nm rs fun rs => outK rs fun out => K out upd (appN (keptN ρ own) us)

/-- A function outside Go that gives back what it is given. -/
def SameFn (C : Ctx) (f : FuncId) : Prop := ∀ v w, (callFunc f #[v]).run C.P w = .ok (.value v) w

/-- A function outside Go: what it gives for what reads as as. -/
def ExtOk (C : Ctx) (f : FuncId) (as : List AV) (out : AV) : Prop :=
  ∀ (w : World) (α : Nat → Loc) (X : Nat → Prop) (p : Nat → Prop) (vs : Array Value), as.length = vs.size → (∀ (j : Nat) (av : AV) (v : Value), as[j]? = some av → vs[j]? = some v → RdA w α X av v) → (∀ av, av ∈ as → av.ok p) →
    ∃ v, (callFunc f vs).run C.P w = .ok (.value v) w ∧ RdA w α X out v ∧ out.ok p

theorem SameFn.ext {C : Ctx} {f : FuncId} (h : SameFn C f) (a : AV) : ExtOk C f [a] a := by
  intro w α X p vs hl hr hok
  obtain ⟨v, rfl⟩ : ∃ v, vs = #[v] := Array.size_eq_one_iff.1 (by simpa using hl.symm)
  exact ⟨v, h v w, hr 0 a v rfl rfl, hok a (by simp)⟩

structure CallNK (C : Ctx) (st : AS) (nm : Nat) (f : FuncId) (as : List AV) (K : KO) : Prop where
  out : CallHK C (Calls C.P f) st nm f as K ∨ ∃ out, ExtOk C f as out ∧ K out [] []
theorem call_same {C : Ctx} {st : AS} {nm : Nat} {f : FuncId} {a : AV} {K : KO} (h : SameFn C f) (h1 : K a [] []) : CallNK C st nm f [a] K := ⟨.inr ⟨a, h.ext a, h1⟩⟩

/-- Rows that are handed over as data. -/
def osIn : List AV → List Nat → List Nat
  | [], r => r
  | a :: l, r => match a with | .os k => k :: osIn l r | _ => osIn l r
def usOf : List AV → List AV → List Nat
  | a :: l, b :: m => match b with
    | .d _ => (match a with | .os k => k :: usOf l m | .agg cs => osIn cs (usOf l m) | _ => usOf l m)
    | _ => usOf l m
  | _, _ => []

theorem callh {C : Ctx} {st : AS} {nm : Nat} {f : FuncId} {as : List AV} {K : KO} {bs : List AV} {own : List (Nat × Option Ent)} {rs : List AV} {own' : List (Nat × Option Ent)} (ρ : List (Nat × Nat))
    (h : DoesH C f bs own rs own') (h1 : LeH st ρ (usOf as bs) as bs own) (h2 : updHK (keysOf own) ρ nm (nones (appN (keptN ρ own) (usOf as bs))) own' fun upd => rcsK (keysOf own) ρ nm rs fun rs => outK rs fun out => K out upd (appN (keptN ρ own) (usOf as bs))) :
    CallNK C st nm f as K := ⟨.inl ⟨bs, own, rs, own', ρ, _, h, h1, h2⟩⟩

/-- The call that was deferred. -/
theorem callh_def {C : Ctx} {st : AS} {nm : Nat} {f : FuncId} {as : List AV} {K : KO} {bs : List AV} {own : List (Nat × Option Ent)} {rs : List AV} {own' : List (Nat × Option Ent)} (ρ : List (Nat × Nat))
    (h : DoesW C f bs own rs own') (h1 : LeH st ρ (usOf as bs) as bs own) (h2 : updHK (keysOf own) ρ nm (nones (appN (keptN ρ own) (usOf as bs))) own' fun upd => rcsK (keysOf own) ρ nm rs fun rs => outK rs fun out => K out upd (appN (keptN ρ own) (usOf as bs))) :
    CallHK C (CallsW C.P f) st nm f as K := ⟨bs, own, rs, own', ρ, _, h, h1, h2⟩

theorem callh_by {C : Ctx} {st : AS} {nm : Nat} {f : FuncId} {as : List AV} {K : KO} {bs : List AV} {own : List (Nat × Option Ent)} {rs : List AV} {own' : List (Nat × Option Ent)} (ρ : List (Nat × Nat)) (us : List Nat)
    (h : DoesH C f bs own rs own') (h1 : LeH st ρ us as bs own) (h2 : updHK (keysOf own) ρ nm (nones (appN (keptN ρ own) us)) own' fun upd => rcsK (keysOf own) ρ nm rs fun rs => outK rs fun out => K out upd (appN (keptN ρ own) us)) :
    CallNK C st nm f as K := ⟨.inl ⟨bs, own, rs, own', ρ, us, h, h1, h2⟩⟩

/-- The call of f with ds. -/
structure CallK (C : Ctx) (f : FuncId) (ds : List D) (K : List D → Prop) (alt : Prop) : Prop where
  out : (∃ rs, Does C f ds rs ∧ K rs) ∨ alt
theorem call_by {C : Ctx} {f : FuncId} {ds rs : List D} {K : List D → Prop} {alt : Prop} (h : Does C f ds rs) (h1 : K rs) : CallK C f ds K alt := ⟨.inl ⟨rs, h, h1⟩⟩
/-- The call of a function outside Go. -/
theorem call_ext {C : Ctx} {st : AS} {nm : Nat} {f : FuncId} {as : List AV} {K : KO} {ds : List D} {K2 : List D → Prop} (out : AV) (h : ExtOk C f as out) (h1 : K out [] []) : CallK C f ds K2 (CallNK C st nm f as K) := ⟨.inr ⟨.inr ⟨out, h, h1⟩⟩⟩
theorem call_alt {C : Ctx} {f : FuncId} {ds : List D} {K : List D → Prop} {alt : Prop} (h : alt) : CallK C f ds K alt := ⟨.inr h⟩

def AV.plain0 : AV → Bool
  | .d _ | .nl _ | .os _ => true
  | _ => false
def plain0s : List AV → Bool
  | [] => true
  | a :: l => match a.plain0 with | true => plain0s l | false => false
def AV.plain : AV → Bool
  | .d _ | .nl _ | .os _ => true
  | .agg cs => plain0s cs
  | _ => false
def plains : List AV → Bool
  | [] => true
  | a :: l => match a.plain with | true => plains l | false => false

/-- A row that is no row of cells (a set). -/
def setOs (st : AS) (a : AV) : Bool :=
  match a with
  | .os k => match look st.own k with
    | some (some (.iset _)) => true
    | _ => false
  | _ => false
def setIn (st : AS) : List AV → Bool
  | [] => false
  | a :: l => match setOs st a with | true => true | false => setIn st l
def goK (C : Ctx) (st : AS) (nm : Nat) (f : FuncId) (as : List AV) (K : KO) : Prop :=
  match plains as with
  | true => match setIn st as with
    | true => CallNK C st nm f as K
    | false => argsK st as fun ds us => CallK C f ds (fun rs => retK rs us K) (CallNK C st nm f as K)
  | false => CallNK C st nm f as K

end Go.Eng

/-
  Calls: their reckonings speak true.
-/
namespace Go.Eng
open Go.RowKit (Below)

section
variable {C : Ctx} {n : Nat} {o : Oper} {nm : Nat} {st : AS} {K : KO}

/-- What operation o does: it calls f at what reads as as. -/
def Enters (C : Ctx) (n : Nat) (o : Oper) (st : AS) (f : FuncId) (as : List AV) : Prop :=
  HasBody C f → ∀ (X0 : Nat → Prop) (F : Fr) (w0 : World) (p : Nat → Prop) (α : Nat → Loc) (S : SS) (a : Act) (w : World), Sim C.G X0 F w0 n p α S a w →
    (∀ t, Operand.tmp t ∈ o.op.operands → ∀ av, st.ss.env t = some av → S.env t = some av) →
    ∃ vs : Array Value, as.length = vs.size ∧ (∀ (j : Nat) (av : AV) (v : Value), as[j]? = some av → vs[j]? = some v → RdA w α (XX α S.own X0) av v) ∧
      ∀ (next : Act → World → Prop) (Q : Exit → Act → World → Prop), Calls C.P f vs w (fun e w' => ∃ v, e = .returned v ∧ next (a.put o.dst v) w') → o.wp C.P a w next Q

theorem call_core {f : FuncId} {as : List AV} (hE : Enters C n o st f as) (h : argsK st as fun ds us => ∃ rs, Does C f ds rs ∧ retK rs us K) :
    ∃ out upd rd, K out upd rd ∧ VOp C n o nm st rd out upd := by
  replace h := argsK_out h; obtain ⟨ds, us, h, h2, h3, h4⟩ := h
  obtain ⟨rs, ⟨hbody, hP⟩, h⟩ := h
  have main : ∀ (kills : List Nat), (∀ k, k ∈ kills → k ∈ us) → (kills = us ∨ ∀ d, d ∈ rs → d.flat = true) → VOp C n o nm st us (retAV rs) (kills.map fun k => (k, none)) := by
    intro kills hku hor
    have hlk : ∀ k oe, look (kills.map fun k => (k, (none : Option Ent))) k = some oe → k ∈ kills ∧ oe = none := by
      intro k oe hl
      rcases look_kills (β := Ent) kills k with h | ⟨h, hm⟩
      · rw [h] at hl; cases hl
      · rw [h] at hl; cases hl; exact ⟨hm, rfl⟩
    have hin : ∀ k, k ∈ kills → look (kills.map fun k => (k, (none : Option Ent))) k = some none := by
      intro k hk
      clear hku hor hlk
      induction kills with
      | nil => cases hk
      | cons x l ih =>
        simp only [List.map_cons, look]
        split
        · rfl
        · rename_i hb
          rcases List.mem_cons.1 hk with rfl | hk
          · simp at hb
          · exact ih hk
    refine ⟨fun k oe hl => .inl (hku k (hlk k oe hl).1), fun X0 F w0 p α S a w Q next hs he ho' _ hd hn => ?_⟩
    obtain ⟨vs, hvl, hvr, hrun⟩ := hE hbody X0 F w0 p α S a w hs he
    let X1 : Nat → Prop := fun b => XX α S.own X0 b ∧ ∀ k, k ∈ us → (α k).nil = false → (α k).blk ≠ b
    have hX1 : ∀ b, X1 b → XX α S.own X0 b := fun b h => h.1
    have hXlt : ∀ b, XX α S.own X0 b → b < w.heap.size := by
      rintro b (⟨k, e, hk, hnil, rfl⟩ | hx)
      · exact (hs.own k e hk).lt hnil
      · exact Nat.lt_of_lt_of_le (hs.x0 b hx) hs.grow
    refine hrun _ _ ?_
    refine (hP w X1 vs (fun b hb => hXlt b (hX1 b hb)) (fun x hx => ?_) (by omega) ?_).mono ?_
    · obtain ⟨hg1, _⟩ := hs.gl x hx
      obtain ⟨arr, T, fz, hh, hX, hsz, hw, hr⟩ := gl_at hs hx
      refine ⟨Nat.lt_of_lt_of_le hg1 hs.grow, fun h => hX (hX1 _ h), arr, T, fz, hh, hsz, hw, fun j m d c hj hm => ?_⟩
      obtain ⟨v, hv, hr'⟩ := hr j m d c hj hm
      exact ⟨v, hv, hr'.mono fun b o hb hn => ⟨hb, fun h => hn (hX1 b h)⟩⟩
    · intro j d v hj hv
      obtain ⟨av, hav⟩ : ∃ av, as[j]? = some av := by
        have : j < as.length := by rw [← h2]; exact (List.getElem?_eq_some_iff.1 hj).1
        exact ⟨as[j], by simp [this]⟩
      obtain ⟨vs', h5, h6⟩ := h4 j av d hav hj
      refine h5.rd w α (XX α S.own X0) X1 _ (hvr j av v hav hv) (fun k hk e hke => hs.own k e (ho' k (h6 k hk) e hke)) hX1 fun k hk hnil hb => ?_
      exact hb.2 k (h6 k hk) hnil rfl
    · rintro e w' ⟨v, rfl, hr, hB⟩
      refine ⟨v, rfl, hn α v w' ?_⟩
      refine hs.upd _ (fun k hk => .inl hk) α w' o.dst hd (retAV rs) _ v (fun _ _ => rfl) hB.size hB.os hB.tape hB.output (fun b hb _ => hB.block b hb) ?_ ?_ ?_ ?_ ?_ retAV_ok
      · intro k e hl; cases (hlk k _ hl).2
      · intro k e hl; cases (hlk k _ hl).2
      · intro k e k' e' hl; cases (hlk k _ hl).2
      · intro _ k e hl; cases (hlk k _ hl).2
      · intro hw
        refine retAV_inv hr fun d u hd' hru => ?_
        rcases hor with rfl | hflat
        · refine hru.mono fun b ob hb hnx => ⟨hb, fun hX' => hnx ?_⟩
          rcases hX' with ⟨k, e, hk, hnil, rfl⟩ | hx
          · have hkn : k ∉ kills ∧ S.own k = some e := by
              simp only [SS.upd] at hk
              rcases look_kills (β := Ent) kills k with h | ⟨h, hm⟩
              · rw [h] at hk
                refine ⟨fun hm => ?_, hk⟩
                rw [hin k hm] at h; cases h
              · rw [h] at hk; cases hk
            refine ⟨.inl ⟨k, e, hkn.2, hnil, rfl⟩, fun k' hk' hnil' hbb => ?_⟩
            obtain ⟨e', he'⟩ := h3 k' hk'
            have := hs.inj k' e' k e (ho' k' hk' e' he') hkn.2 hnil' hnil hbb
            subst this; exact hkn.1 hk'
          · refine ⟨.inr hx, fun k' hk' hnil' hbb => ?_⟩
            obtain ⟨e', he'⟩ := h3 k' hk'
            have := (hs.mine k' e' (ho' k' hk' e' he') hnil').2
            rw [hbb] at this; exact this hx
        · exact hru.flat (hflat d hd')
  unfold retK at h
  split at h
  · have := main [] (fun k hk => by cases hk) (.inl rfl)
    split at h
    · exact ⟨_, _, _, h, this⟩
    · exact ⟨_, _, _, h, this⟩
  · split at h
    · split at h
      · rename_i hfl
        exact ⟨_, _, _, h, main [] (fun k hk => by cases hk) (.inr fun d hd => by simp at hd; subst hd; exact hfl)⟩
      · exact ⟨_, _, _, h, main _ (fun k hk => hk) (.inl rfl)⟩
    · exact ⟨_, _, _, h, main _ (fun k hk => hk) (.inl rfl)⟩

theorem look_append' {β : Type} (l m : List (Nat × β)) (k : Nat) : look (l ++ m) k = match look l k with | some v => some v | none => look m k := by
  induction l with
  | nil => rfl
  | cons x l ih =>
    simp only [List.cons_append, look]
    split
    · rfl
    · exact ih

theorem look_pref {β : Type} {l m : List (Nat × β)} {k : Nat} {v : β} (h : look (l ++ m) k = some v) : look l k = some v ∨ (look l k = none ∧ look m k = some v) := by
  rw [look_append'] at h
  cases hl : look l k with
  | none => rw [hl] at h; exact .inr ⟨rfl, h⟩
  | some u => rw [hl] at h; exact .inl h

theorem look_mem_some {β : Type} {l : List (Nat × β)} {k : Nat} {v : β} (h : (k, v) ∈ l) : (look l k).isSome = true := by
  induction l with
  | nil => cases h
  | cons x l ih =>
    obtain ⟨y, u⟩ := x
    simp only [look]
    split
    · rfl
    · rename_i hb
      rcases List.mem_cons.1 h with he | h
      · cases he; simp at hb
      · exact ih h

theorem look_rn {ρ : List (Nat × Nat)} {nm : Nat} {k : Nat} {oe : Option Ent} : ∀ {l : List (Nat × Option Ent)}, (∀ k oe, (k, oe) ∈ l → ∃ e, oe = some e) → look (l.map (rnEnt ρ nm)) k = some oe →
    ∃ k' e', look l k' = some (some e') ∧ (k', some e') ∈ l ∧ k = rn ρ nm k' ∧ oe = some (e'.rn ρ nm)
  | [], _, h => by simp [look] at h
  | (y, oy) :: l, hall, h => by
    obtain ⟨ey, rfl⟩ := hall y oy List.mem_cons_self
    simp only [List.map_cons, rnEnt, look, Option.map_some] at h
    split at h
    · rename_i hb
      cases h
      exact ⟨y, ey, by simp [look], List.mem_cons_self, Nat.eq_of_beq_eq_true hb, rfl⟩
    · rename_i hb
      obtain ⟨k', e', h1, h2, h3, h4⟩ := look_rn (fun k oe hk => hall k oe (List.mem_cons_of_mem _ hk)) h
      refine ⟨k', e', ?_, List.mem_cons_of_mem _ h2, h3, h4⟩
      simp only [look]
      split
      · rename_i hb2
        have := Nat.eq_of_beq_eq_true hb2
        subst this
        rw [h3] at hb; simp at hb
      · exact h1

theorem ren_own {keys : List Nat} {ρ : List (Nat × Nat)} {nm : Nat} {w : World} {α α' : Nat → Loc} {X X' : Nat → Prop} {k : Nat} {e : Ent} (h : Own w α' X k e) (hren : ∀ a, a ∈ e.vars → Ren keys ρ nm a)
    (hX : ∀ b, (∃ o, w.heap[b]? = some o) → X' b → X b) (hk : α (rn ρ nm k) = α' k) (hα : ∀ k, KN keys k → α (rn ρ nm k) = α' k) : Own w α X' (rn ρ nm k) (e.rn ρ nm) := by
  have hm : ∀ {x : D} {u : Value}, Rd w X x u → Rd w X' x u := fun h => h.mono fun b o hb hn => ⟨hb, fun h => hn (hX b ⟨o, hb⟩ h)⟩
  rcases h.cases with (⟨h1, ⟨sz, _, rfl⟩, h3⟩ | ⟨h1, arr, T, fz, cap, hB⟩) | ⟨Q, mp, he, hO⟩
  · exact .inl ⟨by rw [hk]; exact h1, ⟨sz, _, rfl⟩, by rw [hk]; exact h3⟩
  rotate_left
  · have : e.rn ρ nm = e := by cases e <;> first | rfl | cases he
    rw [this]
    exact Own.ofO he (by rw [hk]; exact hO)
  · refine Own.ofC (.inr ⟨by rw [hk]; exact h1, arr, T, fz, cap, ?_⟩)
    rw [hk]
    cases e with
    | box cs T0 =>
      have hl : (Ent.rn ρ nm (.box cs T0)).sz = (Ent.box cs T0).sz := by simp [Ent.rn, Ent.sz]
      refine ⟨hB.heap, by rw [hl]; exact hB.hsz, hB.len, by rw [hl]; exact hB.bnd, by rw [hl]; exact hB.nf, ?_, fun j m c hc => ?_, (fun sz xs _ he => by cases he), hB.hone, fun V hV => ⟨(hB.ty V hV).1, (hB.ty V hV).2.1, fun cs' V' h => by cases h; rw [List.length_map]; exact (hB.ty V hV).2.2 cs T0 rfl⟩⟩
      · intro c hc
        obtain ⟨a, ha, rfl⟩ := List.mem_map.1 (show c ∈ cs.map (AV.rn ρ nm) from hc)
        rw [(hren a ha).one]; exact hB.wid a ha
      · rw [hl]
        simp only [Ent.rn, Ent.cell] at hc
        split at hc
        · rename_i hj
          subst hj
          simp only [List.getElem?_map, Option.map_eq_some_iff] at hc
          obtain ⟨a, ha, rfl⟩ := hc
          obtain ⟨u, h7, h8⟩ := hB.rd 0 m a (by simp [Ent.cell, ha])
          exact ⟨u, h7, (hren a (List.mem_of_getElem? ha)).rd w α α' X X' u h8 hX hα⟩
        · cases hc
    | arr s xs =>
      refine ⟨hB.heap, hB.hsz, hB.len, hB.bnd, hB.nf, hB.wid, fun j m c hc => ?_, hB.hv, hB.hone, hB.ty⟩
      obtain ⟨u, h7, h8⟩ := hB.rd j m c hc
      simp only [Ent.rn, Ent.cell, Option.bind_eq_some_iff, Option.map_eq_some_iff] at hc
      obtain ⟨x, _, y, _, rfl⟩ := hc
      exact ⟨u, h7, .d _ _ (hm h8.dinv)⟩
    | buf s xs _ =>
      refine ⟨hB.heap, hB.hsz, hB.len, hB.bnd, hB.nf, hB.wid, fun j m c hc => ?_, hB.hv, hB.hone, hB.ty⟩
      obtain ⟨u, h7, h8⟩ := hB.rd j m c hc
      simp only [Ent.rn, Ent.cell, Option.bind_eq_some_iff, Option.map_eq_some_iff] at hc
      obtain ⟨x, _, y, _, rfl⟩ := hc
      exact ⟨u, h7, .d _ _ (hm h8.dinv)⟩
    | iset ks => exact hB.wid.elim
    | iters s pos => exact hB.wid.elim

/-- What a call by a contract over lent rows leaves, at one view. -/
theorem callh_point {CA : Array Value → World → (Ending → World → Prop) → Prop} {f : FuncId} {as : List AV} (hmono : ∀ {vs : Array Value} {w : World} {R R' : Ending → World → Prop}, CA vs w R → (∀ e w', R e w' → R' e w') → CA vs w R') (h : CallHK C CA st nm f as K) :
    ∃ out upd rd, K out upd rd ∧ HasBody C f ∧ (∀ k oe, look upd k = some oe → k ∈ rd ∨ fam nm k) ∧
      ∀ (n : Nat) (X0 : Nat → Prop) (F : Fr) (w0 : World) (p : Nat → Prop) (α : Nat → Loc) (S : SS) (a : Act) (w : World), Sim C.G X0 F w0 n p α S a w → (∀ k, k ∈ rd → ∀ e, st.ss.own k = some e → S.own k = some e) → (∀ k, fam nm k → ¬ p k) →
        ∀ (vs : Array Value), as.length = vs.size → (∀ (j : Nat) (av : AV) (v : Value), as[j]? = some av → vs[j]? = some v → RdA w α (XX α S.own X0) av v) → ∀ dst : Option Nat, (∀ d, dst = some d → d < n) →
          CA vs w fun e w' => ∃ v, e = .returned v ∧ ∃ α', Sim C.G X0 F w0 n (fun k => p k ∨ fam nm k) α' (S.upd dst out upd) (a.put dst v) w' := by
  obtain ⟨bs, own, rs, own', ρ, us, ⟨hbody, hP⟩, ⟨hargs, hrows, hinj, hoff, hr14⟩, h⟩ := h
  obtain ⟨h, hupd⟩ := updHK_out h
  obtain ⟨h, hren⟩ := rcsK_out h
  replace h := outK_out h
  rw [keysOf_eq] at hupd hren
  rw [keptN_eq] at hoff
  generalize hkeys : own.map (·.1) = keys at hupd hren
  refine ⟨_, _, _, h, hbody, ?_⟩
  clear h
  rw [nones_eq, appN_eq, keptN_eq]
  generalize hU : own'.map (rnEnt ρ nm) ++ (keptOf ρ own ++ us).map (fun k => (k, (none : Option Ent))) = U
  have hoff' : ∀ k, k ∈ us → k ∉ keptOf ρ own := fun k hk => no_meet (by simpa [offB] using hoff) hk
  have hown : ∀ k oe, look own k = some oe → ∃ e' e, oe = some e' ∧ k < 16 ∧ st.ss.own (rho ρ k) = some e ∧ entLe st (chkH us) ρ 1 e e' := by
    intro k oe hl
    obtain ⟨e', e, h1, h2, h3, h4⟩ := ownLe_get hrows k oe hl
    exact ⟨e', e, h1, by omega, h3, h4⟩
  have hkey : ∀ k, k ∈ keys → ∃ oe, look own k = some oe := by
    intro k hk
    rw [← hkeys] at hk
    obtain ⟨⟨k', oe⟩, hm, rfl⟩ := List.mem_map.1 hk
    have := look_mem_some hm
    cases hl : look own k' with
    | none => rw [hl] at this; cases this
    | some v => exact ⟨v, rfl⟩
  have hall' : ∀ k oe, (k, oe) ∈ own' → ∃ e, oe = some e := fun k oe hk => ⟨_, (hupd k oe hk).2.choose_spec.1⟩
  have hUe : ∀ k oe, look U k = some oe → (∃ k' e', look own' k' = some (some e') ∧ (k', some e') ∈ own' ∧ k = rn ρ nm k' ∧ oe = some (e'.rn ρ nm)) ∨ (oe = none ∧ (k ∈ keptOf ρ own ∨ k ∈ us)) := by
    intro k oe hl
    rw [← hU] at hl
    rcases look_pref hl with hl | ⟨_, hl⟩
    · exact .inl (look_rn hall' hl)
    · rcases look_kills (β := Ent) (keptOf ρ own ++ us) k with h | ⟨h, hm⟩
      · rw [h] at hl; cases hl
      · rw [h] at hl; cases hl; exact .inr ⟨rfl, List.mem_append.1 hm⟩
  have hUk : ∀ k, k ∈ keptOf ρ own ∨ k ∈ us → (look U k).isSome = true := by
    intro k hk
    rw [← hU]
    exact look_mem_some (List.mem_append_right _ (List.mem_map.2 ⟨k, List.mem_append.2 hk, rfl⟩))
  have hrnlt : ∀ k, k < 16 → rn ρ nm k = rho ρ k := by
    intro k hk
    unfold rn
    rw [show Nat.blt k 16 = true by simp [Nat.blt]; omega]
  have hrnge : ∀ k, 16 ≤ k → rn ρ nm k = 16 * nm + (k - 16) := by
    intro k hk
    unfold rn
    rw [show Nat.blt k 16 = false from Bool.eq_false_iff.2 fun h => by have := blt_lt h; omega]
  refine ⟨fun k oe hl => ?_, fun n X0 F w0 p α S a w hs ho' hp vs hvl hvr dst hd => ?_⟩
  · rcases hUe k oe hl with ⟨k', e', _, hm, rfl, _⟩ | ⟨_, hk⟩
    · rcases (hupd k' _ hm).1 with ⟨hlt, hk⟩ | ⟨h1, h2⟩
      · obtain ⟨oe2, hl2⟩ := hkey k' hk
        rw [hrnlt k' hlt]
        exact .inl (List.mem_append_left _ (mem_kept hl2))
      · rw [hrnge k' h1]
        exact .inr (fam_mk nm _ (by omega))
    · exact .inl (List.mem_append.2 hk)
  have hSk : ∀ k oe, look own k = some oe → ∃ e' e, oe = some e' ∧ k < 16 ∧ S.own (rho ρ k) = some e ∧ entLe st (chkH us) ρ 1 e e' := by
    intro k oe hl
    obtain ⟨e', e, h1, h2, h3, h4⟩ := hown k oe hl
    exact ⟨e', e, h1, h2, ho' _ (List.mem_append_left _ (mem_kept hl)) e h3, h4⟩
  have hSu : ∀ k, k ∈ us → ∀ e, st.ss.own k = some e → S.own k = some e := fun k hk e he' => ho' k (List.mem_append_right _ hk) e he'
  let lent : Nat → Prop := fun b => ∃ k oe, look own k = some oe ∧ (α (rho ρ k)).nil = false ∧ (α (rho ρ k)).blk = b
  let X1 : Nat → Prop := fun b => XX α S.own X0 b ∧ ¬ lent b ∧ ∀ k, k ∈ us → (∃ e, st.ss.own k = some e) → (α k).nil = false → (α k).blk ≠ b
  let α1 : Nat → Loc := fun k => α (rho ρ k)
  have hlentX : ∀ b, lent b → XX α S.own X0 b := by
    rintro b ⟨k, oe, hl, hnil, rfl⟩
    obtain ⟨e', e, _, _, h3, _⟩ := hSk k oe hl
    exact .inl ⟨_, e, h3, hnil, rfl⟩
  have hXlt : ∀ b, XX α S.own X0 b → b < w.heap.size := by
    rintro b (⟨k, e, hk, hnil, rfl⟩ | hx)
    · exact (hs.own k e hk).lt hnil
    · exact Nat.lt_of_lt_of_le (hs.x0 b hx) hs.grow
  let F1 : Fr := ⟨lent, fun k => if k < 16 then some (α1 k) else none, []⟩
  have hXA : ∀ b, XX α1 (AS.ss ⟨argA 0 bs, own, 1⟩).own X1 b → lent b ∨ X1 b := by
    rintro b (⟨k, e, hk, hnil, rfl⟩ | hx)
    · exact .inl ⟨k, _, own_look hk, hnil, rfl⟩
    · exact .inr hx
  have hlinj : ∀ b, lent b → ∀ k e, S.own k = some e → (α k).nil = false → (α k).blk = b → k ∈ keptOf ρ own := by
    rintro b ⟨k', oe, hl, hnil', rfl⟩ k e hk hnil hb
    obtain ⟨e', e2, _, _, h3, _⟩ := hSk k' oe hl
    have := hs.inj _ _ _ _ hk h3 hnil hnil' hb
    rw [this]; exact mem_kept hl
  have hl0 : ∀ b, lent b → ¬ X0 b := by
    rintro b ⟨k', oe, hl, hnil', rfl⟩
    obtain ⟨e', e2, _, _, h3, _⟩ := hSk k' oe hl
    exact (hs.mine _ _ h3 hnil').2
  have hW : LeW st (chkH us) w α (XX α S.own X0) (XX α1 (AS.ss ⟨argA 0 bs, own, 1⟩).own X1) := by
    refine ⟨fun b hb => (hXA b hb).elim (hlentX b) fun h => h.1, fun vs' hvs k hk e he' => hs.own k e (hSu k (subN_get hvs k hk) e he'), fun vs' hvs k hk e he' hnil hb => ?_, hs.nil0.2.1⟩
    have hku := subN_get hvs k hk
    rcases hXA _ hb with hb | hb
    · exact hoff' k hku (hlinj _ hb k e (hSu k hku e he') hnil rfl)
    · exact hb.2.2 k hku ⟨e, he'⟩ hnil rfl
  obtain ⟨hargl, hargg⟩ := leArgs_get hargs
  have hsz : vs.size = bs.length := by omega
  have hArg : ∀ t av, look (argA 0 bs) t = some av → RdA w α1 (XX α1 (AS.ss ⟨argA 0 bs, own, 1⟩).own X1) av (vs.getD t undef) ∧ av.ok (fun k => k / 16 < 1) := by
    intro t av ht
    obtain ⟨_, hb⟩ := argA_look bs 0 t av ht
    simp only [Nat.sub_zero] at hb
    have hlt : t < bs.length := (List.getElem?_eq_some_iff.1 hb).1
    have h1 : as[t]? = some (as[t]'(by omega)) := by simp [show t < as.length by omega]
    have h2 : vs[t]? = some (vs.getD t undef) := by simp [Array.getD, show t < vs.size by omega]
    exact avLe_read hW (hargg t _ _ h1 hb) (hvr t _ _ h1 h2)
  have hSim1 : Sim C.G X1 F1 w bs.length (names ⟨argA 0 bs, own, 1⟩) α1 (AS.ss ⟨argA 0 bs, own, 1⟩) ⟨vs, []⟩ w := by
    refine ⟨hsz, rfl, fun t av ht => (hArg t av ht).1, fun t av ht => (hArg t av ht).2, fun k e' hk => ?_, fun k e' hk => ?_, fun k e k' e' hk hk' hn hn' hb => ?_, fun k e' hk hn => ?_, fun b hb => hXlt b hb.1, fun _ _ _ => rfl, Nat.le_refl _, rfl, rfl, rfl, fun x hx => ?_, fun k l hk => ?_, ⟨by show (α (rho ρ 14)).nil = true; rw [hr14]; exact hs.nil0.1, by show (α (rho ρ 14)).hv = _; rw [hr14]; exact hs.nil0.2.1, by show 14 / 16 < 1; decide⟩⟩
    · obtain ⟨e2, e, h1, h2, h3, h4⟩ := hSk k _ (own_look hk)
      cases h1
      exact (entLe_own hW h4 (hs.own _ e h3)).1
    · obtain ⟨e2, e, h1, h2, h3, h4⟩ := hSk k _ (own_look hk)
      cases h1
      exact ⟨by show k / 16 < 1; omega, (entLe_own hW h4 (hs.own _ e h3)).2⟩
    · obtain ⟨e2, e3, h1, h2, h3, h4⟩ := hSk k _ (own_look hk)
      obtain ⟨e4, e5, h5, h6, h7, h8⟩ := hSk k' _ (own_look hk')
      exact injN_get hinj k k' _ _ (own_look hk) (own_look hk') (hs.inj _ _ _ _ h3 h7 hn hn' hb)
    · exact ⟨.inr ⟨k, _, own_look hk, hn, rfl⟩, fun h => h.2.1 ⟨k, _, own_look hk, hn, rfl⟩⟩
    · obtain ⟨hg1, _⟩ := hs.gl x hx
      obtain ⟨arr, T, fz, hh, hX, hsz', hw, hr⟩ := gl_at hs hx
      refine ⟨Nat.lt_of_lt_of_le hg1 hs.grow, fun h => hX (hlentX _ h), fun h => hX h.1, arr, T, fz, hh, hsz', hw, fun j m d c hj hm => ?_⟩
      obtain ⟨v, hv, hr'⟩ := hr j m d c hj hm
      exact ⟨v, hv, hr'.mono fun b o hb hn => ⟨hb, fun h => hn (h.elim (fun h => h.1) (hlentX b))⟩⟩
    · simp only [F1] at hk
      split at hk
      · rename_i hlt
        cases hk
        exact ⟨rfl, by show k / 16 < 1; omega⟩
      · cases hk
  refine hmono (hP w X1 F1 α1 vs (fun k l hk => ?_) hSim1) ?_
  · simp only [F1] at hk
    split at hk
    · assumption
    · cases hk
  rintro e w' ⟨α', us', rfl, hb⟩
  let α2 : Nat → Loc := fun k => if k / 16 = nm then α' (16 + k % 16) else α k
  have hα2 : ∀ k, p k → α2 k = α k := by
    intro k hk
    have : ¬ k / 16 = nm := fun h => hp k h hk
    simp [α2, this]
  have hrn : ∀ k, KN keys k → α2 (rn ρ nm k) = α' k ∧ (p (rn ρ nm k) ∨ fam nm (rn ρ nm k)) := by
    rintro k (⟨hlt, hk⟩ | ⟨h1, h2⟩)
    · obtain ⟨oe, hl⟩ := hkey k hk
      obtain ⟨e2, e, _, _, h3, _⟩ := hSk k oe hl
      have hpk := (hs.oko _ e h3).1
      rw [hrnlt k hlt]
      refine ⟨?_, .inl hpk⟩
      rw [hα2 _ hpk]
      exact (hb.fix k (α1 k) (by simp [F1, hlt])).1.symm
    · rw [hrnge k h1]
      refine ⟨?_, .inr (fam_mk nm _ (by omega))⟩
      have e1 : (16 * nm + (k - 16)) / 16 = nm := by omega
      have e2 : 16 + (16 * nm + (k - 16)) % 16 = k := by omega
      simp only [α2, e1, if_true, e2]
  have hBo : ∀ k e, look own' k = some (some e) → (AS.ss ⟨argA 0 rs, own', 2⟩).own k = some e := by
    intro k e hl; simp only [AS.ss, hl]
  have hXC : ∀ out, ∀ b, (∃ o, w'.heap[b]? = some o) → XX α2 (S.upd dst out U).own X0 b → XX α' (AS.ss ⟨argA 0 rs, own', 2⟩).own X1 b := by
    rintro out b _ (⟨k, e, hk, hnil, rfl⟩ | hx)
    · simp only [SS.upd] at hk
      cases hl : look U k with
      | some oe =>
        simp only [hl] at hk
        subst hk
        rcases hUe k _ hl with ⟨k', e', h1, h2, rfl, _⟩ | ⟨h, _⟩
        · have h3 := (hrn k' (hupd k' _ h2).1).1
          rw [h3] at hnil ⊢
          exact .inl ⟨k', e', hBo k' e' h1, hnil, rfl⟩
        · cases h
      | none =>
        simp only [hl] at hk
        have hnk : k ∉ keptOf ρ own ∧ k ∉ us := by
          constructor
          · intro h; have := hUk k (.inl h); rw [hl] at this; cases this
          · intro h; have := hUk k (.inr h); rw [hl] at this; cases this
        rw [hα2 k (hs.oko k e hk).1] at hnil ⊢
        refine .inr ⟨.inl ⟨k, e, hk, hnil, rfl⟩, fun h => hnk.1 (hlinj _ h k e hk hnil rfl), fun k2 hk2 ⟨e2, he2⟩ hnil2 hbb => ?_⟩
        have := hs.inj _ _ _ _ (hSu k2 hk2 e2 he2) hk hnil2 hnil hbb
        exact hnk.2 (this ▸ hk2)
    · refine .inr ⟨.inr hx, fun h => hl0 b h hx, fun k2 hk2 ⟨e2, he2⟩ hnil2 hbb => ?_⟩
      exact (hs.mine _ _ (hSu k2 hk2 e2 he2) hnil2).2 (hbb ▸ hx)
  refine ⟨_, rfl, α2, ?_⟩
  refine hs.upd _ (fun k hk => .inl hk) α2 w' dst hd (outAV (rs.map (AV.rn ρ nm))) U _ hα2 hb.grow hb.os hb.tape hb.output ?_ ?_ ?_ ?_ ?_ ?_ ?_
  · intro b hblt hno
    refine hb.fr b hblt ?_
    rintro ⟨k, oe, hl, hnil, rfl⟩
    obtain ⟨e2, e, _, _, h3, _⟩ := hSk k oe hl
    exact hno _ e h3 (hUk _ (.inl (mem_kept hl))) hnil rfl
  · intro k e hl
    rcases hUe k _ hl with ⟨k', e', h1, h2, rfl, _⟩ | ⟨h, _⟩
    · exact (hrn k' (hupd k' _ h2).1).2
    · cases h
  · intro k e hl hnil
    rcases hUe k _ hl with ⟨k', e', h1, h2, rfl, _⟩ | ⟨h, _⟩
    · have h3 := (hrn k' (hupd k' _ h2).1).1
      rw [h3] at hnil ⊢
      rcases (hb.mine k' e' (hBo k' e' h1) hnil).1 with hge | ⟨k0, oe, hl0', hnil0, hb0⟩
      · exact .inl hge
      · obtain ⟨e2, e3, _, _, h5, _⟩ := hSk k0 oe hl0'
        exact .inr ⟨_, e3, h5, hUk _ (.inl (mem_kept hl0')), hnil0, hb0⟩
    · cases h
  · intro k e k2 e2 hl hl2 hnil hnil2 hbb
    rcases hUe k _ hl with ⟨k', e', h1, h2, rfl, _⟩ | ⟨h, _⟩
    · rcases hUe k2 _ hl2 with ⟨k2', e2', h3, h4, rfl, _⟩ | ⟨h, _⟩
      · rw [(hrn k' (hupd k' _ h2).1).1] at hnil hbb
        rw [(hrn k2' (hupd k2' _ h4).1).1] at hnil2 hbb
        rw [hb.inj _ _ _ _ (hBo k' e' h1) (hBo k2' e2' h3) hnil hnil2 hbb]
      · cases h
    · cases h
  · intro _ k e hl
    rcases hUe k _ hl with ⟨k', e', h1, h2, rfl, he'⟩ | ⟨h, _⟩
    · cases he'
      obtain ⟨hkn, e3, h5, h6⟩ := hupd k' _ h2
      cases h5
      refine ⟨ren_own (hb.own k' e' (hBo k' e' h1)) h6 (fun b hbo hx => hXC _ b hbo hx) (hrn k' hkn).1 fun k hk => (hrn k hk).1, fun x hx => ?_⟩
      cases e' with
      | box cs T0 =>
        obtain ⟨a, ha, rfl⟩ := List.mem_map.1 (show x ∈ cs.map (AV.rn ρ nm) from hx)
        exact (h6 a ha).okr _ fun k hk => (hrn k hk).2
      | arr => cases hx
      | buf => cases hx
      | iset => cases hx
      | iters => cases hx
    · cases h
  · intro _
    have hrs : ∀ (j : Nat) (r : AV), rs[j]? = some r → RdA w' α2 (XX α2 (S.upd dst (outAV (rs.map (AV.rn ρ nm))) U).own X0) (r.rn ρ nm) (us'.getD j undef) := by
      intro j r hj
      have := hb.env j r (by have := argA_get rs 0 j r hj; simpa [AS.ss] using this)
      exact (hren r (List.mem_of_getElem? hj)).rd w' α2 α' _ _ _ this (fun b hbo hx => hXC _ b hbo hx) fun k hk => (hrn k hk).1
    have hsz' := hb.size
    simp only at hsz'
    unfold outAV
    split
    · rename_i r1 hr1
      obtain ⟨r, rfl⟩ : ∃ r, rs = [r] := by
        match rs, hr1 with
        | [r], _ => exact ⟨r, rfl⟩
      simp at hr1; subst hr1
      have := hrs 0 r rfl
      have h1 : us'.size = 1 := by simpa using hsz'
      have e1 : retOf us' = us'.getD 0 undef := by simp [retOf, h1, Array.getD]
      rw [e1]; exact this
    · rename_i hne
      have h1 : us'.size ≠ 1 := by
        intro h
        rw [hsz'] at h
        match rs, h, hne with
        | [r], _, hne => exact hne _ rfl
      have e1 : retOf us' = .tuple us' := by simp [retOf, h1]
      rw [e1]
      refine .tup _ _ (by simp [hsz']) fun j c v hc hv => ?_
      simp only [List.getElem?_map, Option.map_eq_some_iff] at hc
      obtain ⟨r, hr, rfl⟩ := hc
      have := hrs j r hr
      have e2 : us'.getD j undef = v := by simp [Array.getD_eq_getD_getElem?, hv]
      rw [e2] at this; exact this
  · have hok : ∀ r, r ∈ rs → (r.rn ρ nm).ok fun k => p k ∨ fam nm k := fun r hr => (hren r hr).okr _ fun k hk => (hrn k hk).2
    unfold outAV
    split
    · rename_i r1 hr1
      obtain ⟨r, rfl⟩ : ∃ r, rs = [r] := by
        match rs, hr1 with
        | [r], _ => exact ⟨r, rfl⟩
      simp at hr1; subst hr1
      exact hok r (by simp)
    · refine .tup _ fun c hc => ?_
      obtain ⟨r, hr, rfl⟩ := List.mem_map.1 hc
      exact hok r hr

theorem callh_core {f : FuncId} {as : List AV} (hE : Enters C n o st f as) (h : CallHK C (Calls C.P f) st nm f as K) : ∃ out upd rd, K out upd rd ∧ VOp C n o nm st rd out upd := by
  obtain ⟨out, upd, rd, hk, hbody, hnm, hpt⟩ := callh_point (fun h hr => h.mono hr) h
  refine ⟨out, upd, rd, hk, hnm, fun X0 F w0 p α S a w Q next hs he ho' hp hd hn => ?_⟩
  obtain ⟨vs, hvl, hvr, hrun⟩ := hE hbody X0 F w0 p α S a w hs he
  refine hrun next Q ((hpt n X0 F w0 p α S a w hs ho' hp vs hvl hvr o.dst hd).mono ?_)
  rintro e w' ⟨v, rfl, α', hS⟩
  exact ⟨v, rfl, hn α' v w' hS⟩

theorem lookK_mono {β : Type} {l : List (Nat × β)} {x : Nat} {K K' : β → Prop} (hk : ∀ v, K v → K' v) (h : lookK l x K) : lookK l x K' := by
  induction l with
  | nil => cases h
  | cons y l ih =>
    obtain ⟨y, u⟩ := y
    simp only [lookK] at h ⊢
    cases hb : Nat.beq x y <;> simp only [hb] at h ⊢
    · exact ih h
    · exact hk _ h

theorem cdK_mono {a : AV} {K K' : D → List Nat → Prop} (hk : ∀ d us, K d us → K' d us) (h : cdK st a K) : cdK st a K' := by
  unfold cdK at h ⊢
  split at h
  · exact hk _ _ h
  · exact hk _ _ h
  · refine lookK_mono (fun oe h => ?_) h
    cases oe with
    | none => cases h
    | some e =>
      cases e with
      | buf s xs => exact hk _ _ h
      | _ => cases h
  · cases h

theorem cdsK_mono {l : List AV} {K K' : List D → List Nat → Prop} (hk : ∀ d us, K d us → K' d us) (h : cdsK st l K) : cdsK st l K' := by
  induction l generalizing K K' with
  | nil => exact hk _ _ h
  | cons a l ih =>
    refine cdK_mono (fun d us h => ih (fun ds vs h => ?_) h) h
    split at h <;> exact hk _ _ h

theorem toDK_mono {a : AV} {K K' : D → List Nat → Prop} (hk : ∀ d us, K d us → K' d us) (h : toDK st a K) : toDK st a K' := by
  unfold toDK at h ⊢
  split at h
  · exact cdsK_mono (fun _ _ h => hk _ _ h) h
  · exact cdK_mono hk h

theorem argsK_mono {l : List AV} {K K' : List D → List Nat → Prop} (hk : ∀ d us, K d us → K' d us) (h : argsK st l K) : argsK st l K' := by
  induction l generalizing K K' with
  | nil => exact hk _ _ h
  | cons a l ih =>
    refine toDK_mono (fun d us h => ih (fun ds vs h => ?_) h) h
    split at h <;> exact hk _ _ h

theorem goK_out {f : FuncId} {as : List AV} (hE : Enters C n o st f as) (hS : (∃ out, ExtOk C f as out ∧ K out [] []) → ∃ out upd rd, K out upd rd ∧ VOp C n o nm st rd out upd) (h : goK C st nm f as K) : ∃ out upd rd, K out upd rd ∧ VOp C n o nm st rd out upd := by
  have core : CallNK C st nm f as K → ∃ out upd rd, K out upd rd ∧ VOp C n o nm st rd out upd := by
    intro h
    rcases h.out with h1 | h1
    · exact callh_core hE h1
    · exact hS h1
  unfold goK at h
  split at h
  · split at h
    · exact core h
    · by_cases hc : CallNK C st nm f as K
      · exact core hc
      · refine call_core (nm := nm) hE ?_
        refine argsK_mono (fun ds us hk => ?_) h
        rcases hk.out with h | h
        · exact h
        · exact absurd h hc
  · exact core h

/-! #### What a call enters -/

theorem enters_fn {f : FuncId} {fn : Func} (hf : C.P.funcs[f]? = some fn) (h1 : (fn.name == "runtime.NumGoroutine") = false) (h2 : fn.body.isNone = false) (w : World) (args : Array Value) : (callFunc f args).run C.P w = .ok (.enter f args) w := by
  have h1' : ¬ fn.name = "runtime.NumGoroutine" := by
    intro h; rw [h] at h1; simp at h1
  have h2' : ¬ fn.body = none := by
    intro h; rw [h] at h2; simp at h2
  simp [callFunc, hf, h1', h2']

/-- The value of a call's callee. -/
def fnK (st : AS) (x : Operand) (K : FuncId → List AV → List AV → Prop) : Prop :=
  evK st x fun a => match a with | .fn g pre post => (match g with | .func f => K f pre post | _ => False) | _ => False

def app2K (l m : List AV) (K : List AV → Prop) : Prop := match l with | [] => K m | x :: r => app2K r m fun r => K (x :: r)
theorem app2K_out {l m : List AV} {K : List AV → Prop} (h : app2K l m K) : K (l ++ m) := by
  induction l generalizing K with
  | nil => exact h
  | cons x l ih => exact ih (K := fun r => K (x :: r)) h

def pre2 (pre as post : List AV) (K : List AV → Prop) : Prop :=
  match pre, post with
  | [], [] => K as
  | pre, post => app2K as post fun r => app2K pre r K

theorem pre2_out {pre as post : List AV} {K : List AV → Prop} (h : pre2 pre as post K) : K (pre ++ as ++ post) := by
  unfold pre2 at h
  split at h
  · simpa using h
  · have := app2K_out (app2K_out h)
    rw [List.append_assoc]; exact this

theorem call_out {c : Call} {x : Operand} (ho : o.op = .call c) (hc : c.callee = .value x) (h : fnK st x fun f pre post => evsK st c.args.toList fun as => pre2 pre as post fun as => goK C st nm f as K) :
    ∃ out upd rd, K out upd rd ∧ VOp C n o nm st rd out upd := by
  unfold fnK at h
  replace h := evK_out h; obtain ⟨va, h1, h⟩ := h
  split at h
  · rename_i g pre post
    split at h
    · rename_i f
      replace h := evsK_out h; obtain ⟨as, h2, h⟩ := h
      replace h := pre2_out h
      have base : ∀ (X0 : Nat → Prop) (F : Fr) (w0 : World) (p : Nat → Prop) (α : Nat → Loc) (S : SS) (a : Act) (w : World), Sim C.G X0 F w0 n p α S a w → (∀ t, Operand.tmp t ∈ o.op.operands → ∀ av, st.ss.env t = some av → S.env t = some av) →
          ∃ vs : Array Value, (pre ++ as ++ post).length = vs.size ∧ (∀ (j : Nat) (av : AV) (v : Value), (pre ++ as ++ post)[j]? = some av → vs[j]? = some v → RdA w α (XX α S.own X0) av v) ∧ (∀ av, av ∈ pre ++ as ++ post → av.ok p) ∧
            ∀ nxt, (callFunc f vs).run C.P w = .ok nxt w → (execOp a.eval o).run C.P w = .ok nxt w := by
        intro X0 F w0 p α S a w hs he
        have hm1 : x ∈ o.op.operands := by rw [ho]; simp [Op.operands, Call.operands, hc]
        have hmem : ∀ y, y ∈ c.args.toList → y ∈ o.op.operands := by
          intro y hy
          rw [ho]
          simp [Op.operands, Call.operands, hc] at hy ⊢
          exact .inr hy
        have hr := (h1.to hm1 he).read hs
        have hk := (h1.to hm1 he).ok hs
        generalize hx : a.eval x = v at hr
        cases hk with
        | fn _ _ _ k1 k2 =>
        cases hr with
        | fn _ _ _ va vb l1 l2 c1 c2 =>
          refine ⟨va ++ c.args.map a.eval ++ vb, ?_, fun j av v hj hv => ?_, fun av hav => ?_, fun nxt hn => ?_⟩
          · have := h2.length; simp only [Array.length_toList] at this; simp; omega
          · have h2l := h2.length
            simp only [Array.length_toList] at h2l
            rw [Array.getElem?_append] at hv
            rw [List.getElem?_append] at hj
            simp only [Array.size_append, Array.size_map, List.length_append] at hv hj
            split at hj
            · rename_i hlt
              rw [if_pos (by omega)] at hv
              rw [Array.getElem?_append] at hv
              rw [List.getElem?_append] at hj
              split at hj
              · rename_i hlt2
                rw [if_pos (by omega)] at hv
                exact c1 j av v hj hv
              · rename_i hlt2
                rw [if_neg (by omega)] at hv
                obtain ⟨y, hy, hye⟩ := h2.get _ av hj
                simp only [Array.getElem?_map, Option.map_eq_some_iff] at hv
                obtain ⟨y', hy', rfl⟩ := hv
                rw [Array.getElem?_toList, l1] at hy
                rw [hy] at hy'; cases hy'
                exact (hye.to (hmem y (List.mem_of_getElem? (by rw [Array.getElem?_toList]; exact hy))) he).read hs
            · rename_i hlt
              rw [if_neg (by omega)] at hv
              refine c2 _ av v hj ?_
              rw [← hv]; congr 1; omega
          · rcases List.mem_append.1 hav with hav | hav
            · rcases List.mem_append.1 hav with hav | hav
              · exact k1 av hav
              · obtain ⟨j, hj⟩ := List.mem_iff_getElem?.1 hav
                obtain ⟨y, hy, hye⟩ := h2.get j av hj
                exact (hye.to (hmem y (List.mem_of_getElem? hy)) he).ok hs
            · exact k2 av hav
          · rw [Array.append_assoc] at hn
            simp [execOp, ho, resolve, hc, hx, Deferred.ofValue, invoke, hn]
      refine goK_out ?_ ?_ h
      · rintro ⟨fn, hf, hf1, hf2⟩ X0 F w0 p α S a w hs he
        obtain ⟨vs, hl, hr, _, hrun⟩ := base X0 F w0 p α S a w hs he
        refine ⟨vs, hl, hr, fun next Q hcalls => ?_⟩
        unfold Oper.wp
        rw [hrun _ (enters_fn hf hf1 hf2 w vs)]
        exact hcalls.mono fun e w' ⟨v, he, hn⟩ => by subst he; exact hn
      · rintro ⟨out, hext, hk⟩
        refine ⟨_, _, _, hk, VOp.pure fun X0 F w0 p α S a w hs he _ => ?_⟩
        obtain ⟨vs, hl, hr, hok, hrun⟩ := base X0 F w0 p α S a w hs he
        obtain ⟨v, h1, h2, h3⟩ := hext w α _ p vs hl hr hok
        exact ⟨v, hrun _ h1, h2, h3⟩
    · cases h
  · cases h

/-! #### Function values -/

theorem mkfn_out {fn : Fn} {first captured : Array Operand} (ho : o.op = .makeFunc fn first captured) (h : evsK st first.toList fun as => evsK st captured.toList fun bs => K (.fn fn as bs) [] []) :
    ∃ out upd rd, K out upd rd ∧ VOp C n o nm st rd out upd := by
  replace h := evsK_out h; obtain ⟨as, h1, h⟩ := h
  replace h := evsK_out h; obtain ⟨bs, h2, h⟩ := h
  refine ⟨_, _, _, h, VOp.pure fun X0 F w0 p α S a w hs he _ => ?_⟩
  have key : ∀ (ops : Array Operand) (as : List AV), Evs st.ss.env ops.toList as → (∀ y, y ∈ ops.toList → y ∈ o.op.operands) →
      as.length = (ops.map a.eval).size ∧ (∀ (j : Nat) (c : AV) (v : Value), as[j]? = some c → (ops.map a.eval)[j]? = some v → RdA w α (XX α S.own X0) c v) ∧ ∀ c, c ∈ as → c.ok p := by
    intro ops as h1 hmem
    refine ⟨by have := h1.length; simpa using this, fun j c v hj hv => ?_, fun c hc => ?_⟩
    · obtain ⟨y, hy, hye⟩ := h1.get j c hj
      simp only [Array.getElem?_map, Option.map_eq_some_iff] at hv
      obtain ⟨y', hy', rfl⟩ := hv
      rw [Array.getElem?_toList] at hy
      rw [hy] at hy'; cases hy'
      exact (hye.to (hmem y (List.mem_of_getElem? (by rw [Array.getElem?_toList]; exact hy))) he).read hs
    · obtain ⟨j, hj⟩ := List.mem_iff_getElem?.1 hc
      obtain ⟨y, hy, hye⟩ := h1.get j c hj
      exact (hye.to (hmem y (List.mem_of_getElem? hy)) he).ok hs
  have m1 : ∀ y, y ∈ first.toList → y ∈ o.op.operands := fun y hy => by rw [ho]; simp only [Op.operands, Array.mem_append]; exact .inl (by simpa using hy)
  have m2 : ∀ y, y ∈ captured.toList → y ∈ o.op.operands := fun y hy => by rw [ho]; simp only [Op.operands, Array.mem_append]; exact .inr (by simpa using hy)
  obtain ⟨l1, r1, k1⟩ := key first as h1 m1
  obtain ⟨l2, r2, k2⟩ := key captured bs h2 m2
  exact ⟨.func fn (first.map a.eval) (captured.map a.eval), by simp [execOp, ho, Instr.makeFunc], .fn _ _ _ _ _ l1 l2 r1 r2, .fn _ _ _ k1 k2⟩

end
end Go.Eng

/-
  Comparisons with nil and of pointers; pointers turned to unsafe ones and back; the bytes of a row shared with a string: their reckoning, and that it speaks true.
-/
namespace Go.Eng
open Go.RowKit (Below)

/-- Whether a slice is nil: one with elements is not. -/
structure NilK (xs : List D) (a b : Prop) : Prop where
  out : (xs = [] → a) ∧ (xs ≠ [] → b)
theorem nil_both {xs : List D} {a b : Prop} (h1 : xs = [] → a) (h2 : xs ≠ [] → b) : NilK xs a b := ⟨h1, h2⟩

def bxK (ng t : Bool) (K : AV → Prop) : Prop :=
  match ng, t with
  | false, t => K (.d (.b t))
  | true, true => K (.d (.b false))
  | true, false => K (.d (.b true))

def eqvK (C : Ctx) (st : AS) (kd : Kd) (ng : Bool) (a b : AV) (K : AV → List Nat → Prop) (alt : Prop) : Prop :=
  match kd with
  | .slice _ => match a, b with
    | .nl _, .nl _ => bxK ng true fun r => K r []
    | .d (.sl _ xs), .nl _ => NilK xs (K .ab []) (bxK ng false fun r => K r [])
    | .os k, .nl _ => ownK st k fun e => match e with | .buf _ xs _ => NilK xs (K .ab [k]) (bxK ng false fun r => K r [k]) | _ => False
    | _, _ => False
  | .ptr e => match a, b with
    | .op k i j, .op k' i' j' => lookK C.tab e fun _ => match Nat.beq k k', Nat.beq i i', Nat.beq j j' with | true, true, true => bxK ng true fun r => K r [] | _, _, _ => False
    | .op _ _ _, .d (.x v) => (match v with | .pointer none => bxK ng false fun r => K r [] | _ => False)
    | .pp _ _, .d (.x v) => (match v with | .pointer none => bxK ng false fun r => K r [] | _ => False)
    | .d (.x v), .d (.x v') => (match v, v' with | .pointer none, .pointer none => bxK ng true fun r => K r [] | _, _ => False)
    | _, _ => False
  | .func => match a, b with
    | .fn _ _ _, .d (.x v) => (match v with | .nilFunc => bxK ng false fun r => K r [] | _ => False)
    | .d (.x v), .d (.x v') => (match v, v' with | .nilFunc, .nilFunc => bxK ng true fun r => K r [] | _, _ => False)
    | _, _ => False
  | _ => alt

/-- Two structs or arrays: whether they are equal is shown for each type apart. -/
structure EqTy (P : Program) (T : TypeId) (x y : D) (t : Bool) : Prop where
  guard : P.eqGuardType P.depth T = false
  run : ∀ (w : World) (X : Nat → Prop) (va vb : Value), Rd w X x va → Rd w X y vb → (Op.equal T va vb).run P w = .ok t w
structure EqAgK (P : Program) (T : TypeId) (x y : D) (K : Bool → Prop) : Prop where
  out : ∃ t, EqTy P T x y t ∧ CmpK t K
theorem eq_agg {P : Program} {T : TypeId} {x y : D} {K : Bool → Prop} {t : Bool} (h : EqTy P T x y t) (h1 : CmpK t K) : EqAgK P T x y K := ⟨t, h, h1⟩
def bx2K (ng t : Bool) (K : AV → Prop) : Prop := match ng, t with | false, true => K (.d (.b true)) | false, false => K (.d (.b false)) | true, true => K (.d (.b false)) | true, false => K (.d (.b true))
theorem bx2K_out {ng t : Bool} {K : AV → Prop} (h : bx2K ng t K) : K (.d (.b (ng != t))) := by
  unfold bx2K at h
  cases ng <;> cases t <;> exact h
def aggEqK (C : Ctx) (T : TypeId) (ng : Bool) (a b : AV) (K : AV → List Nat → Prop) : Prop :=
  match a, b with
  | .d (.agg xs), .d (.agg ys) => EqAgK C.P T (.agg xs) (.agg ys) fun t => bx2K ng t fun r => K r []
  | _, _ => False

def eqAllK (C : Ctx) (st : AS) (op : BinOp) (T : TypeId) (a b : AV) (K : AV → List Nat → Prop) : Prop :=
  match op with
  | .eql => lookK C.tab T fun ti => match ti.agg with | true => aggEqK C T false a b K | false => eqvK C st ti.kd false a b K (binK C T .eql a b fun r => K r [])
  | .neq => lookK C.tab T fun ti => match ti.agg with | true => aggEqK C T true a b K | false => eqvK C st ti.kd true a b K (binK C T .neq a b fun r => K r [])
  | op => binK C T op a b fun r => K r []

theorem und_ptr {P : Program} {T : TypeId} {ti : TyI} {e : Nat} (ht : TyOk P T ti) (hk : ti.kd = .ptr e) : P.underlying T = some (.pointer e) := by
  obtain ⟨_, u, hu, _, hc⟩ := ht
  rw [hk] at hc
  cases u <;> simp [chkKd] at hc
  rw [hu, hc]
theorem und_uptr {P : Program} {T : TypeId} {ti : TyI} (ht : TyOk P T ti) (hk : ti.kd = .uptr) : P.underlying T = some .unsafePointer := by
  obtain ⟨_, u, hu, _, hc⟩ := ht
  rw [hk] at hc
  cases u <;> simp [chkKd] at hc
  exact hu
theorem und_func {P : Program} {T : TypeId} {ti : TyI} (ht : TyOk P T ti) (hk : ti.kd = .func) : ∃ a b c, P.underlying T = some (.func a b c) := by
  obtain ⟨_, u, hu, _, hc⟩ := ht
  rw [hk] at hc
  cases u <;> simp [chkKd] at hc
  exact ⟨_, _, _, hu⟩

theorem evK_bind {st : AS} {x : Operand} {K : AV → Prop} (h : evK st x K) : ∃ av, (∀ K' : AV → Prop, K' av → evK st x K') ∧ K av := by
  unfold evK at *
  split at h
  · rename_i t
    obtain ⟨v, hv, hk⟩ := lookK_out h
    refine ⟨v, fun K' h' => ?_, hk⟩
    clear h hk
    show lookK st.env t K'
    generalize st.env = l at hv
    induction l with
    | nil => simp [look] at hv
    | cons y l ih =>
      obtain ⟨y, u⟩ := y
      simp only [look] at hv
      simp only [lookK]
      split at hv
      · rename_i hb; (try simp only [hb]); cases hv; exact h'
      · rename_i hb; (try simp only [hb]); exact ih hv
  · unfold constK at *
    split at h
    · exact ⟨_, fun K' h' => h', h⟩
    · exact ⟨_, fun K' h' => h', h⟩
    · exact ⟨_, fun K' h' => h', h⟩
    · exact ⟨_, fun K' h' => h', h⟩
    · exact ⟨_, fun K' h' => h', h⟩
  · exact ⟨_, fun K' h' => h', h⟩
  · exact ⟨_, fun K' h' => h', h⟩

def ngOp (ng : Bool) : BinOp := match ng with | true => .neq | false => .eql

theorem eq_run {P : Program} {w : World} {T : TypeId} {x y : Value} {t : Bool} (h : ∀ d : Nat, (Op.equalIn (d + 1) T x y).run P w = .ok t w) (hx : (∃ a, x = .pointer a) ∨ (∃ a b c, x = .slice a b c) ∨ (∃ a b c, x = .func a b c) ∨ x = .nilFunc) (ng : Bool) (ox oy : Operand) :
    (do eqGuard (ngOp ng) T ox oy x y; binOp (ngOp ng) T x y : Sem Value).run P w = .ok (.bool (ng != t)) w := by
  have e : (Op.equal T x y).run P w = .ok t w := h 9999
  rcases hx with ⟨a, rfl⟩ | ⟨a, b, c, rfl⟩ | ⟨a, b, c, rfl⟩ | rfl <;> cases ng <;> simp [ngOp, eqGuard, binOp, e]

theorem bxK_out {ng t : Bool} {K : AV → Prop} (h : bxK ng t K) : K (.d (.b (ng != t))) := by
  unfold bxK at h
  cases ng <;> cases t <;> exact h

section
variable {C : Ctx} {n : Nat} {o : Oper} {nm : Nat} {st : AS} {K : KO}

/-- What a comparison's reckoning must give. -/
def EqOut (C : Ctx) (st : AS) (ng : Bool) (T : TypeId) (a b : AV) (out : AV) (rd : List Nat) : Prop :=
  ∀ {G : List Gl} {X0 : Nat → Prop} {F : Fr} {w0 : World} {n : Nat} {p : Nat → Prop} {α : Nat → Loc} {S : SS} {a' : Act} {w : World}, Sim G X0 F w0 n p α S a' w → (∀ k, k ∈ rd → ∀ e, st.ss.own k = some e → S.own k = some e) →
    ∀ va vb, RdA w α (XX α S.own X0) a va → RdA w α (XX α S.own X0) b vb → ∀ (ox oy : Operand), ∃ v, (do eqGuard (ngOp ng) T ox oy va vb; binOp (ngOp ng) T va vb : Sem Value).run C.P w = .ok v w ∧ RdA w α (XX α S.own X0) out v ∧ out.ok p

theorem eqv_of {T : TypeId} {ng t : Bool} {a b : AV} (h : ∀ {w : World} {α : Nat → Loc} {X : Nat → Prop} va vb, RdA w α X a va → RdA w α X b vb →
      (∀ d : Nat, (Op.equalIn (d + 1) T va vb).run C.P w = .ok t w) ∧ ((∃ a, va = .pointer a) ∨ (∃ a b c, va = .slice a b c) ∨ (∃ a b c, va = .func a b c) ∨ va = .nilFunc)) : EqOut C st ng T a b (.d (.b (ng != t))) [] := by
  intro G X0 F w0 n p α S a' w hs _ va vb ha hb ox oy
  obtain ⟨h1, h2⟩ := h va vb ha hb
  exact ⟨_, eq_run h1 h2 ng ox oy, .d _ _ (.b _), .d _⟩

theorem eqvK_out {ti : TyI} {T : TypeId} {ng : Bool} (ht : TyOk C.P T ti) {a b : AV} {Q : AV → List Nat → Prop} {alt : Prop} (h : eqvK C st ti.kd ng a b Q alt) : alt ∨ ∃ out rd, Q out rd ∧ EqOut C st ng T a b out rd := by
  unfold eqvK at h
  split at h
  · rename_i e hk
    right
    have hu := und_slice ht hk
    split at h
    · refine ⟨_, _, bxK_out h, eqv_of fun va vb ha hb => ?_⟩
      cases ha; cases hb
      exact ⟨fun d => by simp [Op.equalIn, run_underlying hu], .inr (.inl ⟨_, _, _, rfl⟩)⟩
    · rename_i xs _
      by_cases hx : xs = []
      · refine ⟨_, _, h.out.1 hx, fun hs _ va vb ha hb ox oy => ?_⟩
        subst hx
        obtain ⟨p, c, rfl⟩ := ha.dinv.slinv
        cases hb
        refine ⟨_, eq_run (t := p.isNone) (fun d => ?_) (.inr (.inl ⟨_, _, _, rfl⟩)) ng ox oy, .ab _, .ab⟩
        cases p <;> simp [Op.equalIn, run_underlying hu]
      · refine ⟨_, _, bxK_out (h.out.2 hx), fun hs _ va vb ha hb ox oy => ?_⟩
        have hd := ha.dinv
        cases hb
        cases hd with
        | slnil => exact absurd rfl hx
        | sle => exact absurd rfl hx
        | sl => exact ⟨_, eq_run (t := false) (fun d => by simp [Op.equalIn, run_underlying hu]) (.inr (.inl ⟨_, _, _, rfl⟩)) ng ox oy, .d _ _ (.b _), .d _⟩
    · rename_i k _
      replace h := ownK_out h; obtain ⟨en, hen, h⟩ := h
      split at h
      · rename_i sz xs T0
        by_cases hx : xs = []
        · refine ⟨_, _, h.out.1 hx, fun hs ho va vb ha hb ox oy => ?_⟩
          have hsk := ho k (by simp) _ hen
          cases hb
          obtain ⟨p, c, hv⟩ := os_len hs hsk
          cases ha
          rw [hv]
          refine ⟨_, eq_run (t := p.isNone) (fun d => ?_) (.inr (.inl ⟨_, _, _, rfl⟩)) ng ox oy, .ab _, .ab⟩
          cases p <;> simp [Op.equalIn, run_underlying hu]
        · refine ⟨_, _, bxK_out (h.out.2 hx), fun hs ho va vb ha hb ox oy => ?_⟩
          have hsk := ho k (by simp) _ hen
          cases hb
          cases ha
          rcases hs.own k _ hsk with ⟨_, ⟨sz', _, he⟩, _⟩ | ⟨_, arr, U, fz, cap, hB⟩
          · cases he; exact absurd rfl hx
          · rw [hB.hv sz xs _ rfl]
            exact ⟨_, eq_run (t := false) (fun d => by simp [Op.equalIn, run_underlying hu]) (.inr (.inl ⟨_, _, _, rfl⟩)) ng ox oy, .d _ _ (.b _), .d _⟩
      · cases h
    · cases h
  · rename_i e hk
    right
    have hu := und_ptr ht hk
    split at h
    · rename_i k i j k' i' j'
      replace h := lookK_out h; obtain ⟨te, hte, h⟩ := h
      split at h
      · rename_i h1 h2 h3
        obtain rfl := Nat.eq_of_beq_eq_true h1
        obtain rfl := Nat.eq_of_beq_eq_true h2
        obtain rfl := Nat.eq_of_beq_eq_true h3
        obtain ⟨⟨ie, hie, _⟩, _⟩ := C.ty hte
        refine ⟨_, _, bxK_out h, eqv_of fun va vb ha hb => ?_⟩
        cases ha; cases hb
        exact ⟨fun d => by simp [Op.equalIn, run_underlying hu, sizeOf, typeInfo, hie, run_sameAddr_same], .inl ⟨_, rfl⟩⟩
      · cases h
    · split at h
      · refine ⟨_, _, bxK_out h, eqv_of fun va vb ha hb => ?_⟩
        cases ha
        have hb := hb.dinv; cases hb
        exact ⟨fun d => by simp [Op.equalIn, run_underlying hu], .inl ⟨_, rfl⟩⟩
      · cases h
    · split at h
      · refine ⟨_, _, bxK_out h, eqv_of fun va vb ha hb => ?_⟩
        cases ha
        have hb := hb.dinv; cases hb
        exact ⟨fun d => by simp [Op.equalIn, run_underlying hu], .inl ⟨_, rfl⟩⟩
      · cases h
    · split at h
      · refine ⟨_, _, bxK_out h, eqv_of fun va vb ha hb => ?_⟩
        have ha := ha.dinv; cases ha
        have hb := hb.dinv; cases hb
        exact ⟨fun d => by simp [Op.equalIn, run_underlying hu], .inl ⟨_, rfl⟩⟩
      · cases h
    · cases h
  · rename_i hk
    right
    obtain ⟨f1, f2, f3, hu⟩ := und_func ht hk
    split at h
    · split at h
      · refine ⟨_, _, bxK_out h, eqv_of fun va vb ha hb => ?_⟩
        cases ha
        have hb := hb.dinv; cases hb
        exact ⟨fun d => by simp [Op.equalIn, run_underlying hu], .inr (.inr (.inl ⟨_, _, _, rfl⟩))⟩
      · cases h
    · split at h
      · refine ⟨_, _, bxK_out h, eqv_of fun va vb ha hb => ?_⟩
        have ha := ha.dinv; cases ha
        have hb := hb.dinv; cases hb
        exact ⟨fun d => by simp [Op.equalIn, run_underlying hu], .inr (.inr (.inr rfl))⟩
      · cases h
    · cases h
  · exact .inl h

theorem eqAll_out {op : BinOp} {T T' : TypeId} {x y : Operand} (ho : o.op = .binOp op T x y T')
    (h : evK st x fun a => evK st y fun b => eqAllK C st op T a b fun r rd => K r [] rd) : ∃ out upd rd, K out upd rd ∧ VOp C n o nm st rd out upd := by
  obtain ⟨va, hb1, h⟩ := evK_bind h
  obtain ⟨vb, hb2, h⟩ := evK_bind h
  have old : binK C T op va vb (fun r => K r [] []) → ∃ out upd rd, K out upd rd ∧ VOp C n o nm st rd out upd := fun h' =>
    bin_out ho (hb1 _ (hb2 _ h'))
  obtain ⟨a0, e1, h1⟩ := evK_out (hb1 (fun a => a = va) rfl)
  obtain ⟨b0, e2, h2⟩ := evK_out (hb2 (fun a => a = vb) rfl)
  subst h1 h2
  have new : ∀ ng, op = ngOp ng → (lookK C.tab T fun ti => match ti.agg with | true => aggEqK C T ng a0 b0 (fun r rd => K r [] rd) | false => eqvK C st ti.kd ng a0 b0 (fun r rd => K r [] rd) (binK C T op a0 b0 fun r => K r [] [])) → ∃ out upd rd, K out upd rd ∧ VOp C n o nm st rd out upd := by
    rintro ng hop h
    replace h := lookK_out h; obtain ⟨ti, hti, h⟩ := h
    split at h
    · unfold aggEqK at h
      split at h
      · rename_i xs ys
        obtain ⟨t, hE, h⟩ := h
        replace h := bx2K_out h.1
        refine ⟨_, _, _, h, VOp.pure fun X0 F w0 p α S a w hs he ho' => ?_⟩
        have hx := ((e1.to (by rw [ho]; simp [Op.operands]) he).read hs).dinv
        have hy := ((e2.to (by rw [ho]; simp [Op.operands]) he).read hs).dinv
        have hr := hE.run w _ _ _ hx hy
        generalize hvx : a.eval x = vx at hx hr
        generalize hvy : a.eval y = vy at hy hr
        cases hx with
        | agg _ vs _ _ =>
        cases hy with
        | agg _ us _ _ =>
        refine ⟨.bool (ng != t), ?_, .d _ _ (.b _), .d _⟩
        have hg : C.P.eqGuardType C.P.depth T = false := hE.guard
        cases ng <;> simp [execOp, ho, hop, ngOp, hvx, hvy, eqGuard, binOp, run_program, hg, hr, Result.andThen]
      · cases h
    rcases eqvK_out (C.ty hti) h with h | ⟨out, rd, h, hE⟩
    · exact old h
    · refine ⟨_, _, _, h, VOp.pure fun X0 F w0 p α S a w hs he ho' => ?_⟩
      have hx := (e1.to (by rw [ho]; simp [Op.operands]) he).read hs
      have hy := (e2.to (by rw [ho]; simp [Op.operands]) he).read hs
      obtain ⟨v, h5, h6, h7⟩ := hE hs ho' _ _ hx hy x y
      refine ⟨v, ?_, h6, h7⟩
      simp only [execOp, ho, Sem.run_bind, hop]
      simp only [Sem.run_bind] at h5
      rw [h5]; simp [Result.andThen]
  unfold eqAllK at h
  split at h
  · exact new false rfl h
  · exact new true rfl h
  · exact old h

/-! #### Pointers and unsafe pointers -/

/-- A pointer to an own variable as an unsafe pointer. -/
def toUnsK (C : Ctx) (st : AS) (u : TypeId) (a : AV) (K : KO) : Prop :=
  match a with
  | .op k i j => (match i, j with
    | 0, 0 => ownK st k fun e => match e with
      | .box cs _ => lookK C.tab u fun tu => match tu.size, cs with | _ + 1, _ :: _ => K (.op k 0 0) [] [k] | _, _ => False
      | _ => False
    | _, _ => False)
  | _ => False

/-- .. and back: what lies there must be laid out as the type. -/
structure LiesK (P : Program) (V : TypeId) (n : Nat) (u : TypeId) (a : Prop) : Prop where
  out : liesAt P P.depth V (n / P.cellsOf V) 0 u 1 = true ∧ a
theorem lies {P : Program} {V : TypeId} {n : Nat} {u : TypeId} {a : Prop} (h : liesAt P P.depth V (n / P.cellsOf V) 0 u 1 = true) (h1 : a) : LiesK P V n u a := ⟨h, h1⟩

def fromUnsK (C : Ctx) (st : AS) (u : TypeId) (a : AV) (K : KO) : Prop :=
  match a with
  | .op k i j => (match i, j with
    | 0, 0 => ownK st k fun e => match e with
      | .box cs (some V) => lookK C.tab u fun _ => LiesK C.P V cs.length u (K (.op k 0 0) [] [k])
      | _ => False
    | _, _ => False)
  | _ => False

theorem toUns_out {S T u : TypeId} {x : Operand} (ho : o.op = .convert S T x) (hS : C.P.underlying S = some (.pointer u)) (hT : C.P.underlying T = some .unsafePointer) (h : evK st x fun a => toUnsK C st u a K) : ∃ out upd rd, K out upd rd ∧ VOp C n o nm st rd out upd := by
  replace h := evK_out h; obtain ⟨va, h1, h⟩ := h
  have hmem : x ∈ o.op.operands := by rw [ho]; simp [Op.operands]
  unfold toUnsK at h
  split at h
  · rename_i k i j
    split at h
    · replace h := ownK_out h; obtain ⟨en, hen, h⟩ := h
      split at h
      · rename_i cs T0
        replace h := lookK_out h; obtain ⟨tu, htu, h⟩ := h
        split at h
        · rename_i m c r hm
          refine ⟨_, _, _, h, VOp.pure fun X0 F w0 p α S' a w hs he ho' => ?_⟩
          have hx := h1.to hmem he
          have hr := hx.read hs
          generalize hv : a.eval x = v at hr
          have hok := hx.ok hs
          rcases hs.own k _ (ho' k (by simp) _ hen) with ⟨_, ⟨sz', _, he'⟩, _⟩ | ⟨_, arr, U, fz, cap, hB⟩
          · cases he'
          obtain ⟨⟨iu, hiu, hius, _⟩, _⟩ := C.ty htu
          have hb := hB.bnd
          have hl := hB.len
          simp only [Ent.len, Ent.sz, List.length_cons] at hb hl
          have h9 : 1 * (r.length + 1) ≤ cap * (r.length + 1) := Nat.mul_le_mul_right _ hl
          cases hr
          refine ⟨_, ?_, .op k 0 0, hok⟩
          have := Lib.run_to_unsafe (P := C.P) w (src := S) (dst := T) (t := u) (e := U) (cells := arr.size) ⟨(α k).blk, (α k).off + 0 * (α k).sz + 0, none⟩ hS hT hiu (by rw [hius, hm]; simp) (by simp [World.shape?, hB.heap]) (by simp; omega)
          simp only [execOp, ho, Sem.run_bind, hv]
          rw [this]; rfl
        · cases h
      · cases h
    · cases h
  · cases h

theorem fromUns_out {S T u : TypeId} {x : Operand} (ho : o.op = .convert S T x) (hS : C.P.underlying S = some .unsafePointer) (hT : C.P.underlying T = some (.pointer u)) (h : evK st x fun a => fromUnsK C st u a K) : ∃ out upd rd, K out upd rd ∧ VOp C n o nm st rd out upd := by
  replace h := evK_out h; obtain ⟨va, h1, h⟩ := h
  have hmem : x ∈ o.op.operands := by rw [ho]; simp [Op.operands]
  unfold fromUnsK at h
  split at h
  · rename_i k i j
    split at h
    · replace h := ownK_out h; obtain ⟨en, hen, h⟩ := h
      split at h
      · rename_i cs V
        replace h := lookK_out h; obtain ⟨tu, htu, h⟩ := h
        obtain ⟨hlies, h⟩ := h.out
        refine ⟨_, _, _, h, VOp.pure fun X0 F w0 p α S' a w hs he ho' => ?_⟩
        have hx := h1.to hmem he
        have hr := hx.read hs
        generalize hv : a.eval x = v at hr
        have hok := hx.ok hs
        rcases hs.own k _ (ho' k (by simp) _ hen) with ⟨_, ⟨sz', _, he'⟩, _⟩ | ⟨_, arr, U, fz, cap, hB⟩
        · cases he'
        obtain ⟨rfl, hoff, hsz⟩ := hB.ty V rfl
        obtain ⟨⟨iu, hiu, _⟩, _⟩ := C.ty htu
        cases hr
        refine ⟨_, ?_, .op k 0 0, hok⟩
        have := Lib.run_from_unsafe (P := C.P) w (src := S) (dst := T) (u := u) (e := U) (cells := arr.size) ⟨(α k).blk, (α k).off + 0 * (α k).sz + 0, none⟩ hS hT hiu (by simp [World.shape?, hB.heap]) (by rw [hsz cs _ rfl]; simpa [hoff] using hlies)
        simp only [execOp, ho, Sem.run_bind, hv]
        rw [this]; rfl
      · cases h
    · cases h
  · cases h

/-! #### The bytes of a row shared with a string -/

/-- unsafe.SliceData of an own row. -/
structure SdK (xs : List D) (a b : Prop) : Prop where
  out : (xs ≠ [] → a) ∧ (xs = [] → b)
theorem sd_both {xs : List D} {a b : Prop} (h1 : xs ≠ [] → a) (h2 : xs = [] → b) : SdK xs a b := ⟨h1, h2⟩
def slDataK (st : AS) (a : AV) (K : KO) : Prop :=
  match a with
  | .nl _ => K (.d (.x (.pointer none))) [] []
  | .os k => ownK st k fun e => match e with | .buf _ xs (some _) => SdK xs (K (.op k 0 0) [] [k]) (K .ap [] [k]) | _ => False
  | _ => False

def unsStrK (C : Ctx) (st : AS) (T : TypeId) (a b : AV) (K : KO) : Prop :=
  match b with
  | .d (.i k m) => (match k with
    | .i64 => (match a with
      | .op k i j => (match i, j with
        | 0, 0 => lookK C.tab T fun tp => match tp.kd with
          | .ptr e => lookK C.tab e fun te => match te.size with
            | 1 => ownK st k fun en => match en with
              | .buf sz ds (some e') => (match sz, Nat.beq e e' with
                | 1, true => BytesK ds fun l => Hold (l ≠ [] ∧ m = (l.length : Int) ∧ l.length ≤ 9223372036854775807) ∧ K (.d (.s l)) [(k, none)] [k]
                | _, _ => False)
              | _ => False
            | _ => False
          | _ => False
        | _, _ => False)
      | .d (.x v) => (match v with | .pointer none => Hold (m = 0) ∧ K (.d (.s [])) [] [] | _ => False)
      | .ap => Hold (m = 0) ∧ K (.d (.s [])) [] []
      | _ => False)
    | _ => False)
  | _ => False

theorem slData_run {c : Call} {x : Operand} (ho : o.op = .call c) (hc : c.callee = .builtin .unsafeSliceData) (ha : c.args = #[x]) {P : Program} {a : Act} {w w' : World} {v : Value}
    (h : (Builtin.unsafeSliceData_ c.argTypes o.type #[a.eval x]).run P w = .ok v w') : (execOp a.eval o).run P w = .ok (.value v) w' := by
  simp [execOp, ho, resolve, hc, ha, invoke, builtin, h]

theorem slData_out {c : Call} {x : Operand} (ho : o.op = .call c) (hc : c.callee = .builtin .unsafeSliceData) (ha : c.args = #[x]) (hT : ∃ e, C.P.underlying o.type = some (.pointer e)) (h : evK st x fun a => slDataK st a K) : ∃ out upd rd, K out upd rd ∧ VOp C n o nm st rd out upd := by
  replace h := evK_out h; obtain ⟨va, h1, h⟩ := h
  have hmem : x ∈ o.op.operands := by rw [ho]; simp [Op.operands, Call.operands, hc, ha]
  obtain ⟨e, hT⟩ := hT
  unfold slDataK at h
  split at h
  · refine ⟨_, _, _, h, VOp.pure fun X0 F w0 p α S a w hs he _ => ?_⟩
    have hr := (h1.to hmem he).read hs
    generalize hv : a.eval x = v at hr
    cases hr
    exact ⟨_, slData_run ho hc ha (by rw [hv]; exact Lib.run_unsafeSliceData_nil w _ _ 0 0), .d _ _ (.x _), .d _⟩
  · rename_i k
    replace h := ownK_out h; obtain ⟨en, hen, h⟩ := h
    split at h
    · rename_i sz xs V
      by_cases hx : xs = []
      · refine ⟨_, _, _, h.out.2 hx, fun k oe hl => by simp [look] at hl, fun X0 F w0 p α S a w Q next hs he ho' hp hd hn => ?_⟩
        have hr := (h1.to hmem he).read hs
        generalize hv : a.eval x = v at hr
        have stay : ∀ q, (Builtin.unsafeSliceData_ c.argTypes o.type #[a.eval x]).run C.P w = .ok (.pointer q) w → o.wp C.P a w next Q := by
          intro q hrun
          exact wp_value (slData_run ho hc ha hrun) (hn α _ w ((hs.pure o.dst hd .ap (.pointer q) (.ap q) .ap).mono fun k hk => .inl hk))
        cases hr
        rcases hs.own k _ (ho' k (by simp) _ hen) with ⟨_, ⟨sz', _, he'⟩, hvn⟩ | ⟨_, arr, U, fz, cap, hB⟩
        · exact stay none (by rw [hv, hvn]; exact Lib.run_unsafeSliceData_nil w _ _ 0 0)
        · have hhv := hB.hv sz xs _ rfl
          by_cases hc0 : cap = 0
          · subst hc0
            have hrun := Lib.run_unsafeSliceData_zero (P := C.P) w c.argTypes o.type e hT ⟨(α k).blk, (α k).off, none⟩ xs.length (U, arr.size) (by simp [World.shape?, hB.heap])
            refine wp_value (slData_run ho hc ha (by rw [hv, hhv]; exact hrun)) (hn α _ _ ?_)
            refine hs.upd _ (fun k hk => .inl hk) α _ o.dst hd .ap [] _ (fun _ _ => rfl) (by simp [alloc_push]) rfl rfl rfl (fun b hb _ => by rw [alloc_push, Array.getElem?_push_lt hb]; simp [hb]) (fun k e hl => by simp [look] at hl) (fun k e hl => by simp [look] at hl) (fun k e k' e' hl => by simp [look] at hl) (fun _ k e hl => by simp [look] at hl) (fun _ => .ap _) .ap
          · exact stay _ (by rw [hv, hhv]; exact Lib.run_unsafeSliceData_row w _ _ _ _ _ hc0)
      · refine ⟨_, _, _, h.out.1 hx, VOp.pure fun X0 F w0 p α S a w hs he ho' => ?_⟩
        have hx1 := h1.to hmem he
        have hr := hx1.read hs
        have hok := hx1.ok hs
        generalize hv : a.eval x = v at hr
        cases hr
        cases hok with
        | os _ hpk =>
        rcases hs.own k _ (ho' k (by simp) _ hen) with ⟨_, ⟨sz', _, he'⟩, hvn⟩ | ⟨_, arr, U, fz, cap, hB⟩
        · cases he'; exact absurd rfl hx
        · have hhv := hB.hv sz xs _ rfl
          have hl := hB.len
          simp only [Ent.len] at hl
          have hpos : 0 < xs.length := List.length_pos_iff.2 hx
          have := RdA.op (w := w) (α := α) (X := XX α S.own X0) k 0 0
          simp only [Nat.zero_mul, Nat.add_zero] at this
          exact ⟨_, slData_run ho hc ha (by rw [hv, hhv]; exact Lib.run_unsafeSliceData_row w _ _ _ _ _ (by omega)), this, .op k 0 0 hpk⟩
    · cases h
  · cases h

theorem unsStr_run {c : Call} {x y : Operand} {T T' : TypeId} (ho : o.op = .call c) (hc : c.callee = .builtin .unsafeString) (ha : c.args = #[x, y]) (hT : c.argTypes = #[T, T']) {P : Program} {a : Act} {w w' : World} {v : Value}
    (h : (Builtin.unsafeString_ #[T, T'] o.type #[a.eval x, a.eval y]).run P w = .ok v w') : (execOp a.eval o).run P w = .ok (.value v) w' := by
  simp [execOp, ho, resolve, hc, ha, hT, invoke, builtin, h]

theorem freeze_heap (w : World) (p : Addr) (n : Nat) : (w.freeze p n).os = w.os ∧ (w.freeze p n).tape = w.tape ∧ (w.freeze p n).output = w.output ∧ (w.freeze p n).heap.size = w.heap.size ∧ ∀ b, b ≠ p.block → (w.freeze p n).heap[b]? = w.heap[b]? := by
  unfold World.freeze
  split
  · exact ⟨rfl, rfl, rfl, rfl, fun _ _ => rfl⟩
  · refine ⟨rfl, rfl, rfl, by simp, fun b hb => ?_⟩
    simp only [Array.getElem?_modify]
    rw [if_neg fun h => hb h.symm]

theorem unsStr_out {c : Call} {x y : Operand} {T T' : TypeId} (ho : o.op = .call c) (hc : c.callee = .builtin .unsafeString) (ha : c.args = #[x, y]) (hT : c.argTypes = #[T, T']) (h : evK st x fun a => evK st y fun b => unsStrK C st T a b K) : ∃ out upd rd, K out upd rd ∧ VOp C n o nm st rd out upd := by
  replace h := evK_out h; obtain ⟨va, h1, h⟩ := h
  replace h := evK_out h; obtain ⟨vb, h2, h⟩ := h
  have hm1 : x ∈ o.op.operands := by rw [ho]; simp [Op.operands, Call.operands, hc, ha]
  have hm2 : y ∈ o.op.operands := by rw [ho]; simp [Op.operands, Call.operands, hc, ha]
  have empty : ∀ {m : Int}, Ev st.ss.env y (.d (.i .i64 m)) → (∀ {w : World} {α : Nat → Loc} {X : Nat → Prop} {v : Value}, RdA w α X va v → ∃ q, v = .pointer q) → (Hold (m = 0) ∧ K (.d (.s [])) [] []) → ∃ out upd rd, K out upd rd ∧ VOp C n o nm st rd out upd := by
    rintro m h2 hp ⟨hm, h⟩
    have hm := hm.out; subst hm
    refine ⟨_, _, _, h, VOp.pure fun X0 F w0 p α S a w hs he _ => ?_⟩
    obtain ⟨q, hq⟩ := hp ((h1.to hm1 he).read hs)
    have hy := ((h2.to hm2 he).read hs).dinv.iinv
    exact ⟨.string .empty, unsStr_run ho hc ha hT (by rw [hq, hy]; exact Lib.run_unsafeString_none w _ _ _ q), .d _ _ (.s []), .d _⟩
  unfold unsStrK at h
  split at h
  · rename_i ki m
    split at h
    · split at h
      · rename_i k i j
        split at h
        · replace h := lookK_out h; obtain ⟨tp, htp, h⟩ := h
          split at h
          · rename_i e hk
            have hu := und_ptr (C.ty htp) hk
            replace h := lookK_out h; obtain ⟨te, hte, h⟩ := h
            split at h
            · rename_i hsz
              replace h := ownK_out h; obtain ⟨en, hen, h⟩ := h
              split at h
              · rename_i sz ds e'
                split at h
                · rename_i hee
                  obtain rfl := Nat.eq_of_beq_eq_true hee
                  obtain ⟨l, rfl, hh, h⟩ := h
                  obtain ⟨hl0, rfl, hmax⟩ := hh.out
                  have hce : C.P.cellsOf e = 1 := by
                    obtain ⟨⟨ie, hie, hies, _⟩, _⟩ := C.ty hte
                    simp [Program.cellsOf, hie, hies, hsz]
                  have hlk : ∀ j oe, look [(k, (none : Option Ent))] j = some oe → j = k ∧ oe = none := by
                    intro j oe hl
                    simp only [look] at hl
                    split at hl
                    · rename_i hb; cases hl; exact ⟨Nat.eq_of_beq_eq_true hb, rfl⟩
                    · cases hl
                  refine ⟨_, _, _, h, fun j oe hl => .inl (by rw [(hlk j oe hl).1]; simp), fun X0 F w0 p α S a w Q next hs he ho' hp hd hn => ?_⟩
                  have hr := (h1.to hm1 he).read hs
                  have hy := ((h2.to hm2 he).read hs).dinv.iinv
                  generalize hv : a.eval x = v at hr
                  have hsk := ho' k (by simp) _ hen
                  rcases hs.own k _ hsk with ⟨_, ⟨sz', _, he'⟩, hvn⟩ | ⟨hnil, arr, U, fz, cap, hB⟩
                  · have := congrArg Ent.len he'; simp [Ent.len, encB] at this; exact absurd this hl0
                  obtain ⟨rfl, hoff, _⟩ := hB.ty e rfl
                  have hbd := hB.bnd
                  have hln := hB.len
                  simp only [Ent.len, Ent.sz, hoff] at hbd hln
                  have hll : (encB l).length = l.length := by simp [encB]
                  cases hr
                  have hrun := Lib.run_unsafeString_row (P := C.P) w T T' o.type U hu hce (α k).blk arr.size (by simp [World.shape?, hB.heap]) l hl0 (by omega) hmax (fun j x hx => by
                    have hg : (encB l)[j]? = some (.i .u8 (x.toNat : Int)) := by simp [encB, hx]
                    obtain ⟨u, h5, h6⟩ := hB.rd j 0 _ (cell_d (e := .buf 1 (encB l) _) rfl hg (c := .i .u8 (x.toNat : Int)) rfl)
                    have h6 := h6.dinv.iinv
                    simp only [hoff, Ent.sz, Nat.mul_one, Nat.zero_add, Nat.add_zero] at h5
                    have e2 : (⟨(α k).blk, 0, none⟩ : Addr).add j = ⟨(α k).blk, j, none⟩ := by unfold Addr.add; split <;> simp_all
                    rw [e2, cell_of hB.heap, h5, h6])
                  obtain ⟨f1, f2, f3, f4, f5⟩ := freeze_heap w ⟨(α k).blk, 0, none⟩ l.length
                  refine wp_value (unsStr_run ho hc ha hT (by rw [hv, hy]; simpa [hoff] using hrun)) (hn α _ _ ?_)
                  refine hs.upd _ (fun k hk => .inl hk) α _ o.dst hd (.d (.s l)) _ _ (fun _ _ => rfl) (Nat.le_of_eq f4.symm) f1 f2 f3 (fun b _ hb => f5 b fun e => hb k _ hsk (by simp [look]) hnil e.symm) ?_ ?_ ?_ ?_ (fun _ => .d _ _ (.s l)) (.d _)
                  · intro j e hl; cases (hlk j _ hl).2
                  · intro j e hl; cases (hlk j _ hl).2
                  · intro j e j' e' hl; cases (hlk j _ hl).2
                  · intro _ j e hl; cases (hlk j _ hl).2
                · cases h
              · cases h
            · cases h
          · cases h
        · cases h
      · rename_i v
        split at h
        · exact empty h2 (fun hr => ⟨none, by have := hr.dinv; cases this; rfl⟩) h
        · cases h
      · exact empty h2 (fun hr => by cases hr; exact ⟨_, rfl⟩) h
      · cases h
    · cases h
  · cases h
end
end Go.Eng

/-
  Sets of numbers (maps from int to bool), iterators of strings: their reckoning, and that it speaks true.
-/
namespace Go.Eng
open Go.MapKept

def insI (ks : List Int) (n : Int) : List Int := if n ∈ ks then ks else ks ++ [n]
def hasI (ks : List Int) (n : Int) : Bool := decide (n ∈ ks)

section
variable {P : Program} {w : World} {mty kt et : TypeId} {b : Nat} {o : Obj} {ks : List Int}

theorem iset_key {es : Array MapEntry} (h : es.toList.map (·.key) = ks.map (Value.int .i64)) : ∀ x ∈ es.toList, IsKey (.int .i64) x.key := by
  intro x hx
  have : x.key ∈ es.toList.map (·.key) := List.mem_map.2 ⟨x, hx, rfl⟩
  rw [h] at this
  obtain ⟨n, _, hn⟩ := List.mem_map.1 this
  rw [← hn]; rfl

theorem iset_mem {es : Array MapEntry} (h : es.toList.map (·.key) = ks.map (Value.int .i64)) (n : Int) : (∃ x ∈ es.toList, x.key = .int .i64 n) ↔ n ∈ ks := by
  constructor
  · rintro ⟨x, hx, hk⟩
    have : x.key ∈ es.toList.map (·.key) := List.mem_map.2 ⟨x, hx, rfl⟩
    rw [h, hk] at this
    obtain ⟨m, hm, he⟩ := List.mem_map.1 this
    cases he; exact hm
  · intro hn
    have : Value.int .i64 n ∈ es.toList.map (·.key) := by rw [h]; exact List.mem_map.2 ⟨n, hn, rfl⟩
    obtain ⟨x, hx, he⟩ := List.mem_map.1 this
    exact ⟨x, hx, he⟩

theorem iset_nodup {es : Array MapEntry} {clock : Nat} (h : es.toList.map (·.key) = ks.map (Value.int .i64)) (hs : Stamped es clock) : ks.Nodup := by
  have := ((stamped_iff es clock).1 hs).2.2
  have h2 : (es.toList.map (·.key)).Pairwise (· ≠ ·) := List.pairwise_map.2 this
  rw [h] at h2
  exact (List.pairwise_map.1 h2).imp fun hne e => hne (by rw [e])

theorem iset_look (hm : P.underlying mty = some (.map kt et)) (hk : P.underlying kt = some (.int .i64)) (he : (zeroValue et).run P w = .ok (.bool false) w) (hb : w.heap[b]? = some o) (hQ : ISet ks o) (n : Int) :
    (Instr.lookup mty (.map (some b)) (.int .i64 n) false).run P w = .ok (.bool (hasI ks n)) w := by
  obtain ⟨es, clock, rfl, h1, h2, h3⟩ := hQ
  have hc := run_checkKey (P := P) (w := w) (k := .int .i64 n) hk rfl es.isEmpty 9999
  rcases findNow_spec (d := .int .i64) (k := .int .i64 n) rfl es.toList 0 (iset_key h1) with ⟨f1, f2⟩ | ⟨j, e, f1, f2, f3⟩
  · have : hasI ks n = false := by
      unfold hasI; rw [decide_eq_false]
      intro hn
      obtain ⟨x, hx, hkx⟩ := (iset_mem h1 n).2 hn
      exact f2 x hx hkx
    rw [this]
    simp [Instr.lookup, run_underlying hm, MapKept.run_getObj_map hb, hc, run_findKey hk f1, he, Result.andThen]
  · have hmem := List.mem_of_getElem? f2
    have : hasI ks n = true := by
      unfold hasI; rw [decide_eq_true]
      exact (iset_mem h1 n).1 ⟨e, hmem, f3⟩
    rw [this]
    simp [Instr.lookup, run_underlying hm, MapKept.run_getObj_map hb, hc, run_findKey hk f1, h2 e hmem, Result.andThen]

theorem iset_put (hm : P.underlying mty = some (.map kt et)) (hk : P.underlying kt = some (.int .i64)) (hb : w.heap[b]? = some o) (hQ : ISet ks o) (n : Int) :
    ∃ o', (Instr.mapUpdate mty (.map (some b)) (.int .i64 n) (.bool true)).run P w = .ok () { w with heap := w.heap.setIfInBounds b o' } ∧ ISet (insI ks n) o' := by
  obtain ⟨es, clock, rfl, h1, h2, h3⟩ := hQ
  have hc := run_checkKey (P := P) (w := w) (k := .int .i64 n) hk rfl false 9999
  rcases findNow_spec (d := .int .i64) (k := .int .i64 n) rfl es.toList 0 (iset_key h1) with ⟨f1, f2⟩ | ⟨j, e, f1, f2, f3⟩
  · have hn : n ∉ ks := fun hn => by
      obtain ⟨x, hx, hkx⟩ := (iset_mem h1 n).2 hn
      exact f2 x hx hkx
    refine ⟨.map (es.push { key := .int .i64 n, val := .bool true, born := clock }) (clock + 1), ?_, _, _, rfl, ?_, ?_, ?_⟩
    · simp [Instr.mapUpdate, run_underlying hm, MapKept.run_getObj_map hb, hc, run_findKey hk f1, MapKept.run_setObj_map _ hb, Result.andThen]
    · simp [insI, hn, h1]
    · intro x hx
      simp at hx
      rcases hx with hx | rfl
      · exact h2 x (by simpa using hx)
      · rfl
    · exact stamped_push h3 f2
  · have hmem := List.mem_of_getElem? f2
    have hn : n ∈ ks := (iset_mem h1 n).1 ⟨e, hmem, f3⟩
    have hj : j < es.size := by have := (List.getElem?_eq_some_iff.1 f2).1; simpa using this
    have he3 : (es[j]?).map (·.key) = some (.int .i64 n) := by
      rw [← Array.getElem?_toList, f2]; simp [f3]
    have hkeep : (Instr.keyThatStays (.int .i64 n) (.int .i64 n)).run P w = .ok (.int .i64 n) w :=
      run_keyThatStays (d := .int .i64) (k := .int .i64 n) rfl
    refine ⟨.map (es.modify j fun e => { e with key := .int .i64 n, val := .bool true }) clock, ?_, _, _, rfl, ?_, ?_, ?_⟩
    · simp [Instr.mapUpdate, run_underlying hm, MapKept.run_getObj_map hb, hc, run_findKey hk f1, he3, hkeep, MapKept.run_setObj_map _ hb, Result.andThen]
    · have hm2 : (es.modify j fun e => { e with key := .int .i64 n, val := .bool true }).toList.map (·.key) = es.toList.map (·.key) := by
        apply List.ext_getElem?
        intro i
        simp only [List.getElem?_map, Array.getElem?_toList, Array.getElem?_modify]
        split
        · rename_i hij
          subst hij
          have := he3
          cases hx : es[j]? with
          | none => rfl
          | some y => rw [hx] at this; simp at this; simp [this]
        · rfl
      rw [hm2, h1]; simp [insI, hn]
    · intro x hx
      obtain ⟨i, hi⟩ := List.mem_iff_getElem?.1 hx
      simp only [Array.getElem?_toList, Array.getElem?_modify] at hi
      split at hi
      · cases hy : es[i]? with
        | none => rw [hy] at hi; simp at hi
        | some y => rw [hy] at hi; simp at hi; rw [← hi]
      · exact h2 x (by rw [← Array.getElem?_toList] at hi; exact List.mem_of_getElem? hi)
    · exact stamped_modify h3 j _ (fun x hx => by simp) fun x hx hxe => by
        rw [hxe] at he3; simp at he3; simp [he3]


theorem iset_del (hm : P.underlying mty = some (.map kt et)) (hk : P.underlying kt = some (.int .i64)) (hb : w.heap[b]? = some o) (hQ : ISet ks o) (n : Int) (ty : TypeId) :
    ∃ o', (Builtin.delete_ #[mty, kt] ty #[.map (some b), .int .i64 n]).run P w = .ok (.tuple #[]) { w with heap := w.heap.setIfInBounds b o' } ∧ ISet (ks.erase n) o' := by
  obtain ⟨es, clock, rfl, h1, h2, h3⟩ := hQ
  have hnd := iset_nodup h1 h3
  have hc := run_checkKey (P := P) (w := w) (k := .int .i64 n) hk rfl es.isEmpty 9999
  rcases findNow_spec (d := .int .i64) (k := .int .i64 n) rfl es.toList 0 (iset_key h1) with ⟨f1, f2⟩ | ⟨j, e, f1, f2, f3⟩
  · have hn : n ∉ ks := fun hn => by
      obtain ⟨x, hx, hkx⟩ := (iset_mem h1 n).2 hn
      exact f2 x hx hkx
    refine ⟨.map es clock, ?_, es, clock, rfl, by rw [List.erase_of_not_mem hn]; exact h1, h2, h3⟩
    simp [Builtin.delete_, run_underlying hm, MapKept.run_getObj_map hb, hc, run_findKey hk f1, MapKept.run_setObj_map _ hb, Result.andThen]
  · have hmem := List.mem_of_getElem? f2
    have hj : j < es.size := by have := (List.getElem?_eq_some_iff.1 f2).1; simpa using this
    have hsub : ∀ x, x ∈ (es.eraseIdxIfInBounds j).toList → x ∈ es.toList := by
      intro x hx
      unfold Array.eraseIdxIfInBounds at hx
      rw [dif_pos hj] at hx
      simp only [Array.toList_eraseIdx] at hx
      exact (List.eraseIdx_sublist _ _).subset hx
    refine ⟨.map (es.eraseIdxIfInBounds j) clock, ?_, _, _, rfl, ?_, fun x hx => h2 x (hsub x hx), stamped_erase h3 j⟩
    · simp [Builtin.delete_, run_underlying hm, MapKept.run_getObj_map hb, hc, run_findKey hk f1, MapKept.run_setObj_map _ hb, Result.andThen]
    · have e1 : (es.eraseIdxIfInBounds j).toList = es.toList.eraseIdx j := by
        unfold Array.eraseIdxIfInBounds
        rw [dif_pos hj]; simp
      have hkj : ks[j]? = some n := by
        have : (es.toList.map (·.key))[j]? = some (.int .i64 n) := by simp [f2, f3]
        rw [h1, List.getElem?_map] at this
        cases hx : ks[j]? with
        | none => rw [hx] at this; cases this
        | some m => rw [hx] at this; simp at this; rw [this]
      obtain ⟨hlt, hge⟩ := List.getElem?_eq_some_iff.1 hkj
      have hid : ks.idxOf n = j := by
        have h5 : n ∈ ks := List.mem_of_getElem? hkj
        have h6 := List.idxOf_lt_length_of_mem h5
        exact (List.getElem_inj (h₀ := h6) (h₁ := hlt) hnd).1 (by rw [List.getElem_idxOf h6, hge])
      rw [e1, ChangeMaps.map_eraseIdx, h1, ← ChangeMaps.map_eraseIdx, List.erase_eq_eraseIdx_of_idxOf hid]

theorem iset_len (hm : P.underlying mty = some (.map kt et)) (hb : w.heap[b]? = some o) (hQ : ISet ks o) (ty : TypeId) :
    (Builtin.len_ #[mty] ty #[.map (some b)]).run P w = .ok (.int .i64 (ks.length : Int)) w := by
  obtain ⟨es, clock, rfl, h1, h2, h3⟩ := hQ
  have : es.size = ks.length := by
    have := congrArg List.length h1
    simpa using this
  simp [Builtin.len_, run_underlying hm, MapKept.run_getObj_map hb, goInt, this, Result.andThen]
end

theorem VOp.makeO {C : Ctx} {n : Nat} {o : Oper} {nm : Nat} {st : AS} {rd : List Nat} {e : Ent} {Q : Obj → Prop} {mp : Bool} (hobj : e.obj = some (Q, mp))
    (H : ∀ (X0 : Nat → Prop) (F : Fr) (w0 : World) (p : Nat → Prop) (α : Nat → Loc) (S : SS) (a : Act) (w : World), Sim C.G X0 F w0 n p α S a w →
      (∀ t, Operand.tmp t ∈ o.op.operands → ∀ av, st.ss.env t = some av → S.env t = some av) → (∀ k, k ∈ rd → ∀ e, st.ss.own k = some e → S.own k = some e) →
      ∃ ob, Q ob ∧ (execOp a.eval o).run C.P w = .ok (.value (hvO mp w.heap.size)) (w.alloc ob)) :
    VOp C n o nm st rd (.os (16 * nm)) [(16 * nm, some e)] := by
  have hvars : e.vars = [] := by cases e <;> first | rfl | cases hobj
  have hlk : ∀ k oe, look [(16 * nm, some e)] k = some oe → k = 16 * nm ∧ oe = some e := by
    intro k oe hl
    simp only [look] at hl
    split at hl
    · rename_i hb; cases hl; exact ⟨Nat.eq_of_beq_eq_true hb, rfl⟩
    · cases hl
  refine ⟨fun k oe hl => .inr (by rw [(hlk k oe hl).1]; exact fam_mk nm 0 (by omega)), fun X0 F w0 p α S a w Q' next hs he ho hp hd hn => ?_⟩
  obtain ⟨ob, hob, hrun⟩ := H X0 F w0 p α S a w hs he ho
  have hpn : ¬ p (16 * nm) := hp _ (fam_mk nm 0 (by omega))
  let L : Loc := ⟨w.heap.size, 0, 0, false, hvO mp w.heap.size⟩
  have hLk : updLoc α (16 * nm) L (16 * nm) = L := by simp [updLoc]
  have hα : ∀ k, p k → updLoc α (16 * nm) L k = α k := by
    intro k hk
    have : k ≠ 16 * nm := fun h => hpn (h ▸ hk)
    simp [updLoc, this]
  have hheap : (w.alloc ob).heap = w.heap.push ob := rfl
  refine wp_value hrun (hn (updLoc α (16 * nm) L) _ _ ?_)
  refine hs.upd _ (fun k hk => .inl hk) _ _ o.dst hd (.os (16 * nm)) _ _ hα (by rw [hheap]; simp) rfl rfl rfl ?_ ?_ ?_ ?_ ?_ ?_ (.os _ (.inr (fam_mk nm 0 (by omega))))
  · intro b hb _
    rw [hheap, Array.getElem?_push_lt hb]; simp [hb]
  · intro k e' hl
    rw [(hlk k _ hl).1]; exact .inr (fam_mk nm 0 (by omega))
  · intro k e' hl hnil
    rw [(hlk k _ hl).1, hLk]; exact .inl (Nat.le_refl _)
  · intro k e1 k' e2 hl hl' _ _ _
    rw [(hlk k _ hl).1, (hlk k' _ hl').1]
  · intro hw k e' hl
    obtain ⟨rfl, h2⟩ := hlk k _ hl
    cases h2
    refine ⟨Own.ofO hobj ?_, fun x hx => by rw [hvars] at hx; cases hx⟩
    rw [hLk]
    exact ⟨rfl, rfl, ob, by rw [hheap]; simp [L], hob⟩
  · intro hw
    have hone : L.hv.oneCell' = true := by
      show Value.oneCell' (hvO mp w.heap.size) = true
      cases mp <;> rfl
    have := RdA.os (w := w.alloc ob) (α := updLoc α (16 * nm) L) (X := XX (updLoc α (16 * nm) L) (S.upd o.dst (.os (16 * nm)) [(16 * nm, some e)]).own X0) (16 * nm) (by rw [hLk]; exact hone)
    rw [hLk] at this
    exact this

theorem VOp.writeO {C : Ctx} {n : Nat} {o : Oper} {nm : Nat} {st : AS} {rd : List Nat} {k : Nat} {e e' : Ent} {Q Q' : Obj → Prop} {mp : Bool} {out : AV} (hkr : k ∈ rd) (h0 : st.ss.own k = some e) (hobj : e.obj = some (Q, mp)) (hobj' : e'.obj = some (Q', mp))
    (H : ∀ (X0 : Nat → Prop) (F : Fr) (w0 : World) (p : Nat → Prop) (α : Nat → Loc) (S : SS) (a : Act) (w : World), Sim C.G X0 F w0 n p α S a w →
      (∀ t, Operand.tmp t ∈ o.op.operands → ∀ av, st.ss.env t = some av → S.env t = some av) → OwnO w (α k) Q mp →
      ∃ ob v, Q' ob ∧ (∀ next Qx, next (a.put o.dst v) { w with heap := w.heap.setIfInBounds (α k).blk ob } → o.wp C.P a w next Qx) ∧ (∀ w' α' X', RdA w' α' X' out v) ∧ out.ok p) :
    VOp C n o nm st rd out [(k, some e')] := by
  have hvars : e'.vars = [] := by cases e' <;> first | rfl | cases hobj'
  have hlk : ∀ j oe, look [(k, some e')] j = some oe → j = k ∧ oe = some e' := by
    intro j oe hl
    simp only [look] at hl
    split at hl
    · rename_i hb; cases hl; exact ⟨Nat.eq_of_beq_eq_true hb, rfl⟩
    · cases hl
  have hlk' : (look [(k, some e')] k).isSome = true := by simp [look]
  refine ⟨fun j oe hl => .inl (by rw [(hlk j oe hl).1]; exact hkr), fun X0 F w0 p α S a w Q'' next hs he ho hp hd hn => ?_⟩
  have hSk : S.own k = some e := ho k hkr e h0
  have hOwn : OwnO w (α k) Q mp := by
    rcases (hs.own k e hSk).cases with (⟨_, ⟨_, _, h⟩, _⟩ | ⟨_, arr, T, fz, cap, h⟩) | ⟨Q1, mp1, h1, h2⟩
    · rw [h] at hobj; cases hobj
    · have := h.wid; cases e <;> first | exact this.elim | (cases hobj; done)
    · rw [hobj] at h1; cases h1; exact h2
  obtain ⟨ob, v, hob, hrun, hout, hok⟩ := H X0 F w0 p α S a w hs he hOwn
  obtain ⟨ob0, hb0, _⟩ := hOwn.obj
  obtain ⟨hs1, hs2⟩ := heap_set (o' := ob) hb0
  refine hrun _ _ (hn α v _ ?_)
  refine hs.upd _ (fun k hk => .inl hk) α _ o.dst hd out _ v (fun _ _ => rfl) (by simp) rfl rfl rfl ?_ ?_ ?_ ?_ ?_ ?_ (hok.mono fun k hk => .inl hk)
  · intro b _ hb
    exact hs2 b fun h => hb k e hSk hlk' hOwn.nil h.symm
  · intro j e1 hl
    rw [(hlk j _ hl).1]; exact .inl (hs.oko k e hSk).1
  · intro j e1 hl _
    rw [(hlk j _ hl).1]; exact .inr ⟨k, e, hSk, hlk', hOwn.nil, rfl⟩
  · intro j e1 j' e2 hl hl' _ _ _
    rw [(hlk j _ hl).1, (hlk j' _ hl').1]
  · intro hw j e1 hl
    obtain ⟨rfl, h2⟩ := hlk j _ hl
    cases h2
    exact ⟨Own.ofO hobj' ⟨hOwn.nil, hOwn.hv, ob, hs1, hob⟩, fun x hx => by rw [hvars] at hx; cases hx⟩
  · intro hw; exact hout _ _ _


section
variable {C : Ctx} {n : Nat} {o : Oper} {nm : Nat} {st : AS} {K : KO}

/-- Maps from int to bool: the types. -/
def setTyK (C : Ctx) (T : TypeId) (A : Prop) : Prop :=
  lookK C.tab T fun ti => match ti.kd with
    | .map k e => lookK C.tab k fun tk => lookK C.tab e fun te => (match tk.kd, te.kd with | .int .i64, .bool => A | _, _ => False)
    | _ => False

theorem und_map {P : Program} {T : TypeId} {ti : TyI} {k e : Nat} (ht : TyOk P T ti) (hk : ti.kd = .map k e) : P.underlying T = some (.map k e) := by
  obtain ⟨_, u, hu, _, hc⟩ := ht
  rw [hk] at hc
  cases u <;> simp [chkKd] at hc
  rw [hu, hc.1, hc.2]
theorem und_bool {P : Program} {T : TypeId} {ti : TyI} (ht : TyOk P T ti) (hk : ti.kd = .bool) : P.underlying T = some .bool := by
  obtain ⟨_, u, hu, _, hc⟩ := ht
  rw [hk] at hc
  cases u <;> simp [chkKd] at hc
  exact hu

theorem setTyK_out {T : TypeId} {A : Prop} (h : setTyK C T A) : A ∧ ∃ k e te, C.P.underlying T = some (.map k e) ∧ C.P.underlying k = some (.int .i64) ∧ TyOk C.P e te ∧ C.P.underlying e = some .bool := by
  unfold setTyK at h
  replace h := lookK_out h; obtain ⟨ti, hti, h⟩ := h
  split at h
  · rename_i k e hk
    replace h := lookK_out h; obtain ⟨tk, htk, h⟩ := h
    replace h := lookK_out h; obtain ⟨te, hte, h⟩ := h
    split at h
    · rename_i h1 h2
      exact ⟨h, k, e, te, und_map (C.ty hti) hk, und_int (C.ty htk) h1, C.ty hte, und_bool (C.ty hte) h2⟩
    · cases h
  · cases h

/-- A lookup in a set: the elements' zero value. -/
structure ZbK (C : Ctx) (T : TypeId) (A : Prop) : Prop where
  out : (∃ k e, C.P.underlying T = some (.map k e) ∧ ∀ w, (zeroValue e).run C.P w = .ok (.bool false) w) ∧ A
theorem look_set {C : Ctx} {T k e : TypeId} {A : Prop} (h1 : C.P.underlying T = some (.map k e)) (h2 : ∀ w, (zeroValue e).run C.P w = .ok (.bool false) w) (h : A) : ZbK C T A := ⟨⟨k, e, h1, h2⟩, h⟩

def makeMapK (C : Ctx) (nm : Nat) (T : TypeId) (r : Option Operand) (K : KO) : Prop :=
  match r with | none => setTyK C T (K (.os (16 * nm)) [(16 * nm, some (.iset []))] []) | _ => False

theorem makeMap_out {T : TypeId} {r : Option Operand} (ho : o.op = .makeMap T r) (h : makeMapK C nm T r K) : ∃ out upd rd, K out upd rd ∧ VOp C n o nm st rd out upd := by
  unfold makeMapK at h
  split at h
  · obtain ⟨h, _⟩ := setTyK_out h
    refine ⟨_, _, _, h, VOp.makeO (e := .iset []) rfl fun X0 F w0 p α S a w hs he _ => ⟨.map #[] 0, ⟨#[], 0, rfl, rfl, (fun x hx => by simp at hx), stamped_empty 0⟩, ?_⟩⟩
    simp [execOp, ho, Instr.makeMap, hvO, Result.andThen]
  · cases h

def i64K (a : AV) (K : Int → Prop) : Prop := match a with | .d (.i .i64 i) => K i | _ => False

def lookupK (C : Ctx) (st : AS) (T : TypeId) (m k : AV) (ok : Bool) (K : KO) : Prop :=
  match m, ok with
  | .os b, false => setTyK C T (i64K k fun i => ownK st b fun en => match en with | .iset ks => ZbK C T (K (.d (.b (hasI ks i))) [] [b]) | _ => False)
  | _, _ => False

def mapUpdK (C : Ctx) (st : AS) (T : TypeId) (m k v : AV) (K : KO) : Prop :=
  match m, v with
  | .os b, .d (.b true) => setTyK C T (i64K k fun i => ownK st b fun en => match en with | .iset ks => K .any [(b, some (.iset (insI ks i)))] [b] | _ => False)
  | _, _ => False

def deleteK (C : Ctx) (st : AS) (T : TypeId) (m k : AV) (K : KO) : Prop :=
  match m with
  | .os b => setTyK C T (i64K k fun i => ownK st b fun en => match en with | .iset ks => K .any [(b, some (.iset (ks.erase i)))] [b] | _ => False)
  | _ => False

def mapLenK (C : Ctx) (st : AS) (T : TypeId) (m : AV) (K : KO) : Prop :=
  match m with
  | .os b => setTyK C T (ownK st b fun en => match en with | .iset ks => K (.d (.i .i64 (ks.length : Int))) [] [b] | _ => False)
  | _ => False


theorem isetO {w : World} {l : Loc} {Q : Obj → Prop} (h : OwnO w l Q true) : l.hv = .map (some l.blk) := h.hv

theorem own_iset {G : List Gl} {X0 : Nat → Prop} {F : Fr} {w0 : World} {n : Nat} {p : Nat → Prop} {α : Nat → Loc} {S : SS} {a : Act} {w : World} (hs : Sim G X0 F w0 n p α S a w) {b : Nat} {ks : List Int} (h : S.own b = some (.iset ks)) : OwnO w (α b) (ISet ks) true := hs.own b _ h

theorem lookup_out {T : TypeId} {m k : Operand} {ok : Bool} (ho : o.op = .lookup T m k ok) (h : evK st m fun a => evK st k fun b => lookupK C st T a b ok K) : ∃ out upd rd, K out upd rd ∧ VOp C n o nm st rd out upd := by
  replace h := evK_out h; obtain ⟨va, h1, h⟩ := h
  replace h := evK_out h; obtain ⟨vk, h2, h⟩ := h
  unfold lookupK at h
  split at h
  · rename_i b
    replace h := setTyK_out h; obtain ⟨h, kt, et, te, hT, hk, hte, he⟩ := h
    unfold i64K at h
    split at h
    · rename_i i
      replace h := ownK_out h; obtain ⟨en, hen, h⟩ := h
      split at h
      · rename_i ks
        obtain ⟨⟨k', e', hT', hz⟩, h⟩ := h.out
        rw [hT] at hT'; cases hT'
        refine ⟨_, _, _, h, VOp.pure fun X0 F w0 p α S a w hs he' ho' => ?_⟩
        have hO := own_iset hs (ho' b (by simp) _ hen)
        have hx := (h1.to (by rw [ho]; simp [Op.operands]) he').read hs
        have hy := ((h2.to (by rw [ho]; simp [Op.operands]) he').read hs).dinv.iinv
        generalize hvx : a.eval m = vx at hx
        cases hx
        rw [isetO hO] at hvx
        obtain ⟨ob, hb, hQ⟩ := hO.obj
        refine ⟨_, ?_, .d _ _ (.b _), .d _⟩
        simp [execOp, ho, hvx, hy, iset_look hT hk (hz w) hb hQ i]
      · cases h
    · cases h
  · cases h

theorem mapUpd_out {T : TypeId} {m k v : Operand} (ho : o.op = .mapUpdate T m k v) (h : evK st m fun a => evK st k fun b => evK st v fun c => mapUpdK C st T a b c K) : ∃ out upd rd, K out upd rd ∧ VOp C n o nm st rd out upd := by
  replace h := evK_out h; obtain ⟨va, h1, h⟩ := h
  replace h := evK_out h; obtain ⟨vk, h2, h⟩ := h
  replace h := evK_out h; obtain ⟨vv, h3, h⟩ := h
  unfold mapUpdK at h
  split at h
  · rename_i b
    replace h := setTyK_out h; obtain ⟨h, kt, et, te, hT, hk, hte, he⟩ := h
    unfold i64K at h
    split at h
    · rename_i i
      replace h := ownK_out h; obtain ⟨en, hen, h⟩ := h
      split at h
      · rename_i ks
        refine ⟨_, _, _, h, VOp.writeO (e := .iset ks) (e' := .iset (insI ks i)) (by simp) hen rfl rfl fun X0 F w0 p α S a w hs he' hO => ?_⟩
        have hx := (h1.to (by rw [ho]; simp [Op.operands]) he').read hs
        have hy := ((h2.to (by rw [ho]; simp [Op.operands]) he').read hs).dinv.iinv
        have hv := ((h3.to (by rw [ho]; simp [Op.operands]) he').read hs).dinv.binv
        generalize hvx : a.eval m = vx at hx
        cases hx
        rw [isetO hO] at hvx
        obtain ⟨ob, hb, hQ⟩ := hO.obj
        obtain ⟨ob', hrun, hQ'⟩ := iset_put (w := w) hT hk hb hQ i
        refine ⟨ob', undef, hQ', fun next Qx hn => ?_, fun _ _ _ => .any _, .any⟩
        unfold Oper.wp
        simp [execOp, ho, hvx, hy, hv, hrun, Result.andThen]
        exact hn
      · cases h
    · cases h
  · cases h

theorem delete_out {c : Call} {m k : Operand} {T Tk : TypeId} (ho : o.op = .call c) (hc : c.callee = .builtin .delete) (ha : c.args = #[m, k]) (hT' : c.argTypes = #[T, Tk]) (hTk : ∃ e, C.P.underlying T = some (.map Tk e))
    (h : evK st m fun a => evK st k fun b => deleteK C st T a b K) : ∃ out upd rd, K out upd rd ∧ VOp C n o nm st rd out upd := by
  replace h := evK_out h; obtain ⟨va, h1, h⟩ := h
  replace h := evK_out h; obtain ⟨vk, h2, h⟩ := h
  have hm1 : m ∈ o.op.operands := by rw [ho]; simp [Op.operands, Call.operands, hc, ha]
  have hm2 : k ∈ o.op.operands := by rw [ho]; simp [Op.operands, Call.operands, hc, ha]
  unfold deleteK at h
  split at h
  · rename_i b
    replace h := setTyK_out h; obtain ⟨h, kt, et, te, hT, hk, hte, he⟩ := h
    obtain ⟨e0, hTk⟩ := hTk
    rw [hT] at hTk; cases hTk
    unfold i64K at h
    split at h
    · rename_i i
      replace h := ownK_out h; obtain ⟨en, hen, h⟩ := h
      split at h
      · rename_i ks
        refine ⟨_, _, _, h, VOp.writeO (e := .iset ks) (e' := .iset (ks.erase i)) (by simp) hen rfl rfl fun X0 F w0 p α S a w hs he' hO => ?_⟩
        have hx := (h1.to hm1 he').read hs
        have hy := ((h2.to hm2 he').read hs).dinv.iinv
        generalize hvx : a.eval m = vx at hx
        cases hx
        rw [isetO hO] at hvx
        obtain ⟨ob, hb, hQ⟩ := hO.obj
        obtain ⟨ob', hrun, hQ'⟩ := iset_del (w := w) hT hk hb hQ i o.type
        refine ⟨ob', .tuple #[], hQ', fun next Qx hn => ?_, fun _ _ _ => .any _, .any⟩
        unfold Oper.wp
        simp [execOp, ho, resolve, invoke, builtin, hc, ha, hT', hvx, hy, hrun, Result.andThen]
        exact hn
      · cases h
    · cases h
  · cases h

theorem mapLen_out {c : Call} {x : Operand} (ho : o.op = .call c) (hc : c.callee = .builtin .len) (ha : c.args = #[x]) {T : TypeId} (hT' : c.argTypes = #[T])
    (h : evK st x fun a => mapLenK C st T a K) : ∃ out upd rd, K out upd rd ∧ VOp C n o nm st rd out upd := by
  replace h := evK_out h; obtain ⟨va, h1, h⟩ := h
  have hm1 : x ∈ o.op.operands := by rw [ho]; simp [Op.operands, Call.operands, hc, ha]
  unfold mapLenK at h
  split at h
  · rename_i b
    replace h := setTyK_out h; obtain ⟨h, kt, et, te, hT, hk, hte, he⟩ := h
    replace h := ownK_out h; obtain ⟨en, hen, h⟩ := h
    split at h
    · rename_i ks
      refine ⟨_, _, _, h, VOp.pure fun X0 F w0 p α S a w hs he' ho' => ?_⟩
      have hO := own_iset hs (ho' b (by simp) _ hen)
      have hx := (h1.to hm1 he').read hs
      generalize hvx : a.eval x = vx at hx
      cases hx
      rw [isetO hO] at hvx
      obtain ⟨ob, hb, hQ⟩ := hO.obj
      refine ⟨_, ?_, .d _ _ (.i _ _), .d _⟩
      simp [execOp, ho, resolve, invoke, builtin, hc, ha, hT', hvx, iset_len hT hb hQ, Result.andThen]
    · cases h
  · cases h

/-! #### Iterators of strings -/

def rangeK (C : Ctx) (nm : Nat) (T : TypeId) (a : AV) (K : KO) : Prop :=
  lookK C.tab T fun ti => match ti.kd, a with
    | .str, .d (.s l) => K (.os (16 * nm)) [(16 * nm, some (.iters l 0))] []
    | _, _ => False

/-- The rune at a place of a text, and its width. -/
def runeAt (l : List UInt8) (pos : Nat) : Nat × Nat := Utf8.decode ⟨l.toArray⟩ pos
structure NextSK (l : List UInt8) (pos : Nat) (A : Nat → Nat → Prop) (B : Prop) : Prop where
  out : (pos < l.length ∧ A (runeAt l pos).1 (runeAt l pos).2) ∨ (l.length ≤ pos ∧ B)
theorem next_yes {l : List UInt8} {pos : Nat} {A : Nat → Nat → Prop} {B : Prop} (c w : Nat) (h : pos < l.length) (h1 : runeAt l pos = (c, w)) (h2 : A c w) : NextSK l pos A B := ⟨.inl ⟨h, by rw [h1]; exact h2⟩⟩
theorem next_no {l : List UInt8} {pos : Nat} {A : Nat → Nat → Prop} {B : Prop} (h : l.length ≤ pos) (h2 : B) : NextSK l pos A B := ⟨.inr ⟨h, h2⟩⟩

def nextK (st : AS) (isS : Bool) (a : AV) (K : KO) : Prop :=
  match a, isS with
  | .os b, true => ownK st b fun en => match en with
    | .iters l pos => NextSK l pos (fun c w => K (.tup [.d (.b true), .d (.i .i64 (pos : Int)), .d (.i .i32 (c : Int))]) [(b, some (.iters l (pos + w)))] [b]) (K (.tup [.d (.b false)]) [] [b])
    | _ => False
  | _, _ => False

theorem range_out {T : TypeId} {x : Operand} (ho : o.op = .range T x) (h : evK st x fun a => rangeK C nm T a K) : ∃ out upd rd, K out upd rd ∧ VOp C n o nm st rd out upd := by
  replace h := evK_out h; obtain ⟨va, h1, h⟩ := h
  unfold rangeK at h
  replace h := lookK_out h; obtain ⟨ti, hti, h⟩ := h
  split at h
  · rename_i l hk
    refine ⟨_, _, _, h, VOp.makeO (e := .iters l 0) rfl fun X0 F w0 p α S a w hs he _ => ⟨.stringIter ⟨l.toArray⟩ 0, rfl, ?_⟩⟩
    have hx := ((h1.to (by rw [ho]; simp [Op.operands]) he).read hs).dinv.sinv
    simp [execOp, ho, hx, Instr.range, underlying, und_str (C.ty hti) hk, hvO, Result.andThen]
  · cases h

theorem tup1 {w : World} {α : Nat → Loc} {X : Nat → Prop} : RdA w α X (.tup [.d (.b false)]) (.tuple #[.bool false]) := by
  refine .tup _ _ rfl fun j c v h1 h2 => ?_
  cases j with
  | zero => simp at h1 h2; subst h1 h2; exact .d _ _ (.b _)
  | succ j => simp at h1
theorem tup3 {w : World} {α : Nat → Loc} {X : Nat → Prop} (p c : Int) : RdA w α X (.tup [.d (.b true), .d (.i .i64 p), .d (.i .i32 c)]) (.tuple #[.bool true, .int .i64 p, .int .i32 c]) := by
  refine .tup _ _ rfl fun j c v h1 h2 => ?_
  match j with
  | 0 => simp at h1 h2; subst h1 h2; exact .d _ _ (.b _)
  | 1 => simp at h1 h2; subst h1 h2; exact .d _ _ (.i _ _)
  | 2 => simp at h1 h2; subst h1 h2; exact .d _ _ (.i _ _)
  | j + 3 => simp at h1

theorem next_out {x : Operand} {isS : Bool} (ho : o.op = .next x isS) (h : evK st x fun a => nextK st isS a K) : ∃ out upd rd, K out upd rd ∧ VOp C n o nm st rd out upd := by
  replace h := evK_out h; obtain ⟨va, h1, h⟩ := h
  unfold nextK at h
  split at h
  · rename_i b
    replace h := ownK_out h; obtain ⟨en, hen, h⟩ := h
    split at h
    · rename_i l pos
      rcases h.out with ⟨hp, h⟩ | ⟨hp, h⟩
      · refine ⟨_, _, _, h, VOp.writeO (e := .iters l pos) (e' := .iters l (pos + (runeAt l pos).2)) (by simp) hen rfl rfl fun X0 F w0 p α S a w hs he' hO => ?_⟩
        have hx := (h1.to (by rw [ho]; simp [Op.operands]) he').read hs
        generalize hvx : a.eval x = vx at hx
        cases hx
        rw [hO.hv] at hvx
        obtain ⟨ob, hb, hQ⟩ := hO.obj
        cases hQ
        refine ⟨_, _, rfl, fun next Qx hn => wp_value ?_ hn, fun _ _ _ => tup3 (pos : Int) ((runeAt l pos).1 : Int), .tup _ fun c hc => ?_⟩
        · have hg : (getObj (α b).blk).run C.P w = .ok (.stringIter ⟨l.toArray⟩ pos) w := by simp [getObj, Sem.run, hb]
          have hs' : ∀ o', (setObj (α b).blk o').run C.P w = .ok () { w with heap := w.heap.setIfInBounds (α b).blk o' } := fun o' => by simp [setObj, Sem.run, hb]
          have hsz : (ByteArray.mk l.toArray).size = l.length := size_mk l
          simp [execOp, ho, hvx, hvO, Instr.next, hg, hsz, hp, hs', goInt, runeAt, Result.andThen]
        · simp at hc; rcases hc with rfl | rfl | rfl <;> exact .d _
      · refine ⟨_, _, _, h, VOp.pure fun X0 F w0 p α S a w hs he' ho' => ?_⟩
        have hO : OwnO w (α b) (IterS l pos) false := hs.own b _ (ho' b (by simp) _ hen)
        have hx := (h1.to (by rw [ho]; simp [Op.operands]) he').read hs
        generalize hvx : a.eval x = vx at hx
        cases hx
        rw [hO.hv] at hvx
        obtain ⟨ob, hb, hQ⟩ := hO.obj
        cases hQ
        refine ⟨_, ?_, tup1, .tup _ fun c hc => by simp at hc; subst hc; exact .d _⟩
        have hg : (getObj (α b).blk).run C.P w = .ok (.stringIter ⟨l.toArray⟩ pos) w := by simp [getObj, Sem.run, hb]
        have hsz : (ByteArray.mk l.toArray).size = l.length := size_mk l
        have hp' : ¬ pos < l.length := by omega
        simp [execOp, ho, hvx, hvO, Instr.next, hg, hsz, hp', Result.andThen]
    · cases h
  · cases h

/-! #### New rows; slices with three indexes -/

structure MkK (l c : Int) (bytes : Nat) (K : Nat → Prop) : Prop where
  out : ∃ j : Nat, l = (j : Int) ∧ l ≤ c ∧ c ≤ 9223372036854775807 ∧ (bytes : Int) * c ≤ 281474976710656 ∧ K j
theorem mk_ok {l c : Int} {bytes : Nat} {K : Nat → Prop} (j : Nat) (h : l = (j : Int)) (h1 : l ≤ c) (h2 : c ≤ 68719476736) (h3 : (bytes : Int) * c ≤ 281474976710656) (h4 : K j) : MkK l c bytes K := ⟨j, h, h1, by omega, h3, h4⟩

def makeSliceK (C : Ctx) (nm : Nat) (T : TypeId) (l c : AV) (K : KO) : Prop :=
  lookK C.tab T fun ti => match ti.kd with
    | .slice e => lookK C.tab e fun te => intK l fun _ i => intK c fun _ j => zdK te.zero fun z => match te.agg, z with
      | true, z => (match Nat.beq z.length te.size, Nat.ble 1 te.size with | true, true => MkK i j te.bytes fun m => K (.os (16 * nm)) [(16 * nm, some (.buf te.size (List.replicate m (.agg z)) (some e)))] [] | _, _ => False)
      | false, [d] => (match Nat.beq te.size 1 with | true => MkK i j te.bytes fun m => K (.os (16 * nm)) [(16 * nm, some (.buf 1 (List.replicate m d) (some e)))] [] | false => False)
      | _, _ => False
    | _ => False

structure Cut3K (n : Nat) (b mx : Int) (K : Nat → Prop) : Prop where
  out : ∃ j : Nat, b = (j : Int) ∧ mx = (j : Int) ∧ j ≤ n ∧ K j
theorem cut3 {n : Nat} {b mx : Int} {K : Nat → Prop} (j : Nat) (h : b = (j : Int)) (h1 : mx = (j : Int)) (h2 : j ≤ n) (h3 : K j) : Cut3K n b mx K := ⟨j, h, h1, h2, h3⟩
def slice3K (C : Ctx) (T : TypeId) (a b m : AV) (K : KO) : Prop :=
  lookK C.tab T fun ti => match a, ti.kd with
    | .d (.sl sz xs), .slice e => lookK C.tab e fun te => (match Nat.beq te.size sz with
      | true => intK b fun _ i => intK m fun _ j => Cut3K xs.length i j fun q => K (.d (.sl sz (xs.take q))) [] []
      | false => False)
    | _, _ => False

theorem Rd.capn {w : World} {X : Nat → Prop} {sz : Nat} {ys : List D} {b : Option Addr} {m cap : Nat} (h : Rd w X (.sl sz ys) (.slice b m cap)) : Rd w X (.sl sz ys) (.slice b m m) := by
  cases h with
  | slnil => exact .slnil sz
  | sle _ a => exact .sle sz a 0
  | sl _ _ blk off _ _ arr T fz f hh hX hl hc hw h1 h2 => exact .sl sz ys blk off m m arr T fz f hh hX hl (Nat.le_refl _) hw h1 h2

theorem slice3_out {T : TypeId} {x hi mx : Operand} (ho : o.op = .slice T x none (some hi) (some mx)) (h : evK st x fun a => evK st hi fun b => evK st mx fun m => slice3K C T a b m K) : ∃ out upd rd, K out upd rd ∧ VOp C n o nm st rd out upd := by
  replace h := evK_out h; obtain ⟨va, h1, h⟩ := h
  replace h := evK_out h; obtain ⟨vb, h2, h⟩ := h
  replace h := evK_out h; obtain ⟨vm, h3, h⟩ := h
  unfold slice3K at h
  replace h := lookK_out h; obtain ⟨ti, hti, h⟩ := h
  split at h
  · rename_i sz xs e hk
    replace h := lookK_out h; obtain ⟨te, hte, h⟩ := h
    split at h
    · rename_i hsz
      have hsz := Nat.eq_of_beq_eq_true hsz
      unfold intK at h
      split at h
      · rename_i k1 i
        split at h
        · rename_i k2 j
          obtain ⟨q, rfl, rfl, hq, h⟩ := h
          refine ⟨_, _, _, h, VOp.pure fun X0 F w0 p α S a w hs he _ => ?_⟩
          have hr := ((h1.to (by rw [ho]; simp [Op.operands]) he).read hs).dinv
          have hb := ((h2.to (by rw [ho]; simp [Op.operands]) he).read hs).dinv.iinv
          have hm := ((h3.to (by rw [ho]; simp [Op.operands]) he).read hs).dinv.iinv
          obtain ⟨b, cap, hx⟩ := hr.slinv
          rw [hx] at hr
          obtain ⟨h9, h10, h11⟩ := cut_read hr (Nat.zero_le q) hq
          have hu := und_slice (C.ty hti) hk
          have hB : ∀ (k : IntKind) (y : Nat) (c : BoundsCode), q ≤ y → (Instr.sliceBound (.int k (q : Int)) y c).run C.P w = .ok q w := by
            intro k y c hj
            simp [Instr.sliceBound, asIntOf, hj]
          have hbe : (if cap = 0 then b else b.map (·.add (0 * sz))) = b := by
            have : b.map (·.add (0 * sz)) = b := by
              cases b with
              | none => rfl
              | some a => simp [Addr.add]
            split <;> simp_all
          rw [hbe] at h9
          simp only [Nat.sub_zero, List.drop_zero] at h9
          refine ⟨.slice b q q, ?_, .d _ _ h9.capn, .d _⟩
          have hbe' : (if q = 0 then b else b.map (·.add (0 * te.size))) = b := by
            have : b.map (·.add (0 * te.size)) = b := by
              cases b with
              | none => rfl
              | some a => simp [Addr.add]
            split <;> simp_all
          simp [execOp, ho, hx, hb, hm, Instr.sliceAt, Instr.slice, Instr.sliceBounds, underlying, hu, hB _ _ _ h10, hB _ _ _ (Nat.le_refl q), run_size (C.ty hte)]
          simpa using hbe'
        · cases h
      · cases h
    · cases h
  · cases h

theorem makeSlice_out {T : TypeId} {l c : Operand} (ho : o.op = .makeSlice T l c) (h : evK st l fun a => evK st c fun b => makeSliceK C nm T a b K) : ∃ out upd rd, K out upd rd ∧ VOp C n o nm st rd out upd := by
  replace h := evK_out h; obtain ⟨va, h1, h⟩ := h
  replace h := evK_out h; obtain ⟨vb, h2, h⟩ := h
  unfold makeSliceK at h
  replace h := lookK_out h; obtain ⟨ti, hti, h⟩ := h
  split at h
  · rename_i e hk
    replace h := lookK_out h; obtain ⟨te, hte, h⟩ := h
    unfold intK at h
    split at h
    · rename_i k1 i
      split at h
      · rename_i k2 j
        replace h := zdK_out h; obtain ⟨z, h, hzl, hzo, hzr⟩ := h
        have hu := und_slice (C.ty hti) hk
        obtain ⟨⟨ie, hie, hies, hieb, zv, hz, hzz⟩, _⟩ := C.ty hte
        have fin : ∀ (x : D), x.cells = z → z.length = te.size → 1 ≤ te.size → MkK i j te.bytes (fun m => K (.os (16 * nm)) [(16 * nm, some (.buf te.size (List.replicate m x) (some e)))] []) → ∃ out upd rd, K out upd rd ∧ VOp C n o nm st rd out upd := by
          rintro x hx hzn hpos ⟨m, rfl, hle, hc1, hc2, hK⟩
          obtain ⟨cc, rfl⟩ : ∃ cc : Nat, j = (cc : Int) := ⟨j.toNat, by omega⟩
          have hmc : m ≤ cc := by omega
          have hzsz : zv.cells.size = te.size := by have := (zl_get hzz).1; simp at this; omega
          refine ⟨_, _, _, hK, VOp.make (e := .buf te.size (List.replicate m x) (some e)) (kills := []) (fun _ hk => by cases hk) (.inl rfl) fun X0 F w0 p α S a w hs he _ => ?_⟩
          have hl' := ((h1.to (by rw [ho]; simp [Op.operands]) he).read hs).dinv.iinv
          have hc' := ((h2.to (by rw [ho]; simp [Op.operands]) he).read hs).dinv.iinv
          have hwx : x.wd te.size := ⟨by rw [hx]; exact hzn, by rw [hx]; exact hzo⟩
          have hw1 : IntKind.i64.wrap (m : Int) = m := wrap_id64 (by omega) (by omega)
          have hw2 : IntKind.i64.wrap (cc : Int) = cc := wrap_id64 (by omega) (by omega)
          have hS : (sizeOf e).run C.P w = .ok te.size w := by simp [sizeOf, typeInfo, hie, hies]
          let arr : Array Value := madeCells zv.cells (cc * te.size)
          have hrun : (Instr.makeSlice T (.int k1 (m : Int)) (.int k2 (cc : Int))).run C.P w = .ok (.slice (some ⟨w.heap.size, 0, none⟩) m cc) (w.alloc (.cells arr e)) := by
            have := run_make (P := C.P) w T e ie zv hu hie hz k1 k2 (m : Int) (cc : Int) (by omega) (by omega) (by rw [hieb]; exact hc2) hc1
            rw [hies] at this
            simpa using this
          refine ⟨w.alloc (.cells arr e), _, arr, e, (0, 0), cc, ⟨rfl, rfl, rfl, rfl, by simp [Ent.len, hmc], by simp [Ent.sz, arr, madeCells], ⟨Nat.le_refl _, fun o _ => by simp⟩, ?_, fun q r c hc => ?_, (fun x hx => by cases hx), ?_, rfl, fun V hV => ?_⟩, by simp [execOp, ho, hl', hc', hrun]; rfl⟩
          · intro q y hy
            rw [List.getElem?_replicate] at hy
            split at hy
            · cases hy; exact hwx
            · cases hy
          · simp only [Ent.cell, Option.bind_eq_some_iff, Option.map_eq_some_iff] at hc
            obtain ⟨y, hy, d, hd, rfl⟩ := hc
            rw [List.getElem?_replicate] at hy
            split at hy
            · cases hy
              rename_i hq
              rw [hx] at hd
              have hr : r < te.size := by rw [← hzn]; exact (List.getElem?_eq_some_iff.1 hd).1
              have hlt : q * te.size + r < cc * te.size := by
                have : (q + 1) * te.size ≤ cc * te.size := Nat.mul_le_mul_right _ (by omega)
                rw [Nat.add_mul] at this; omega
              have hmod : (q * te.size + r) % zv.cells.size = r := by rw [hzsz, Nat.mul_comm, Nat.mul_add_mod, Nat.mod_eq_of_lt hr]
              refine ⟨zv.cells[r]'(by omega), ?_, .d _ _ ?_⟩
              · simp [Ent.sz, arr, madeCells, hlt, hmod, show r < zv.cells.size by omega]
              · refine hzr w α _ r d ((te.zero)[r]'(by rw [← hzl]; omega)) _ hd (by simp) ?_
                have := (zl_alike (w := w) (α := α) (X := XX α S.own X0) hzz).2 r ((te.zero)[r]'(by rw [← hzl]; omega)) (zv.cells[r]'(by omega)) (by simp) (by simp)
                exact this
            · cases hy
          · intro sz xs V hV; cases hV; simp
          · cases hV; exact ⟨rfl, fun cs V h => by cases h⟩
        split at h
        · rename_i hagg
          split at h
          · rename_i hb1 hb2
            exact fin (.agg _) rfl (Nat.eq_of_beq_eq_true hb1) (Nat.le_of_ble_eq_true hb2) h
          · cases h
        · rename_i zl' d hagg
          split at h
          · rename_i hb
            have hb := Nat.eq_of_beq_eq_true hb
            rw [← hb] at h
            refine fin d (one_cells (hzo d (by simp))) (by simp [hb]) (by omega) ?_
            simpa [hb] using h
          · cases h
        · cases h
      · cases h
    · cases h
  · cases h

/-! #### A row of literals some of which are own rows: these are read as data from then on -/

def hasOs : List AV → Bool
  | [] => false
  | a :: l => match a with | .os _ => true | _ => hasOs l
def sndL : List (Nat × Operand) → List Operand
  | [] => []
  | x :: r => x.2 :: sndL r
def ixB : List (Nat × Operand) → Nat → Bool
  | [], _ => true
  | x :: r, i => Nat.beq x.1 i && ixB r (i + 1)
theorem sndL_eq : ∀ ps : List (Nat × Operand), sndL ps = ps.map (·.2)
  | [] => rfl
  | x :: r => by simp [sndL, sndL_eq r]
theorem ixB_get : ∀ {ps : List (Nat × Operand)} {i : Nat}, ixB ps i = true → ∀ j x, ps[j]? = some x → x.1 = i + j
  | [], _, _, j, x, h => by simp at h
  | y :: r, i, h, j, x, hx => by
    simp only [ixB, Bool.and_eq_true] at h
    cases j with
    | zero => simp at hx; subst hx; exact Nat.eq_of_beq_eq_true h.1
    | succ j => have := ixB_get h.2 j x (by simpa using hx); omega

theorem fill_row : ∀ (parts : List (Nat × Value)) (k : Nat) (cells : Array Value), (∀ j x, parts[j]? = some x → x.1 = k + j ∧ x.2.oneCell' = true) → cells.size = k + parts.length →
    Instr.fill (fun i => some (i * 1, 1)) cells parts = some (cells.extract 0 k ++ (parts.map (·.2)).toArray)
  | [], k, cells, _, hs => by simp [Instr.fill]; simp at hs; rw [← hs, Array.extract_size]
  | (i, v) :: r, k, cells, hp, hs => by
    obtain ⟨h1, h2⟩ := hp 0 (i, v) rfl
    simp only [Nat.add_zero] at h1 h2
    subst h1
    have hc := cells_one h2
    simp only [List.length_cons] at hs
    unfold Instr.fill
    simp only [hc]
    rw [if_neg (by simp; omega)]
    have := fill_row r (i + 1) (cells.setIfInBounds (i * 1 + 0) v) (fun j x hx => by
      have := hp (j + 1) x (by simpa using hx)
      exact ⟨by omega, this.2⟩) (by simp; omega)
    simp at this ⊢
    rw [this]
    congr 1
    apply Array.ext'
    have hlt : i < cells.size := by omega
    simp only [Array.toList_append, Array.toList_extract, Array.toList_setIfInBounds, List.extract_eq_take_drop, List.drop_zero, Nat.sub_zero]
    rw [List.take_succ_eq_append_getElem (by simpa using hlt), List.take_set, List.set_eq_of_length_le (by simp; exact Nat.min_le_left _ _), List.getElem_set_self]
    simp

theorem look_nones {k : Nat} : ∀ {us : List Nat}, k ∈ us → (look (us.map fun k => (k, (none : Option Ent))) k).isSome = true
  | x :: l, hk => by
    simp only [List.map_cons, look]
    split
    · rfl
    · rename_i hb
      rcases List.mem_cons.1 hk with rfl | hk
      · simp at hb
      · exact look_nones hk


def rowZK (C : Ctx) (st : AS) (nm : Nat) (T : TypeId) (len : Nat) (ps : List (Nat × Operand)) (as : List AV) (K : KO) : Prop :=
  lookK C.tab T fun ti => match ti.kd with
    | .slice e => lookK C.tab e fun te => match te.agg, Nat.beq te.size 1, ixB ps 0, Nat.beq as.length len with
      | false, true, true, true => (match Nat.ble 1 len, Nat.ble len 16777216 with
        | true, true => argsK st as fun ds us => (match ds.all D.one with
          | true => K (.os (16 * nm)) ((16 * nm, some (.buf 1 ds)) :: nones us) us
          | false => False)
        | _, _ => False)
      | _, _, _, _ => False
    | _ => False

theorem rowZ_out {T : TypeId} {len : Nat} {ps : Array (Nat × Operand)} (ho : o.op = .buildSlice T len ps) {as : List AV} (hev : Evs st.ss.env (sndL ps.toList) as) (h : rowZK C st nm T len ps.toList as K) :
    ∃ out upd rd, K out upd rd ∧ VOp C n o nm st rd out upd := by
  have hmem : ∀ x, x ∈ sndL ps.toList → x ∈ o.op.operands := by
    intro x hx
    rw [sndL_eq] at hx
    obtain ⟨⟨i, y⟩, hy, rfl⟩ := List.mem_map.1 hx
    rw [ho]
    simp only [Op.operands, List.mem_toArray]
    exact List.mem_map.2 ⟨(i, y), hy, rfl⟩
  unfold rowZK at h
  replace h := lookK_out h; obtain ⟨ti, hti, h⟩ := h
  split at h
  · rename_i e hk
    have hu := und_slice (C.ty hti) hk
    replace h := lookK_out h; obtain ⟨te, hte, h⟩ := h
    split at h
    · rename_i hagg hsz hix hln
      have hsz := Nat.eq_of_beq_eq_true hsz
      have hln := Nat.eq_of_beq_eq_true hln
      have hix := ixB_get hix
      split at h
      · rename_i hb1 hb2
        have hb1 := Nat.le_of_ble_eq_true hb1
        have hb2 := Nat.le_of_ble_eq_true hb2
        replace h := argsK_out h; obtain ⟨ds, us, h, h2, h3, h4⟩ := h
        split at h
        · rename_i hone
          have hone := List.all_eq_true.1 hone
          obtain ⟨⟨ie, hie, hies, _, z, hz, hzl⟩, _⟩ := C.ty hte
          rw [nones_eq] at h
          have hlk := makeUpd_look (nm := nm) (e := Ent.buf 1 ds) (kills := us)
          have hevl := hev.length
          rw [sndL_eq, List.length_map] at hevl
          refine ⟨_, _, _, h, fun k oe hl => ?_, fun X0 F w0 p α S a w Q next hs he ho' hp hd hn => ?_⟩
          · rcases hlk k oe hl with ⟨rfl, _⟩ | ⟨hk, _⟩
            · exact .inr (fam_mk nm 0 (by omega))
            · exact .inl hk
          have hin : ∀ k, k ∈ us → (look ((16 * nm, some (Ent.buf 1 ds)) :: us.map fun k => (k, none)) k).isSome = true := by
            intro k hk
            simp only [look]
            split
            · rfl
            · exact look_nones hk
          have hpn : ¬ p (16 * nm) := hp _ (fam_mk nm 0 (by omega))
          let vs : List Value := (sndL ps.toList).map a.eval
          let hv : Value := .slice (some ⟨w.heap.size, 0, none⟩) len len
          let L : Loc := ⟨w.heap.size, 0, 1, false, hv⟩
          have hLk : updLoc α (16 * nm) L (16 * nm) = L := by simp [updLoc]
          have hα : ∀ k, p k → updLoc α (16 * nm) L k = α k := by
            intro k hk
            have : k ≠ 16 * nm := fun h => hpn (h ▸ hk)
            simp [updLoc, this]
          have hval : ∀ (j : Nat) (d : D), ds[j]? = some d → ∃ v, vs[j]? = some v ∧ v.oneCell' = true ∧ ∀ X', (∀ b, X' b → XX α S.own X0 b) → (∀ k, k ∈ us → (α k).nil = false → ¬ X' (α k).blk) → Rd w X' d v := by
            intro j d hj
            have hja : j < as.length := by rw [← h2]; exact (List.getElem?_eq_some_iff.1 hj).1
            obtain ⟨y, hy, hye⟩ := hev.get j as[j] (by simp [hja])
            obtain ⟨ws, h5, h6⟩ := h4 j as[j] d (by simp [hja]) hj
            have hrd := (hye.to (hmem y (List.mem_of_getElem? hy)) he).read hs
            have hall : ∀ X', (∀ b, X' b → XX α S.own X0 b) → (∀ k, k ∈ us → (α k).nil = false → ¬ X' (α k).blk) → Rd w X' d (a.eval y) := fun X' hX hk =>
              h5.rd w α _ X' _ hrd (fun k hk e hke => hs.own k e (ho' k (h6 k hk) e hke)) hX fun k hkk hnil => hk k (h6 k hkk) hnil
            refine ⟨a.eval y, by simp [vs, hy], ?_, hall⟩
            have := hall (fun _ => False) (fun _ hb => hb.elim) (fun _ _ _ hb => hb)
            exact this.one (hone d (List.mem_of_getElem? hj))
          have hvl : vs.length = len := by simp only [vs, sndL_eq, List.length_map]; omega
          have hpsl : ps.toList.length = len := by simp only [Array.length_toList] at hevl ⊢; omega
          have hpss : ps.size = len := by simpa using hpsl
          have hvone : ∀ v, v ∈ vs → v.oneCell' = true := by
            intro v hv
            obtain ⟨j, hj⟩ := List.mem_iff_getElem?.1 hv
            have hjl : j < ds.length := by have := (List.getElem?_eq_some_iff.1 hj).1; omega
            obtain ⟨u, h5, h6, _⟩ := hval j ds[j] (by simp [hjl])
            rw [hj] at h5; cases h5; exact h6
          have hfill : Instr.fill (fun i => some (i * ie.size, ie.size)) ((Array.range (len * ie.size)).map (z.cells[· % z.cells.size]!)) (ps.toList.map fun (i, x) => (i, a.eval x)) = some vs.toArray := by
            have := fill_row (ps.toList.map fun (i, x) => (i, a.eval x)) 0 ((Array.range (len * ie.size)).map (z.cells[· % z.cells.size]!)) (fun j x hx => by
              simp only [List.getElem?_map, Option.map_eq_some_iff] at hx
              obtain ⟨⟨i, y⟩, hy, rfl⟩ := hx
              refine ⟨by have := hix j _ hy; simpa using this, hvone _ ?_⟩
              simp only [vs, sndL_eq, List.map_map]
              exact List.mem_map.2 ⟨(i, y), List.mem_of_getElem? hy, rfl⟩) (by simp [hies, hsz]; omega)
            rw [hies, hsz] at this ⊢
            rw [this]
            simp [vs, sndL_eq, Function.comp_def]
          have hrun : (execOp a.eval o).run C.P w = .ok (.value hv) (w.alloc (.cells vs.toArray e)) := by
            have := run_buildSlice (P := C.P) w T e len (ps.map fun (i, x) => (i, a.eval x)) vs.toArray ie z hu hie hz (by rw [hies, hsz]; omega) (by rw [hies, hsz]; omega) (by rw [Array.toList_map]; exact hfill)
            simp only [execOp, ho, Sem.run_bind, this, Result.andThen_ok]; rfl
          refine wp_value hrun (hn (updLoc α (16 * nm) L) _ _ ?_)
          have hheap : (w.alloc (.cells vs.toArray e)).heap = w.heap.push (.cells vs.toArray e) := rfl
          refine hs.upd _ (fun k hk => .inl hk) _ _ o.dst hd (.os (16 * nm)) _ _ hα (by rw [hheap]; simp) rfl rfl rfl ?_ ?_ ?_ ?_ ?_ ?_ (.os _ (.inr (fam_mk nm 0 (by omega))))
          · intro b hb _
            rw [hheap, Array.getElem?_push_lt hb]; simp [hb]
          · intro k e' hl
            rcases hlk k _ hl with ⟨rfl, _⟩ | ⟨_, h⟩
            · exact .inr (fam_mk nm 0 (by omega))
            · cases h
          · intro k e' hl hnil
            rcases hlk k _ hl with ⟨rfl, h⟩ | ⟨_, h⟩
            · rw [hLk]; exact .inl (Nat.le_refl _)
            · cases h
          · intro k e1 k' e2 hl hl' _ _ _
            rcases hlk k _ hl with ⟨rfl, _⟩ | ⟨_, h⟩ <;> rcases hlk k' _ hl' with ⟨rfl, _⟩ | ⟨_, h'⟩
            · rfl
            · cases h'
            · cases h
            · cases h
          · intro hw k e' hl
            rcases hlk k _ hl with ⟨rfl, h⟩ | ⟨_, h⟩
            · cases h
              refine ⟨Own.ofC (.inr ⟨by rw [hLk], vs.toArray, e, (0, 0), len, ?_⟩), fun x hx => by cases hx⟩
              rw [hLk]
              refine ⟨by rw [hheap]; simp [L], rfl, by simp [Ent.len]; omega, by simp [Ent.sz, L]; omega, ⟨Nat.le_refl _, fun o _ _ => by simp⟩, ?_, fun j m c hc => ?_, (fun sz xs T h => by cases h; simp [L, hv]; omega), rfl, fun U h => by cases h⟩
              · intro j x hx
                have := hone x (List.mem_of_getElem? hx)
                have h1 := one_cells this
                exact ⟨by rw [h1]; rfl, fun c hc => by rw [h1] at hc; simp at hc; subst hc; exact this⟩
              · simp only [Ent.cell, Option.bind_eq_some_iff, Option.map_eq_some_iff] at hc
                obtain ⟨d, hj, y, hy, rfl⟩ := hc
                have h1 := one_cells (hone d (List.mem_of_getElem? hj))
                rw [h1] at hy
                cases m with
                | succ m => simp at hy
                | zero =>
                  simp at hy; subst hy
                  obtain ⟨v, h5, h6, h7⟩ := hval j d hj
                  refine ⟨v, by simpa [L, Ent.sz] using h5, .d _ _ ?_⟩
                  have := h7 (fun b => XX (updLoc α (16 * nm) L) (S.upd o.dst (.os (16 * nm)) ((16 * nm, some (Ent.buf 1 ds)) :: us.map fun k => (k, none))).own X0 b ∧ b < w.heap.size) ?_ ?_
                  · refine this.mono fun b ob hb hnx => ?_
                    have hlt : b < w.heap.size := (Array.getElem?_eq_some_iff.1 hb).1
                    refine ⟨?_, fun hX => hnx ⟨hX, hlt⟩⟩
                    rw [hheap, Array.getElem?_push_lt hlt]; simpa [hlt] using hb
                  · rintro b ⟨⟨k, e', hk, hnil, rfl⟩ | hx, hlt⟩
                    · simp only [SS.upd] at hk
                      cases hl2 : look ((16 * nm, some (Ent.buf 1 ds)) :: us.map fun k => (k, none)) k with
                      | some oe =>
                        rcases hlk k oe hl2 with ⟨rfl, _⟩ | ⟨_, rfl⟩
                        · rw [hLk] at hlt; simp [L] at hlt
                        · rw [hl2] at hk; cases hk
                      | none =>
                        rw [hl2] at hk
                        have hpk := (hs.oko k e' hk).1
                        rw [hα k hpk] at hnil ⊢
                        exact .inl ⟨k, e', hk, hnil, rfl⟩
                    · exact .inr hx
                  · rintro k hk hnil ⟨⟨k', e', hk', hnil', hb⟩ | hx, _⟩
                    · obtain ⟨e0, he0⟩ := h3 k hk
                      have hSk := ho' k hk e0 he0
                      simp only [SS.upd] at hk'
                      cases hl2 : look ((16 * nm, some (Ent.buf 1 ds)) :: us.map fun k => (k, none)) k' with
                      | some oe =>
                        rcases hlk k' oe hl2 with ⟨rfl, _⟩ | ⟨_, rfl⟩
                        · rw [hLk] at hb
                          have := (hs.own k e0 hSk).lt hnil
                          simp [L] at hb; omega
                        · rw [hl2] at hk'; cases hk'
                      | none =>
                        rw [hl2] at hk'
                        have hpk := (hs.oko k' e' hk').1
                        rw [hα k' hpk] at hnil' hb
                        have := hs.inj k' e' k e0 hk' hSk hnil' hnil hb
                        subst this
                        have := hin k' hk
                        rw [hl2] at this; cases this
                    · obtain ⟨e0, he0⟩ := h3 k hk
                      exact (hs.mine k e0 (ho' k hk e0 he0) hnil).2 hx
            · cases h
          · intro hw
            have := RdA.os (w := w.alloc (.cells vs.toArray e)) (α := updLoc α (16 * nm) L) (X := XX (updLoc α (16 * nm) L) (S.upd o.dst (.os (16 * nm)) ((16 * nm, some (Ent.buf 1 ds)) :: us.map fun k => (k, none))).own X0) (16 * nm) (by rw [hLk]; rfl)
            rw [hLk] at this
            exact this
        · cases h
      · cases h
    · cases h
  · cases h

end
end Go.Eng

/-
  Growing a nil slice; cutting an own row and keeping it: their reckoning, and that it speaks true.
-/
namespace Go.Eng

structure ZrK (i : Int) (K : Nat → Prop) : Prop where
  out : ∃ m : Nat, i = (m : Int) ∧ 0 < m ∧ m ≤ 68719476736 ∧ K m
theorem zr_ok {i : Int} {K : Nat → Prop} (m : Nat) (h : i = (m : Int)) (h0 : 0 < m) (h1 : m ≤ 68719476736) (h2 : K m) : ZrK i K := ⟨m, h, h0, h1, h2⟩

/-- A cut of an own row: read as data from then on, or kept. -/
structure KeepK (A B : Prop) : Prop where
  out : A ∨ B
theorem keep_data {A B : Prop} (h : A) : KeepK A B := ⟨.inl h⟩
theorem keep_own {A B : Prop} (h : B) : KeepK A B := ⟨.inr h⟩

section
variable {C : Ctx} {n : Nat} {o : Oper} {nm : Nat} {st : AS} {K : KO}

/-! #### append of n zeros to nil -/

def appZK (C : Ctx) (nm : Nat) (T : TypeId) (s x : AV) (K : KO) : Prop :=
  lookK C.tab T fun ti => match ti.kd with
    | .slice e => lookK C.tab e fun te => match s with
      | .nl _ => intK x fun _ i => zdK te.zero fun z => match Nat.ble te.bytes 2048, te.agg, z with
        | true, true, z => (match Nat.beq z.length te.size, Nat.ble 1 te.size with | true, true => ZrK i fun m => K (.os (16 * nm)) [(16 * nm, some (.buf te.size (List.replicate m (.agg z)) (some e)))] [] | _, _ => False)
        | true, false, [d] => (match Nat.beq te.size 1 with | true => ZrK i fun m => K (.os (16 * nm)) [(16 * nm, some (.buf 1 (List.replicate m d) (some e)))] [] | false => False)
        | _, _, _ => False
      | _ => False
    | _ => False

theorem zc_get {z : Array Value} {m c q r sz : Nat} (hz : z.size = sz) (hq : q < m) (hr : r < sz) :
    (#[] ++ Builtin.zeroCells z m ++ Builtin.zeroCells z c)[q * sz + r]? = z[r]? := by
  have hlt : q * sz + r < m * sz := by
    have : (q + 1) * sz ≤ m * sz := Nat.mul_le_mul_right _ hq
    rw [Nat.add_mul] at this; omega
  rw [Array.getElem?_append_left (by simp [zeroCells_size, hz]; exact hlt)]
  simp [Builtin.zeroCells, hz, hlt]
  rw [Nat.mod_eq_of_lt hr]
  simp [show r < z.size by omega]

theorem appZ_out {c : Call} {s x : Operand} {T Tx : TypeId} {k0 : IntKind} (ho : o.op = .call c) (hc : c.callee = .builtin .append) (ha : c.args = #[s, x]) (hT : c.argTypes = #[T, Tx])
    (hux : C.P.underlying Tx = some (.int k0)) (h : evTK C st T s fun a => evK st x fun b => appZK C nm T a b K) : ∃ out upd rd, K out upd rd ∧ VOp C n o nm st rd out upd := by
  replace h := evTK_out h; obtain ⟨va, h1, h⟩ := h
  replace h := evK_out h; obtain ⟨vb, h2, h⟩ := h
  have hm1 : s ∈ o.op.operands := by rw [ho]; simp [Op.operands, Call.operands, hc, ha]
  have hm2 : x ∈ o.op.operands := by rw [ho]; simp [Op.operands, Call.operands, hc, ha]
  unfold appZK at h
  replace h := lookK_out h; obtain ⟨ti, hti, h⟩ := h
  split at h
  · rename_i e hk
    replace h := lookK_out h; obtain ⟨te, hte, h⟩ := h
    split at h
    · rename_i sz0
      unfold intK at h
      split at h
      · rename_i k1 i
        replace h := zdK_out h; obtain ⟨z, h, hzl, hzo, hzr⟩ := h
        have hu := und_slice (C.ty hti) hk
        obtain ⟨⟨ie, hie, hies, hieb, zv, hz, hzz⟩, _⟩ := C.ty hte
        have fin : te.bytes ≤ 2048 → ∀ (x' : D), x'.cells = z → z.length = te.size → 1 ≤ te.size → ZrK i (fun m => K (.os (16 * nm)) [(16 * nm, some (.buf te.size (List.replicate m x') (some e)))] []) → ∃ out upd rd, K out upd rd ∧ VOp C n o nm st rd out upd := by
          rintro hby x' hx hzn hpos ⟨m, rfl, h0, hle, hK⟩
          have hzsz : zv.cells.size = te.size := by have := (zl_get hzz).1; simp at this; omega
          refine ⟨_, _, _, hK, VOp.make (e := .buf te.size (List.replicate m x') (some e)) (kills := []) (fun _ hk => by cases hk) (.inl rfl) fun X0 F w0 p α S a w hs he _ => ?_⟩
          have hr := (h1.to hm1 he).read hs
          generalize hv : a.eval s = sv at hr
          cases hr
          have hl' := ((h2.to hm2 he).read hs).dinv.iinv
          have hwx : x'.wd te.size := ⟨by rw [hx]; exact hzn, by rw [hx]; exact hzo⟩
          have hfit : Builtin.nextslicecap (0 + m) 0 * ie.bytes ≤ 281474976710656 := by
            have h3 := Room.nextslicecap_le' (need := 0 + m) (old := 0) (by omega)
            rw [hieb]
            calc _ ≤ (2 * 68719476736) * 2048 := Nat.mul_le_mul (by omega) hby
              _ = 281474976710656 := by decide
          have h48 : m * ie.bytes ≤ 281474976710656 := by
            rw [hieb]
            calc _ ≤ (2 * 68719476736) * 2048 := Nat.mul_le_mul (by omega) hby
              _ = 281474976710656 := by decide
          have hrun := Lib.run_append_grow_zeros (P := C.P) w T Tx o.type e ie zv k1 k0 hu hux hie hz none 0 0 [] (run_firstCells_none _ _ _ _ _) m h0 (by omega) (by omega) (by omega) h48 hfit
          have hcap : m ≤ grownCap w (0 + m) 0 e := by simp [grownCap, Question.cut]
          generalize hcc : grownCap w (0 + m) 0 e = cc at hrun hcap
          simp only [Nat.zero_add] at hrun
          refine ⟨w.drew.alloc (.cells (#[] ++ Builtin.zeroCells zv.cells m ++ Builtin.zeroCells zv.cells (cc - m)) e), .slice (some ⟨w.heap.size, 0, none⟩) m cc, #[] ++ Builtin.zeroCells zv.cells m ++ Builtin.zeroCells zv.cells (cc - m), e, (0, 0), cc, ⟨rfl, rfl, rfl, rfl, by simp [Ent.len, hcap], ?_, ⟨Nat.le_refl _, fun o _ => by simp⟩, ?_, fun q r c hc => ?_, (fun x hx => by cases hx), ?_, rfl, fun V hV => ?_⟩, append_run ho hc ha hT (by rw [hv, hl']; simpa using hrun)⟩
          · simp only [Ent.sz, Array.size_append, zeroCells_size, hzsz]
            simp only [List.size_toArray, List.length_nil, Nat.zero_add]
            rw [← Nat.add_mul]; exact Nat.mul_le_mul_right _ (by omega)
          · intro q y hy
            rw [List.getElem?_replicate] at hy
            split at hy
            · cases hy; exact hwx
            · cases hy
          · simp only [Ent.cell, Option.bind_eq_some_iff, Option.map_eq_some_iff] at hc
            obtain ⟨y, hy, d, hd, rfl⟩ := hc
            rw [List.getElem?_replicate] at hy
            split at hy
            · cases hy
              rename_i hq
              rw [hx] at hd
              have hr : r < te.size := by rw [← hzn]; exact (List.getElem?_eq_some_iff.1 hd).1
              refine ⟨zv.cells[r]'(by omega), ?_, .d _ _ ?_⟩
              · simp only [Ent.sz]
                rw [zc_get hzsz hq hr]
                simp [show r < zv.cells.size by omega]
              · refine hzr w α _ r d ((te.zero)[r]'(by rw [← hzl]; omega)) _ hd (by simp) ?_
                have := (zl_alike (w := w) (α := α) (X := XX α S.own X0) hzz).2 r ((te.zero)[r]'(by rw [← hzl]; omega)) (zv.cells[r]'(by omega)) (by simp) (by simp)
                exact this
            · cases hy
          · intro sz xs V hV; cases hV; simp
          · cases hV; exact ⟨rfl, fun cs V h => by cases h⟩
        split at h
        · rename_i hby hagg
          split at h
          · rename_i hb1 hb2
            exact fin (Nat.le_of_ble_eq_true hby) (.agg _) rfl (Nat.eq_of_beq_eq_true hb1) (Nat.le_of_ble_eq_true hb2) h
          · cases h
        · rename_i zl' d hby hagg
          split at h
          · rename_i hb
            have hb := Nat.eq_of_beq_eq_true hb
            rw [← hb] at h
            refine fin (Nat.le_of_ble_eq_true hby) d (one_cells (hzo d (by simp))) (by simp [hb]) (by omega) ?_
            simpa [hb] using h
          · cases h
        · cases h
      · cases h
    · cases h
  · cases h

/-! #### Cuts -/

def sliceVK (C : Ctx) (nm : Nat) (st : AS) (T : TypeId) (a : AV) (lo hi : Option Int) (K : KO) : Prop :=
  match a with
  | .nl sz => lookK C.tab T fun ti => match ti.kd, lo, hi with
    | .slice e, none, some i => lookK C.tab e fun _ => BndK i 0 fun _ => K (.nl sz) [] []
    | _, _, _ => False
  | .os k => lookK C.tab T fun ti => match ti.kd, lo, hi with
    | .slice e, none, some i => ownK st k fun en => lookK C.tab e fun te => (match en with
      | .buf sz xs T0 => (match Nat.beq te.size sz with
        | true => BndK i xs.length fun j => KeepK (K (.d (.sl sz (xs.take j))) [(k, none)] [k]) (K (.os (16 * nm)) [(16 * nm, some (.buf sz (xs.take j) T0)), (k, none)] [k])
        | false => False)
      | _ => False)
    | _, _, _ => sliceK C st T a lo hi K
  | _ => sliceK C st T a lo hi K

theorem ovK_bind {st : AS} {x : Option Operand} {K : Option Int → Prop} (h : ovK st x K) : ∃ i, (∀ K' : Option Int → Prop, K' i → ovK st x K') ∧ K i := by
  cases x with
  | none => exact ⟨none, fun _ h => h, h⟩
  | some x =>
    obtain ⟨a, hb, h⟩ := evK_bind h
    unfold intK at h
    split at h
    · rename_i k i
      exact ⟨some i, fun K' h => hb (fun a => intK a fun _ i => K' (some i)) h, h⟩
    · cases h

theorem lookK_of {β : Type} {l : List (Nat × β)} {x : Nat} {v : β} {K : β → Prop} (h : look l x = some v) (hK : K v) : lookK l x K := by
  induction l with
  | nil => simp [look] at h
  | cons y r ih =>
    obtain ⟨y, u⟩ := y
    simp only [look] at h
    simp only [lookK]
    cases hb : Nat.beq x y with
    | true => simp only [hb] at h ⊢; cases h; exact hK
    | false => simp only [hb] at h ⊢; exact ih h

theorem ownK_of {st : AS} {k : Nat} {e : Ent} {K : Ent → Prop} (h : st.ss.own k = some e) (hK : K e) : ownK st k K := by
  simp only [AS.ss] at h
  split at h
  · rename_i oe ho; subst h; exact lookK_of ho hK
  · cases h

theorem sliceV_out {T : TypeId} {x : Operand} {lo hi : Option Operand} (ho : o.op = .slice T x lo hi none)
    (h : evK st x fun a => ovK st lo fun l => ovK st hi fun r => sliceVK C nm st T a l r K) : ∃ out upd rd, K out upd rd ∧ VOp C n o nm st rd out upd := by
  replace h := evK_bind h; obtain ⟨va, hb, h⟩ := h
  have hold : (ovK st lo fun l => ovK st hi fun r => sliceK C st T va l r K) → ∃ out upd rd, K out upd rd ∧ VOp C n o nm st rd out upd := fun h => slice_out ho (hb _ h)
  have hh := evK_out (hb (fun a => a = va ∧ ovK st lo fun l => ovK st hi fun r => sliceVK C nm st T a l r K) ⟨rfl, h⟩)
  clear h
  obtain ⟨va', h1, rfl, h⟩ := hh
  have hm1 : x ∈ o.op.operands := by rw [ho]; simp [Op.operands]
  have hm2 : ∀ y, lo = some y → y ∈ o.op.operands := by intro y hy; rw [ho, hy]; simp [Op.operands]
  have hm3 : ∀ y, hi = some y → y ∈ o.op.operands := by intro y hy; rw [ho, hy]; simp [Op.operands]
  have run : ∀ (a : Act) (w : World) (v : Value), (Instr.sliceAt T (a.eval x) (lo.map a.eval) (hi.map a.eval) none).run C.P w = .ok v w → (execOp a.eval o).run C.P w = .ok (.value v) w := by
    intro a w v hv
    simp [execOp, ho, hv]
  unfold sliceVK at h
  split at h
  · rename_i sz
    replace h := ovK_out h; obtain ⟨vl, h2, h⟩ := h
    replace h := ovK_out h; obtain ⟨vh, h3, h⟩ := h
    replace h := lookK_out h; obtain ⟨ti, hti, h⟩ := h
    split at h
    · rename_i e i hk
      replace h := lookK_out h; obtain ⟨te, hte, h⟩ := h
      obtain ⟨j, rfl, hj, h⟩ := h
      obtain rfl : j = 0 := by omega
      refine ⟨_, _, _, h, VOp.pure fun X0 F w0 p α S a w hs he _ => ?_⟩
      have hr := (h1.to hm1 he).read hs
      generalize hv : a.eval x = v at hr
      cases hr
      have hl := ov_bv hs h2 (fun t e => he t (hm2 _ e)) (d := 0) (.inl ⟨rfl, rfl⟩)
      have hh := ov_bv hs h3 (fun t e => he t (hm3 _ e)) (d := 0) (.inr rfl)
      refine ⟨_, run a w (.slice none 0 0) ?_, .nl _, .nl _⟩
      rw [hv]
      have := run_slice_slice (w := w) (C.ty hti) hk (C.ty hte) none hl hh (Nat.le_refl _) (Nat.le_refl 0)
      simpa using this
    · cases h
  · rename_i k
    replace h := ovK_bind h; obtain ⟨vl, hbl, h⟩ := h
    replace h := ovK_bind h; obtain ⟨vh, hbh, h⟩ := h
    obtain ⟨l', h2, rfl⟩ := ovK_out (hbl (fun l => l = vl) rfl)
    obtain ⟨r', h3, rfl⟩ := ovK_out (hbh (fun l => l = vh) rfl)
    replace h := lookK_out h; obtain ⟨ti, hti, h⟩ := h
    split at h
    · rename_i e i hk
      replace h := ownK_out h; obtain ⟨en, hen, h⟩ := h
      replace h := lookK_out h; obtain ⟨te, hte, h⟩ := h
      split at h
      · rename_i sz xs T0
        split at h
        · rename_i hsz
          have hsz := Nat.eq_of_beq_eq_true hsz
          obtain ⟨j, rfl, hj, h⟩ := h
          rcases h with ⟨h | h⟩
          · refine hold (hbl _ (hbh _ ?_))
            unfold sliceK
            refine lookK_of hti ?_
            simp only [hk]
            refine ownK_of hen (lookK_of hte ?_)
            simp only [hsz, Nat.beq_refl]
            exact ⟨j, rfl, hj, h⟩
          · refine ⟨_, _, _, h, fun q oe hl => ?_, fun X0 F w0 p α S a w Q next hs he ho' hp hd hn => ?_⟩
            · simp only [look] at hl
              split at hl
              · rename_i hb; rw [Nat.eq_of_beq_eq_true hb]; exact .inr (fam_mk nm 0 (by omega))
              · split at hl
                · rename_i hb; rw [Nat.eq_of_beq_eq_true hb]; exact .inl List.mem_cons_self
                · cases hl
            have hSk := ho' k (by simp) _ hen
            have hr := (h1.to hm1 he).read hs
            generalize hx : a.eval x = v at hr
            cases hr
            have hl := ov_bv hs h2 (fun t e => he t (hm2 _ e)) (d := 0) (.inl ⟨rfl, rfl⟩)
            have hh := ov_bv hs h3 (fun t e => he t (hm3 _ e)) (d := xs.length) (j := j) (.inr rfl)
            rcases hs.own k _ hSk with ⟨hnil, ⟨sz', _, hen'⟩, hv⟩ | ⟨hnil, arr, U, fz, cap, hB⟩
            · cases hen'
              obtain rfl : j = 0 := by simpa using hj
              obtain ⟨α', h⟩ := hs.nilrow hp sz T0 [k] o.dst hd
              rw [hv] at hx
              refine wp_value (run a w (.slice none 0 0) ?_) (hn α' _ w (by simpa [makeUpd] using h))
              rw [hx]
              have := run_slice_slice (w := w) (C.ty hti) hk (C.ty hte) none hl hh (Nat.le_refl _) (Nat.le_refl 0)
              simpa using this
            · have hhv := hB.hv sz xs _ rfl
              rw [hhv] at hx
              have hcl := hB.len
              simp only [Ent.len] at hcl
              have hW : Wrote w w α (XX α S.own X0) p (α k) (.buf sz (xs.take j) T0) (.slice (some ⟨(α k).blk, (α k).off, none⟩) j cap) arr U fz cap := by
                refine ⟨hB.heap, fun _ _ => rfl, rfl, rfl, rfl, rfl, hB.hsz, ?_, hB.bnd, hB.nf, ?_, ?_, (fun x hx => by cases hx), ?_, rfl, fun V h => ⟨(hB.ty V h).1, (hB.ty V h).2.1, fun cs V h => by cases h⟩⟩
                · simp only [Ent.len, List.length_take]; omega
                · intro q x hq
                  rw [List.getElem?_take] at hq
                  split at hq
                  · exact hB.wid q x hq
                  · cases hq
                · intro q m c hc
                  simp only [Ent.cell, Option.bind_eq_some_iff, Option.map_eq_some_iff] at hc
                  obtain ⟨x, hq, y, hy, rfl⟩ := hc
                  rw [List.getElem?_take] at hq
                  split at hq
                  · exact hB.rd q m _ (cell_d (e := .buf sz xs T0) rfl hq hy)
                  · cases hq
                · intro sz' xs' _ h; cases h
                  rw [List.length_take, Nat.min_eq_left hj]
              obtain ⟨α', h⟩ := hs.write hp false hSk hnil hW (fun h => by cases h) o.dst hd (.os (16 * nm)) (.slice (some ⟨(α k).blk, (α k).off, none⟩) j cap) (.inr ⟨rfl, rfl⟩) (.inr rfl)
              refine wp_value (run a w (.slice (some ⟨(α k).blk, (α k).off, none⟩) j cap) ?_) (hn α' _ w h)
              rw [hx]
              have := run_slice_slice (w := w) (C.ty hti) hk (C.ty hte) (some ⟨(α k).blk, (α k).off, none⟩) (cap := cap) hl hh (Nat.zero_le j) (by omega)
              have h0 : (⟨(α k).blk, (α k).off, none⟩ : Addr).add (0 * te.size) = ⟨(α k).blk, (α k).off, none⟩ := by simp [Addr.add]
              simp only [Option.map_some, h0, Nat.sub_zero, ite_self] at this
              exact this
        · cases h
      · cases h
    · exact hold (hbl _ (hbh _ h))
  · exact hold h

/-! #### The capacity of a nil slice -/

def capK (a : AV) (K : KO) : Prop := match a with | .nl _ => K (.d (.i .i64 0)) [] [] | _ => False

theorem cap_out {c : Call} {x : Operand} {T e : TypeId} (ho : o.op = .call c) (hc : c.callee = .builtin .cap) (ha : c.args = #[x]) (hT : c.argTypes = #[T]) (hu : C.P.underlying T = some (.slice e))
    (h : evK st x fun a => capK a K) : ∃ out upd rd, K out upd rd ∧ VOp C n o nm st rd out upd := by
  replace h := evK_out h; obtain ⟨va, h1, h⟩ := h
  have hmem : x ∈ o.op.operands := by rw [ho]; simp [Op.operands, Call.operands, hc, ha]
  unfold capK at h
  split at h
  · refine ⟨_, _, _, h, VOp.pure fun X0 F w0 p α S a w hs he _ => ?_⟩
    have hx := (h1.to hmem he).read hs
    generalize hv : a.eval x = v at hx
    cases hx
    exact ⟨_, by simp [execOp, ho, resolve, hc, ha, hT, invoke, builtin, hv, Builtin.cap_, underlying, hu, goInt], .d _ _ (.i _ _), .d _⟩
  · cases h

/-! #### A slice converted to a type of the same elements -/

def slslK (C : Ctx) (nm : Nat) (st : AS) (S T : TypeId) (a : AV) (K : KO) : Prop :=
  lookK C.tab T fun ti => match ti.kd with
    | .slice e => lookK C.tab e fun te => match Nat.beq S T, te.kd, a with
      | true, .int .u8, .os k => ownK st k fun en => (match en with
        | .buf sz (x :: xs) (some U) => K (.os (16 * nm)) [(16 * nm, some (.buf sz (x :: xs) (some U))), (k, none)] [k]
        | _ => False)
      | _, _, _ => False
    | _ => False

theorem freeze_cells {w : World} {b : Nat} {arr : Array Value} {U : TypeId} {fz : Nat × Nat} (h : w.heap[b]? = some (.cells arr U fz)) (j : Nat) :
    (w.freeze ⟨b, j, none⟩ 1).heap[b]? = some (.cells arr U (if fz.1 == fz.2 then (j, j + 1) else (min fz.1 j, max fz.2 (j + 1)))) := by
  obtain ⟨lo, hi⟩ := fz
  unfold World.freeze
  rw [if_neg (by decide)]
  simp only [Array.getElem?_modify, h]
  simp

theorem slsl_out {S T : TypeId} {x : Operand} (ho : o.op = .convert S T x) (h : evK st x fun a => slslK C nm st S T a K) :
    ∃ out upd rd, K out upd rd ∧ VOp C n o nm st rd out upd := by
  replace h := evK_out h; obtain ⟨va, h1, h⟩ := h
  have hm : x ∈ o.op.operands := by rw [ho]; simp [Op.operands]
  unfold slslK at h
  replace h := lookK_out h; obtain ⟨ti, hti, h⟩ := h
  split at h
  · rename_i e hk
    replace h := lookK_out h; obtain ⟨te, hte, h⟩ := h
    split at h
    · rename_i k hST hk8
      obtain rfl := Nat.eq_of_beq_eq_true hST
      have hu := und_slice (C.ty hti) hk
      have hue := und_int (C.ty hte) hk8
      replace h := ownK_out h; obtain ⟨en, hen, h⟩ := h
      split at h
      · rename_i sz y xs U
        refine ⟨_, _, _, h, fun q oe hl => ?_, fun X0 F w0 p α S a w Q next hs he ho' hp hd hn => ?_⟩
        · simp only [look] at hl
          split at hl
          · rename_i hb; rw [Nat.eq_of_beq_eq_true hb]; exact .inr (fam_mk nm 0 (by omega))
          · split at hl
            · rename_i hb; rw [Nat.eq_of_beq_eq_true hb]; exact .inl List.mem_cons_self
            · cases hl
        have hSk := ho' k (by simp) _ hen
        have hr := (h1.to hm he).read hs
        generalize hx : a.eval x = v at hr
        cases hr
        rcases hs.own k _ hSk with ⟨hnil, ⟨sz', _, hen'⟩, hv⟩ | ⟨hnil, arr, U', fz, cap, hB⟩
        · cases hen'
        · have hhv := hB.hv sz (y :: xs) _ rfl
          obtain ⟨rfl, hoff, _⟩ := hB.ty U rfl
          have hbd := hB.bnd
          simp only [Ent.sz, hoff] at hbd
          obtain ⟨f1, f2, f3, f4, f5⟩ := freeze_heap w ⟨(α k).blk, arr.size, none⟩ 1
          have hfz := freeze_cells hB.heap arr.size
          have hW : Wrote w (w.freeze ⟨(α k).blk, arr.size, none⟩ 1) α (XX α S.own X0) p (α k) (.buf sz (y :: xs) (some U')) (α k).hv arr U' (if fz.1 == fz.2 then (arr.size, arr.size + 1) else (min fz.1 arr.size, max fz.2 (arr.size + 1))) cap := by
            obtain ⟨hle, hnf⟩ := hB.nf
            refine ⟨hfz, f5, f4, f1, f2, f3, hB.hsz, hB.len, hB.bnd, ?_, hB.wid, hB.rd, (fun x hx => by cases hx), hB.hv, hB.hone, fun V h => hB.ty V h⟩
            rw [hoff] at hnf ⊢
            simp only [Ent.sz] at hnf ⊢
            by_cases hlo : fz.1 = fz.2
            · rw [if_pos (by simpa using hlo)]
              exact ⟨Nat.le_succ _, fun o _ h2 => by simp only; omega⟩
            · rw [if_neg (by simpa using hlo)]
              have : 0 + cap * sz ≤ fz.1 := by
                rcases Nat.lt_or_ge fz.1 (0 + cap * sz) with h | h
                · exact absurd ⟨Nat.le_refl _, by omega⟩ (hnf fz.1 (Nat.zero_le _) h)
                · exact h
              exact ⟨by simp only; omega, fun o _ h2 => by simp only; omega⟩
          obtain ⟨α', h⟩ := hs.write hp false hSk hnil hW (fun h => by cases h) o.dst hd (.os (16 * nm)) (α k).hv (.inr ⟨rfl, rfl⟩) (.inr rfl)
          refine wp_value ?_ (hn α' _ _ h)
          rw [hhv]
          have hsh : w.shape? (α k).blk = some (U', arr.size) := by simp [World.shape?, hB.heap]
          simp [execOp, ho, hx, hhv, convert, underlying, hu, hue, markStringish, hsh]
      · cases h
    · cases h
  · cases h

end
end Go.Eng

