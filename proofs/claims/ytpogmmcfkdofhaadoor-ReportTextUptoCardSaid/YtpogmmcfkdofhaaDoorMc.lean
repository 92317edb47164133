import Derived.Test.YtpogmmcfkdofhaaDoorMb
import Derived.Defers
import Derived.Lib.UnsafeStr
import Derived.Lib.Builder
import Derived.Deep.LoopGhost
/-
  Append as an operation; calls of functions that have a contract: their reckoning, and that it speaks true.
-/
namespace Go.Eng
open Go.RowKit (Below)

section
variable {C : Ctx} {n : Nat} {o : Oper} {nm : Nat} {st : AS} {K : KO}

/-- The type of a row that was appended to. -/
def appTy (T0 : Option TypeId) (e : TypeId) : Option TypeId := match T0 with | some t => (match Nat.beq t e with | true => some e | false => none) | none => none
theorem appTy_ok (T0 : Option TypeId) (e : TypeId) : ∀ U, appTy T0 e = some U → U = e ∧ T0 = some U := by
  intro U h
  unfold appTy at h
  split at h
  · split at h
    · rename_i hb; cases h; exact ⟨rfl, by rw [Nat.eq_of_beq_eq_true hb]⟩
    · cases h
  · cases h

def appendK (C : Ctx) (st : AS) (nm : Nat) (T Tx : TypeId) (s x : AV) (K : KO) : Prop :=
  lookK C.tab T fun ti => match ti.kd with
    | .slice e => lookK C.tab e fun te => match Nat.ble te.bytes 2048, Nat.beq te.zero.length te.size with
      | true, true => srcK C st te.size Tx x fun ys us => match s with
        | .nl _ => AppK ys.length (K (.os (16 * nm)) [(16 * nm, some (.buf te.size ys (some e)))] us)
        | .os k => ownK st k fun en => match en with
          | .buf sz xs T0 => match Nat.beq sz te.size with
            | true => AppK (xs.length + ys.length) (K (.os (16 * nm)) [(16 * nm, some (.buf te.size (xs ++ ys) (appTy T0 e))), (k, none)] (k :: us))
            | false => False
          | _ => False
        | _ => False
      | _, _ => False
    | _ => False

theorem append_run {c : Call} {s x : Operand} {T Tx : TypeId} (ho : o.op = .call c) (hc : c.callee = .builtin .append) (ha : c.args = #[s, x]) (hT : c.argTypes = #[T, Tx]) {P : Program} {a : Act} {w w' : World} {v : Value}
    (h : (Builtin.append_ #[T, Tx] o.type #[a.eval s, a.eval x]).run P w = .ok v w') : (execOp a.eval o).run P w = .ok (.value v) w' := by
  simp [execOp, ho, resolve, hc, ha, hT, invoke, builtin, h]

theorem append_out {c : Call} {s x : Operand} {T Tx : TypeId} (ho : o.op = .call c) (hc : c.callee = .builtin .append) (ha : c.args = #[s, x]) (hT : c.argTypes = #[T, Tx])
    (h : evTK C st T s fun a => evTK C st Tx x fun b => appendK C st nm T Tx a b K) : ∃ out upd rd, K out upd rd ∧ VOp C n o nm st rd out upd := by
  replace h := evTK_out h; obtain ⟨sa, h1, h⟩ := h
  replace h := evTK_out h; obtain ⟨xa, h2, h⟩ := h
  have hm1 : s ∈ o.op.operands := by rw [ho]; simp [Op.operands, Call.operands, hc, ha]
  have hm2 : x ∈ o.op.operands := by rw [ho]; simp [Op.operands, Call.operands, hc, ha]
  unfold appendK at h
  replace h := lookK_out h; obtain ⟨ti, hti, h⟩ := h
  split at h
  · rename_i e hk
    have hu := und_slice (C.ty hti) hk
    replace h := lookK_out h; obtain ⟨te, hte, h⟩ := h
    split at h
    · rename_i hby hz
      have hby := Nat.le_of_ble_eq_true hby
      have hz := Nat.eq_of_beq_eq_true hz
      replace h := srcK_out h; obtain ⟨ys, us, h, hsrc⟩ := h
      split at h
      · rename_i sz0
        obtain ⟨hle, h⟩ := h
        refine ⟨_, _, _, h, fun k oe hl => ?_, fun X0 F w0 p α S a w Q next hs he ho' hp hd hn => ?_⟩
        · simp only [look] at hl
          split at hl
          · rename_i hb; rw [Nat.eq_of_beq_eq_true hb]; exact .inr (fam_mk nm 0 (by omega))
          · cases hl
        have hr := (h1.to hm1 he).read hs
        generalize hv : a.eval s = sv at hr
        cases hr
        obtain ⟨nw, hso⟩ := hsrc hs ho' _ ((h2.to hm2 he).read hs)
        by_cases hy : ys.length = 0
        · have hys : ys = [] := List.eq_nil_of_length_eq_zero hy
          subst hys
          have hn0 : nw = [] := List.eq_nil_of_length_eq_zero (by have := hso.src.newsLen; simpa using this)
          subst hn0
          obtain ⟨⟨i, hi, his, _⟩, _⟩ := C.ty hte
          have hrun : (Builtin.append_ #[T, Tx] o.type #[.slice none 0 0, a.eval x]).run C.P w = .ok (.slice none 0 0) w := by
            have hcc := hso.src.cells
            rcases hso.src.kind with ⟨e', hk⟩ | hk <;> simp [Builtin.append_, run_underlying hu, run_underlying hk, sizeOf, typeInfo, hi, his, hso.src.len]
            all_goals (first | simpa using hcc | (simp at hcc; simp [hcc]))
          obtain ⟨α', hS⟩ := hs.nilrow hp te.size (some e) [] o.dst hd
          exact wp_value (append_run ho hc ha hT (by rw [hv]; exact hrun)) (hn α' _ w hS)
        · obtain ⟨w', hv', arr, cap, hM, hrun⟩ := app_grow (α := α) (p := p) (T1 := some e) (ty := o.type) (xs := []) (base := none) (sCap := 0) (ol := []) hu (C.ty hte) hz hby hso (run_firstCells_none _ _ _ _ _) (by simp) (fun j x hx => by simp at hx) (fun j m x c hx => by simp at hx)
            (fun U h => (Option.some.inj h).symm) (by simp; omega) (by simpa using hle)
          obtain ⟨α', hS⟩ := hs.make hp hM [] o.dst hd (.os (16 * nm)) (.inl rfl)
          exact wp_value (append_run ho hc ha hT (by rw [hv]; exact hrun)) (hn α' _ w' hS)
      · rename_i k
        replace h := ownK_out h; obtain ⟨en, hen, h⟩ := h
        split at h
        · rename_i sz xs T0
          split at h
          · rename_i hsz
            obtain rfl := Nat.eq_of_beq_eq_true hsz
            obtain ⟨hle, h⟩ := h
            refine ⟨_, _, _, h, fun j oe hl => ?_, fun X0 F w0 p α S a w Q next hs he ho' hp hd hn => ?_⟩
            · simp only [look] at hl
              split at hl
              · rename_i hb; rw [Nat.eq_of_beq_eq_true hb]; exact .inr (fam_mk nm 0 (by omega))
              · split at hl
                · rename_i hb; rw [Nat.eq_of_beq_eq_true hb]; exact .inl List.mem_cons_self
                · cases hl
            have hr := (h1.to hm1 he).read hs
            generalize hv : a.eval s = sv at hr
            cases hr
            obtain ⟨nw, hso⟩ := hsrc hs (fun k hk => ho' k (List.mem_cons_of_mem _ hk)) _ ((h2.to hm2 he).read hs)
            obtain ⟨α', v', w', hrun, hS⟩ := app_own (ty := o.type) hs hp hu (C.ty hte) hz hby (appTy_ok T0 e) (ho' k List.mem_cons_self _ hen) hso hle o.dst hd
            exact wp_value (append_run ho hc ha hT (by rw [hv]; exact hrun)) (hn α' _ w' hS)
          · cases h
        · cases h
      · cases h
    · cases h
  · cases h

/-! #### Calls -/

def retAV (rs : List D) : AV := match rs with | [r] => .d r | rs => .tup (rs.map .d)

/-- THE CONTRACT OF A FUNCTION: called with values that read as ds it returns values that read as rs; whatever there was stays as it was. -/
def Does (C : Ctx) (f : FuncId) (ds rs : List D) : Prop :=
  (∃ fn, C.P.funcs[f]? = some fn ∧ (fn.name == "runtime.NumGoroutine") = false ∧ fn.body.isNone = false) ∧
  ∀ (w : World) (X : Nat → Prop) (vs : Array Value), (∀ b, X b → b < w.heap.size) → (∀ x, x ∈ C.G → x.g < w.heap.size ∧ ¬ X x.g ∧ GlobAt w X x) → ds.length = vs.size →
    (∀ (j : Nat) (d : D) (v : Value), ds[j]? = some d → vs[j]? = some v → Rd w X d v) →
    Calls C.P f vs w fun e w' => ∃ v, e = .returned v ∧ RdA w' (fun _ => ⟨0, 0, 0, false, .bool false⟩) X (retAV rs) v ∧ Below w.heap.size w w'

def D.flat0 : D → Bool
  | .sl _ _ => false
  | .agg _ => false
  | _ => true

def D.flat : D → Bool
  | .sl _ _ => false
  | .agg cs => cs.all D.flat0
  | _ => true

theorem Rd.flat0 {w w' : World} {X X' : Nat → Prop} {d : D} {v : Value} (h : Rd w X d v) (hf : d.flat0 = true) : Rd w' X' d v := by
  cases h with
  | b t => exact .b t
  | i k n => exact .i k n
  | s l => exact .s l
  | x v => exact .x v
  | agg => simp [D.flat0] at hf
  | slnil => simp [D.flat0] at hf
  | sle => simp [D.flat0] at hf
  | sl => simp [D.flat0] at hf

theorem Rd.flat {w w' : World} {X X' : Nat → Prop} {d : D} {v : Value} (h : Rd w X d v) (hf : d.flat = true) : Rd w' X' d v := by
  cases h with
  | b t => exact .b t
  | i k n => exact .i k n
  | s l => exact .s l
  | x v => exact .x v
  | agg cs vs hl hc => exact .agg cs vs hl fun j c v h1 h2 => (hc j c v h1 h2).flat0 (List.all_eq_true.1 hf c (List.mem_of_getElem? h1))
  | slnil => simp [D.flat] at hf
  | sle => simp [D.flat] at hf
  | sl => simp [D.flat] at hf

theorem retAV_inv {w : World} {α : Nat → Loc} {X : Nat → Prop} {rs : List D} {v : Value} (h : RdA w α X (retAV rs) v) {w' : World} {α' : Nat → Loc} {X' : Nat → Prop} (ht : ∀ d u, d ∈ rs → Rd w X d u → Rd w' X' d u) : RdA w' α' X' (retAV rs) v := by
  unfold retAV at *
  split at h
  · exact .d _ _ (ht _ _ (by simp) h.dinv)
  · cases h with
    | tup _ vs hl hc =>
      refine .tup _ vs hl fun j c u h1 h2 => ?_
      have h3 := hc j c u h1 h2
      simp only [List.getElem?_map, Option.map_eq_some_iff] at h1
      obtain ⟨d, h4, rfl⟩ := h1
      exact .d _ _ (ht _ _ (List.mem_of_getElem? h4) h3.dinv)

theorem retAV_ok {p : Nat → Prop} {rs : List D} : (retAV rs).ok p := by
  unfold retAV
  split
  · exact .d _
  · refine .tup _ fun c hc => ?_
    obtain ⟨d, _, rfl⟩ := List.mem_map.1 hc
    exact .d d

def argsK (st : AS) : List AV → (List D → List Nat → Prop) → Prop
  | [], K => K [] []
  | a :: l, K => toDK st a fun d us => argsK st l fun ds vs => match us with | [] => K (d :: ds) vs | us => K (d :: ds) (us ++ vs)

theorem argsK_out {st : AS} {l : List AV} {K : List D → List Nat → Prop} (h : argsK st l K) :
    ∃ ds us, K ds us ∧ ds.length = l.length ∧ (∀ k, k ∈ us → ∃ e, st.ss.own k = some e) ∧ ∀ (j : Nat) (a : AV) (d : D), l[j]? = some a → ds[j]? = some d → ∃ vs, ToD st a d vs ∧ ∀ k, k ∈ vs → k ∈ us := by
  induction l generalizing K with
  | nil => exact ⟨[], [], h, rfl, (fun k hk => by cases hk), fun j a d hj => by simp at hj⟩
  | cons a l ih =>
    obtain ⟨d, us, h, h1⟩ := toDK_out h
    obtain ⟨ds, vs, h, h2, h3, h4⟩ := ih h
    have fin : ∀ ws, (∀ k, k ∈ ws ↔ k ∈ us ∨ k ∈ vs) → K (d :: ds) ws → ∃ ds us, K ds us ∧ ds.length = (a :: l).length ∧ (∀ k, k ∈ us → ∃ e, st.ss.own k = some e) ∧
        ∀ (j : Nat) (b : AV) (d : D), (a :: l)[j]? = some b → ds[j]? = some d → ∃ vs, ToD st b d vs ∧ ∀ k, k ∈ vs → k ∈ us := by
      intro ws hws hk
      refine ⟨_, _, hk, by simp [h2], fun k hk => ?_, fun j b d' hj hd => ?_⟩
      · rcases (hws k).1 hk with h | h
        · exact h1.ent k h
        · exact h3 k h
      · cases j with
        | zero => simp at hj hd; subst hj hd; exact ⟨us, h1, fun k hk => (hws k).2 (.inl hk)⟩
        | succ j =>
          obtain ⟨vs', h5, h6⟩ := h4 j b d' (by simpa using hj) (by simpa using hd)
          exact ⟨vs', h5, fun k hk => (hws k).2 (.inr (h6 k hk))⟩
    split at h
    · exact fin vs (fun k => by simp) h
    · exact fin _ (fun k => by simp) h

def killsK (us : List Nat) (K : List (Nat × Option Ent) → Prop) : Prop := K (us.map fun k => (k, none))

def retK (rs : List D) (us : List Nat) (K : KO) : Prop :=
  match us with
  | [] => match rs with | [r] => K (.d r) [] [] | rs => K (retAV rs) [] []
  | us => match rs with
    | [r] => match r.flat with | true => K (.d r) [] us | false => K (.d r) (us.map fun k => (k, none)) us
    | rs => K (retAV rs) (us.map fun k => (k, none)) us

end
end Go.Eng

/-
  What one view says of another.
-/
namespace Go.Eng
open Go.RowKit (Below)

def hasN (l : List Nat) (x : Nat) : Bool := match l with | [] => false | y :: r => match Nat.beq y x with | true => true | false => hasN r x
def meetN (l m : List Nat) : Bool := match l with | [] => false | x :: r => match hasN m x with | true => true | false => meetN r m

theorem hasN_iff {l : List Nat} {x : Nat} : hasN l x = true ↔ x ∈ l := by
  induction l with
  | nil => simp [hasN]
  | cons y r ih =>
    simp only [hasN]
    split
    · rename_i hb; simp [Nat.eq_of_beq_eq_true hb]
    · rename_i hb
      rw [ih]
      have : x ≠ y := fun h => by subst h; simp at hb
      simp [this]

theorem meetN_iff {l m : List Nat} : meetN l m = true ↔ ∃ x, x ∈ l ∧ x ∈ m := by
  induction l with
  | nil => simp [meetN]
  | cons y r ih =>
    simp only [meetN]
    split
    · rename_i hb; exact ⟨fun _ => ⟨y, List.mem_cons_self, hasN_iff.1 hb⟩, fun _ => rfl⟩
    · rename_i hb
      rw [ih]
      constructor
      · rintro ⟨x, h1, h2⟩; exact ⟨x, List.mem_cons_of_mem _ h1, h2⟩
      · rintro ⟨x, h1, h2⟩
        rcases List.mem_cons.1 h1 with rfl | h1
        · rw [hasN_iff.2 h2] at hb; cases hb
        · exact ⟨x, h1, h2⟩

def names (st : AS) (k : Nat) : Prop := k / 16 < st.nx

/-! ### What one view says of another -/

def rho (l : List (Nat × Nat)) (k : Nat) : Nat := match look l k with | some j => j | none => k

/-- What is left to the prover. -/
def Hold (p : Prop) : Prop := p
theorem hold {p : Prop} (h : p) : Hold p := h
theorem Hold.out {p : Prop} (h : Hold p) : p := h
theorem blt_lt {m n : Nat} (h : Nat.blt m n = true) : m < n := by simp [Nat.blt] at h; omega

def celLe0 (ρ : List (Nat × Nat)) (N : Nat) (a b : AV) : Prop :=
  match b with
  | .any => True
  | .d y => match a with | .d x => Hold (x = y) | _ => False
  | .op k i j => match a with | .op k' i' j' => k' = rho ρ k ∧ i' = i ∧ j' = j ∧ Nat.blt (k / 16) N = true | _ => False
  | .os k => match a with | .os k' => k' = rho ρ k ∧ Nat.blt (k / 16) N = true | _ => False
  | .nl s => match a with | .nl s' => s' = s | _ => False
  | .pp y j => match a with | .pp x i => Hold (x = y) ∧ i = j | _ => False
  | .gp g => match a with | .gp g' => g' = g | _ => False
  | _ => False

def celsLe0 (ρ : List (Nat × Nat)) (N : Nat) : List AV → List AV → Prop
  | [], [] => True
  | a :: l, b :: m => celLe0 ρ N a b ∧ celsLe0 ρ N l m
  | _, _ => False

/-- chk: which rows (of st) may be read as data from now on. -/
def celLe (st : AS) (chk : List Nat → Bool) (ρ : List (Nat × Nat)) (N : Nat) (a b : AV) : Prop :=
  match b with
  | .any => True
  | .d y => match a with | .d x => Hold (x = y) | a => toDK st a fun d us => Hold (d = y) ∧ chk us = true
  | .op k i j => match a with | .op k' i' j' => k' = rho ρ k ∧ i' = i ∧ j' = j ∧ Nat.blt (k / 16) N = true | _ => False
  | .os k => match a with | .os k' => k' = rho ρ k ∧ Nat.blt (k / 16) N = true | .nl _ => 14 = rho ρ k ∧ Nat.blt (k / 16) N = true | _ => False
  | .nl s => match a with | .nl s' => s' = s | _ => False
  | .pp y j => match a with | .pp x i => Hold (x = y) ∧ i = j | _ => False
  | .gp g => match a with | .gp g' => g' = g | _ => False
  | .fn g xs ys => match a with | .fn g' xs' ys' => g' = g ∧ celsLe0 ρ N xs' xs ∧ celsLe0 ρ N ys' ys | _ => False
  | _ => False

def celsLe (st : AS) (chk : List Nat → Bool) (ρ : List (Nat × Nat)) (N : Nat) : List AV → List AV → Prop
  | [], [] => True
  | a :: l, b :: m => celLe st chk ρ N a b ∧ celsLe st chk ρ N l m
  | _, _ => False

def avLe (st : AS) (chk : List Nat → Bool) (ρ : List (Nat × Nat)) (N : Nat) (a b : AV) : Prop :=
  match b with
  | .agg m => match a with | .agg l => celsLe st chk ρ N l m | _ => False
  | .tup m => match a with | .tup l => celsLe st chk ρ N l m | _ => False
  | b => celLe st chk ρ N a b

def envLe (st : AS) (chk : List Nat → Bool) (ρ : List (Nat × Nat)) (N : Nat) (env : List (Nat × AV)) : List (Nat × AV) → Prop
  | [] => True
  | (t, b) :: r => lookK env t (fun a => avLe st chk ρ N a b) ∧ envLe st chk ρ N env r

/-- The wanted type of a block: nothing, or what it is. -/
def tyLe (T : Option TypeId) (T' : Option TypeId) : Prop := match T' with | none => True | some U => T = some U
theorem tyLe.ty {T T' : Option TypeId} (h : tyLe T T') : ∀ U, T' = some U → T = some U := by
  intro U hU; subst hU; exact h

def entLe (st : AS) (chk : List Nat → Bool) (ρ : List (Nat × Nat)) (N : Nat) (e e' : Ent) : Prop :=
  match e, e' with
  | .box l T, .box m T' => celsLe st chk ρ N l m ∧ m.all AV.one = true ∧ tyLe T T'
  | .arr s xs, .arr s' ys => s = s' ∧ Hold (xs = ys)
  | .buf s xs T, .buf s' ys T' => s = s' ∧ Hold (xs = ys) ∧ tyLe T T'
  | _, _ => False

def ownLe (chk : List Nat → Bool) (ρ : List (Nat × Nat)) (N : Nat) (st : AS) : List (Nat × Option Ent) → Prop
  | [] => True
  | (k, some e') :: r => (Nat.blt (k / 16) N = true ∧ ownK st (rho ρ k) fun e => entLe st chk ρ N e e') ∧ ownLe chk ρ N st r
  | (_, none) :: _ => False

def injN (ρ : List (Nat × Nat)) : List (Nat × Option Ent) → Bool
  | [] => true
  | (k, _) :: r => (r.all fun x => !Nat.beq (rho ρ k) (rho ρ x.1)) && injN ρ r

/-- .. where an own row may be wanted of what is nil: its name is turned to 14. -/
def nilE (e : Ent) : Prop := match e with | .buf _ xs _ => Hold (xs = []) | _ => False
theorem nilE_out {e : Ent} (h : nilE e) : ∃ s T, e = .buf s [] T := by
  unfold nilE at h
  split at h
  · have h := h.out; subst h; exact ⟨_, _, rfl⟩
  · cases h
def ownLeZ (chk : List Nat → Bool) (ρ : List (Nat × Nat)) (N : Nat) (st : AS) : List (Nat × Option Ent) → Prop
  | [] => True
  | (k, some e') :: r => (match Nat.beq (rho ρ k) 14 with
    | true => Nat.blt (k / 16) N = true ∧ nilE e'
    | false => Nat.blt (k / 16) N = true ∧ ownK st (rho ρ k) fun e => entLe st chk ρ N e e') ∧ ownLeZ chk ρ N st r
  | (_, none) :: _ => False
def injZ (ρ : List (Nat × Nat)) : List (Nat × Option Ent) → Bool
  | [] => true
  | (k, _) :: r => (Nat.beq (rho ρ k) 14 || r.all fun x => !Nat.beq (rho ρ k) (rho ρ x.1)) && injZ ρ r

/-- The names below 16 stay. -/
def fixB (ρ : List (Nat × Nat)) : Bool := ρ.all fun x => Nat.ble 16 x.1
theorem fixB_rho {ρ : List (Nat × Nat)} (h : fixB ρ = true) {k : Nat} (hk : k < 16) : rho ρ k = k := by
  unfold rho
  cases hl : look ρ k with
  | none => rfl
  | some j =>
    have := List.all_eq_true.1 h _ (look_mem hl)
    have := Nat.le_of_ble_eq_true this
    simp only at this; omega

def keptOf (ρ : List (Nat × Nat)) (own : List (Nat × Option Ent)) : List Nat := own.map fun x => rho ρ x.1
def offB (l : List Nat) (us : List Nat) : Bool := !meetN us l

/-- The view st says at least what st' says, its names turned by ρ. -/
def LeK (ρ : List (Nat × Nat)) (st st' : AS) : Prop :=
  envLe st (offB (keptOf ρ st'.own)) ρ st'.nx st.env st'.env ∧ ownLeZ (offB (keptOf ρ st'.own)) ρ st'.nx st st'.own ∧ injZ ρ st'.own = true ∧ (fixB ρ && Nat.ble 1 st'.nx) = true

theorem celLe0_read {ρ : List (Nat × Nat)} {N : Nat} {w : World} {α : Nat → Loc} {X X' : Nat → Prop} (hX : ∀ b, X' b → X b) {a b : AV} {v : Value} (h : celLe0 ρ N a b) (hr : RdA w α X a v) :
    RdA w (fun k => α (rho ρ k)) X' b v ∧ b.ok (fun k => k / 16 < N) := by
  have hm : ∀ {x : D} {u : Value}, Rd w X x u → Rd w X' x u := fun h => h.mono fun b o hb hn => ⟨hb, fun h => hn (hX b h)⟩
  unfold celLe0 at h
  split at h
  · exact ⟨.any v, .any⟩
  · split at h
    · have h := h.out; subst h; exact ⟨.d _ _ (hm hr.dinv), .d _⟩
    · cases h
  · split at h
    · obtain ⟨rfl, rfl, rfl, hk⟩ := h
      cases hr
      exact ⟨.op _ _ _, .op _ _ _ (blt_lt hk)⟩
    · cases h
  · split at h
    · obtain ⟨rfl, hk⟩ := h
      cases hr with
      | os _ ho => exact ⟨RdA.os (α := fun k => α (rho ρ k)) _ ho, .os _ (blt_lt hk)⟩
    · cases h
  · split at h
    · subst h; cases hr; exact ⟨.nl _, .nl _⟩
    · cases h
  · split at h
    · obtain ⟨h0, rfl⟩ := h
      have h0 := h0.out; subst h0
      cases hr with
      | pp _ _ blk off arr T fz f hh hx h1 h2 => exact ⟨.pp _ _ blk off arr T fz f hh (fun h => hx (hX _ h)) h1 fun j c hc => hm (h2 j c hc), .pp _ _⟩
    · cases h
  · split at h
    · subst h; cases hr; exact ⟨.gp _, .gp _⟩
    · cases h
  · cases h

theorem celsLe0_read {ρ : List (Nat × Nat)} {N : Nat} {w : World} {α : Nat → Loc} {X X' : Nat → Prop} (hX : ∀ b, X' b → X b) : ∀ {l m : List AV}, celsLe0 ρ N l m →
    l.length = m.length ∧ ∀ (j : Nat) (a b : AV), l[j]? = some a → m[j]? = some b → ∀ v, RdA w α X a v → RdA w (fun k => α (rho ρ k)) X' b v ∧ b.ok (fun k => k / 16 < N)
  | [], [], _ => ⟨rfl, fun j a b h => by simp at h⟩
  | a :: l, b :: m, h => by
    obtain ⟨h1, h2⟩ := celsLe0_read hX h.2
    refine ⟨by simp [h1], fun j x y hx hy v hr => ?_⟩
    cases j with
    | zero => simp at hx hy; subst hx hy; exact celLe0_read hX h.1 hr
    | succ j => exact h2 j x y (by simpa using hx) (by simpa using hy) v hr
  | [], _ :: _, h => h.elim
  | _ :: _, [], h => h.elim

/-- What readings by LeK want of the world. -/
structure LeW (st : AS) (chk : List Nat → Bool) (w : World) (α : Nat → Loc) (X X' : Nat → Prop) : Prop where
  sub : ∀ b, X' b → X b
  own : ∀ us, chk us = true → ∀ k, k ∈ us → ∀ e, st.ss.own k = some e → Own w α X k e
  out : ∀ us, chk us = true → ∀ k, k ∈ us → ∀ e, st.ss.own k = some e → (α k).nil = false → ¬ X' (α k).blk
  nil0 : (α 14).hv = .slice none 0 0

theorem no_meet {l m : List Nat} (h : meetN l m = false) {x : Nat} (hx : x ∈ l) : x ∉ m := by
  intro hm
  have := meetN_iff.2 ⟨x, hx, hm⟩
  rw [h] at this; cases this

theorem celLe_read {st : AS} {chk : List Nat → Bool} {ρ : List (Nat × Nat)} {N : Nat} {w : World} {α : Nat → Loc} {X X' : Nat → Prop} (hW : LeW st chk w α X X') {a b : AV} {v : Value} (h : celLe st chk ρ N a b) (hr : RdA w α X a v) :
    RdA w (fun k => α (rho ρ k)) X' b v ∧ b.ok (fun k => k / 16 < N) := by
  have hX := hW.sub
  have hm : ∀ {x : D} {u : Value}, Rd w X x u → Rd w X' x u := fun h => h.mono fun b o hb hn => ⟨hb, fun h => hn (hX b h)⟩
  unfold celLe at h
  split at h
  · exact ⟨.any v, .any⟩
  · split at h
    · have h := h.out; subst h; exact ⟨.d _ _ (hm hr.dinv), .d _⟩
    · obtain ⟨d, us, ⟨h1, h2⟩, h3⟩ := toDK_out h
      have h1 := h1.out; subst h1
      refine ⟨.d _ _ (h3.rd w α X X' v hr (fun k hk e he => hW.own us h2 k hk e he) hX fun k hk hnil => ?_), .d _⟩
      obtain ⟨e, he⟩ := h3.ent k hk
      exact hW.out us h2 k hk e he hnil
  · split at h
    · obtain ⟨rfl, rfl, rfl, hk⟩ := h
      cases hr
      exact ⟨.op _ _ _, .op _ _ _ (blt_lt hk)⟩
    · cases h
  · rename_i k
    split at h
    · obtain ⟨rfl, hk⟩ := h
      cases hr with
      | os _ ho => exact ⟨RdA.os (α := fun k => α (rho ρ k)) _ ho, .os _ (blt_lt hk)⟩
    · obtain ⟨h14, hk⟩ := h
      cases hr
      have e : α (rho ρ k) = α 14 := by rw [← h14]
      have := RdA.os (w := w) (α := fun k => α (rho ρ k)) (X := X') k (by rw [e, hW.nil0]; rfl)
      rw [e, hW.nil0] at this
      exact ⟨this, .os _ (blt_lt hk)⟩
    · cases h
  · split at h
    · subst h; cases hr; exact ⟨.nl _, .nl _⟩
    · cases h
  · split at h
    · obtain ⟨h0, rfl⟩ := h
      have h0 := h0.out; subst h0
      cases hr with
      | pp _ _ blk off arr T fz f hh hx h1 h2 => exact ⟨.pp _ _ blk off arr T fz f hh (fun h => hx (hX _ h)) h1 fun j c hc => hm (h2 j c hc), .pp _ _⟩
    · cases h
  · split at h
    · subst h; cases hr; exact ⟨.gp _, .gp _⟩
    · cases h
  · split at h
    · obtain ⟨rfl, h1, h2⟩ := h
      obtain ⟨h3, h4⟩ := celsLe0_read (w := w) (α := α) hX h1
      obtain ⟨h5, h6⟩ := celsLe0_read (w := w) (α := α) hX h2
      have go : ∀ {l m : List AV} {vs : Array Value}, l.length = m.length → (∀ (j : Nat) (a b : AV), l[j]? = some a → m[j]? = some b → ∀ v, RdA w α X a v → RdA w (fun k => α (rho ρ k)) X' b v ∧ b.ok (fun k => k / 16 < N)) →
          l.length = vs.size → (∀ (j : Nat) (c : AV) (v : Value), l[j]? = some c → vs[j]? = some v → RdA w α X c v) →
          m.length = vs.size ∧ (∀ (j : Nat) (c : AV) (v : Value), m[j]? = some c → vs[j]? = some v → RdA w (fun k => α (rho ρ k)) X' c v) ∧ ∀ c, c ∈ m → c.ok (fun k => k / 16 < N) := by
        intro l m vs h1 h2 hl hc
        have hg : ∀ (j : Nat) (c : AV), m[j]? = some c → ∃ a u, l[j]? = some a ∧ vs[j]? = some u := by
          intro j c hj
          have : j < m.length := (List.getElem?_eq_some_iff.1 hj).1
          exact ⟨l[j]'(by omega), vs[j]'(by omega), by simp [show j < l.length by omega], by simp [show j < vs.size by omega]⟩
        refine ⟨by omega, fun j c u hj hu => ?_, fun c hc' => ?_⟩
        · obtain ⟨a, u', ha, _⟩ := hg j c hj
          exact (h2 j a c ha hj u (hc j a u ha hu)).1
        · obtain ⟨j, hj⟩ := List.mem_iff_getElem?.1 hc'
          obtain ⟨a, u', ha, hu⟩ := hg j c hj
          exact (h2 j a c ha hj u' (hc j a u' ha hu)).2
      cases hr with
      | fn _ _ _ va vb l1 l2 c1 c2 =>
        obtain ⟨q1, q2, q3⟩ := go h3 h4 l1 c1
        obtain ⟨q4, q5, q6⟩ := go h5 h6 l2 c2
        exact ⟨.fn _ _ _ va vb q1 q4 q2 q5, .fn _ _ _ q3 q6⟩
    · cases h
  · cases h

theorem celsLe_get {st : AS} {chk : List Nat → Bool} {ρ : List (Nat × Nat)} {N : Nat} : ∀ {l m : List AV}, celsLe st chk ρ N l m → l.length = m.length ∧ ∀ (j : Nat) (a b : AV), l[j]? = some a → m[j]? = some b → celLe st chk ρ N a b
  | [], [], _ => ⟨rfl, fun j a b h => by simp at h⟩
  | a :: l, b :: m, h => by
    obtain ⟨h1, h2⟩ := celsLe_get h.2
    refine ⟨by simp [h1], fun j x y hx hy => ?_⟩
    cases j with
    | zero => simp at hx hy; subst hx hy; exact h.1
    | succ j => exact h2 j x y (by simpa using hx) (by simpa using hy)
  | [], _ :: _, h => h.elim
  | _ :: _, [], h => h.elim

theorem avLe_read {st : AS} {chk : List Nat → Bool} {ρ : List (Nat × Nat)} {N : Nat} {w : World} {α : Nat → Loc} {X X' : Nat → Prop} (hW : LeW st chk w α X X') {a b : AV} {v : Value} (h : avLe st chk ρ N a b) (hr : RdA w α X a v) :
    RdA w (fun k => α (rho ρ k)) X' b v ∧ b.ok (fun k => k / 16 < N) := by
  have go : ∀ {l m : List AV} {vs : Array Value}, celsLe st chk ρ N l m → l.length = vs.size → (∀ (j : Nat) (c : AV) (v : Value), l[j]? = some c → vs[j]? = some v → RdA w α X c v) →
      m.length = vs.size ∧ (∀ (j : Nat) (c : AV) (v : Value), m[j]? = some c → vs[j]? = some v → RdA w (fun k => α (rho ρ k)) X' c v) ∧ ∀ c, c ∈ m → c.ok (fun k => k / 16 < N) := by
    intro l m vs h hl hc
    obtain ⟨h1, h2⟩ := celsLe_get h
    have hg : ∀ (j : Nat) (c : AV), m[j]? = some c → ∃ a u, l[j]? = some a ∧ vs[j]? = some u := by
      intro j c hj
      have : j < m.length := (List.getElem?_eq_some_iff.1 hj).1
      exact ⟨l[j]'(by omega), vs[j]'(by omega), by simp [show j < l.length by omega], by simp [show j < vs.size by omega]⟩
    refine ⟨by omega, fun j c u hj hu => ?_, fun c hc' => ?_⟩
    · obtain ⟨a, u', ha, _⟩ := hg j c hj
      exact (celLe_read hW (h2 j a c ha hj) (hc j a u ha hu)).1
    · obtain ⟨j, hj⟩ := List.mem_iff_getElem?.1 hc'
      obtain ⟨a, u', ha, hu⟩ := hg j c hj
      exact (celLe_read hW (h2 j a c ha hj) (hc j a u' ha hu)).2
  unfold avLe at h
  split at h
  · split at h
    · cases hr with
      | agg _ vs hl hc => obtain ⟨h1, h2, h3⟩ := go h hl hc; exact ⟨.agg _ vs h1 h2, .agg _ h3⟩
    · cases h
  · split at h
    · cases hr with
      | tup _ vs hl hc => obtain ⟨h1, h2, h3⟩ := go h hl hc; exact ⟨.tup _ vs h1 h2, .tup _ h3⟩
    · cases h
  · exact celLe_read hW h hr

theorem envLe_get {st : AS} {chk : List Nat → Bool} {ρ : List (Nat × Nat)} {N : Nat} {env : List (Nat × AV)} : ∀ {l : List (Nat × AV)}, envLe st chk ρ N env l → ∀ t b, look l t = some b → ∃ a, look env t = some a ∧ avLe st chk ρ N a b
  | [], _, t, b, h => by simp [look] at h
  | (y, c) :: r, h, t, b, hl => by
    simp only [look] at hl
    split at hl
    · rename_i hb
      cases hl
      have := Nat.eq_of_beq_eq_true hb; subst this
      exact lookK_out h.1
    · exact envLe_get h.2 t b hl

theorem ownLe_get {chk : List Nat → Bool} {ρ : List (Nat × Nat)} {N : Nat} {st : AS} : ∀ {l : List (Nat × Option Ent)}, ownLe chk ρ N st l → ∀ k oe, look l k = some oe → ∃ e' e, oe = some e' ∧ k / 16 < N ∧ st.ss.own (rho ρ k) = some e ∧ entLe st chk ρ N e e'
  | [], _, k, oe, h => by simp [look] at h
  | (y, some e') :: r, h, k, oe, hl => by
    simp only [look] at hl
    split at hl
    · rename_i hb
      cases hl
      have := Nat.eq_of_beq_eq_true hb; subst this
      obtain ⟨e, h1, h2⟩ := ownK_out h.1.2
      exact ⟨e', e, rfl, blt_lt h.1.1, h1, h2⟩
    · exact ownLe_get h.2 k oe hl
  | (_, none) :: _, h, _, _, _ => h.elim

theorem ownLeZ_get {chk : List Nat → Bool} {ρ : List (Nat × Nat)} {N : Nat} {st : AS} : ∀ {l : List (Nat × Option Ent)}, ownLeZ chk ρ N st l → ∀ k oe, look l k = some oe → ∃ e', oe = some e' ∧ k / 16 < N ∧ ((rho ρ k = 14 ∧ ∃ s T, e' = .buf s [] T) ∨ (rho ρ k ≠ 14 ∧ ∃ e, st.ss.own (rho ρ k) = some e ∧ entLe st chk ρ N e e'))
  | [], _, k, oe, h => by simp [look] at h
  | (y, some e') :: r, h, k, oe, hl => by
    simp only [look] at hl
    split at hl
    · rename_i hb
      cases hl
      have := Nat.eq_of_beq_eq_true hb; subst this
      have h1 := h.1
      split at h1
      · rename_i h14
        exact ⟨e', rfl, blt_lt h1.1, .inl ⟨Nat.eq_of_beq_eq_true h14, nilE_out h1.2⟩⟩
      · rename_i h14
        obtain ⟨e, h3, h4⟩ := ownK_out h1.2
        exact ⟨e', rfl, blt_lt h1.1, .inr ⟨fun he => by rw [he] at h14; simp at h14, e, h3, h4⟩⟩
    · exact ownLeZ_get h.2 k oe hl
  | (_, none) :: _, h, _, _, _ => h.elim

theorem injZ_get {ρ : List (Nat × Nat)} : ∀ {l : List (Nat × Option Ent)}, injZ ρ l = true → ∀ k k' oe oe', look l k = some oe → look l k' = some oe' → rho ρ k = rho ρ k' → rho ρ k ≠ 14 → k = k'
  | [], _, k, _, _, _, h, _, _, _ => by simp [look] at h
  | (y, e) :: r, h, k, k', oe, oe', h1, h2, he, hn => by
    simp only [injZ, Bool.and_eq_true, Bool.or_eq_true] at h
    have no : rho ρ y ≠ 14 → ∀ j o, look r j = some o → rho ρ y ≠ rho ρ j := by
      intro hy j o hj hr
      rcases h.1 with h3 | h3
      · exact hy (Nat.eq_of_beq_eq_true h3)
      · have := List.all_eq_true.1 h3 _ (look_mem hj)
        simp [hr] at this
    simp only [look] at h1 h2
    cases hb : Nat.beq k y <;> cases hb' : Nat.beq k' y <;> simp only [hb, hb'] at h1 h2
    · exact injZ_get h.2 k k' oe oe' h1 h2 he hn
    · have e1 := Nat.eq_of_beq_eq_true hb'; subst e1; exact absurd he.symm (no (he ▸ hn) _ _ h1)
    · have e1 := Nat.eq_of_beq_eq_true hb; subst e1; exact absurd he (no hn _ _ h2)
    · rw [Nat.eq_of_beq_eq_true hb, Nat.eq_of_beq_eq_true hb']

theorem injN_get {ρ : List (Nat × Nat)} : ∀ {l : List (Nat × Option Ent)}, injN ρ l = true → ∀ k k' oe oe', look l k = some oe → look l k' = some oe' → rho ρ k = rho ρ k' → k = k'
  | [], _, k, _, _, _, h, _, _ => by simp [look] at h
  | (y, e) :: r, h, k, k', oe, oe', h1, h2, he => by
    simp only [injN, Bool.and_eq_true] at h
    have hall := List.all_eq_true.1 h.1
    have no : ∀ j o, look r j = some o → rho ρ y ≠ rho ρ j := by
      intro j o hj hr
      have := hall _ (look_mem hj)
      simp [hr] at this
    simp only [look] at h1 h2
    cases hb : Nat.beq k y <;> cases hb' : Nat.beq k' y <;> simp only [hb, hb'] at h1 h2
    · exact injN_get h.2 k k' oe oe' h1 h2 he
    · rw [Nat.eq_of_beq_eq_true hb'] at he; exact absurd he.symm (no _ _ h1)
    · rw [Nat.eq_of_beq_eq_true hb] at he; exact absurd he (no _ _ h2)
    · rw [Nat.eq_of_beq_eq_true hb, Nat.eq_of_beq_eq_true hb']

theorem entLe_kind {st : AS} {chk : List Nat → Bool} {ρ : List (Nat × Nat)} {N : Nat} {e e' : Ent} (h : entLe st chk ρ N e e') : e.sz = e'.sz ∧ e.len = e'.len := by
  unfold entLe at h
  split at h
  · exact ⟨(celsLe_get h.1).1, rfl⟩
  · obtain ⟨rfl, h⟩ := h; have h := h.out; subst h; exact ⟨rfl, rfl⟩
  · obtain ⟨rfl, h, _⟩ := h; have h := h.out; subst h; exact ⟨rfl, rfl⟩
  · cases h

theorem entLe_cases {st : AS} {chk : List Nat → Bool} {ρ : List (Nat × Nat)} {N : Nat} {e e' : Ent} (h : entLe st chk ρ N e e') : (∃ l m T T', e = .box l T ∧ e' = .box m T' ∧ celsLe st chk ρ N l m ∧ m.all AV.one = true ∧ tyLe T T') ∨ (∃ s xs, e = .arr s xs ∧ e' = .arr s xs) ∨ (∃ s xs T T', e = .buf s xs T ∧ e' = .buf s xs T' ∧ tyLe T T') := by
  unfold entLe at h
  split at h
  · exact .inl ⟨_, _, _, _, rfl, rfl, h⟩
  · obtain ⟨rfl, h⟩ := h; have h := h.out; subst h; exact .inr (.inl ⟨_, _, rfl, rfl⟩)
  · obtain ⟨rfl, h, ht⟩ := h; have h := h.out; subst h; exact .inr (.inr ⟨_, _, _, _, rfl, rfl, ht⟩)
  · cases h

/-- An owned entry, read by what LeK leaves. -/
theorem entLe_own {st : AS} {chk : List Nat → Bool} {ρ : List (Nat × Nat)} {N : Nat} {w : World} {α : Nat → Loc} {X X' : Nat → Prop} (hW : LeW st chk w α X X') {k : Nat} {e e' : Ent} (h6 : entLe st chk ρ N e e') (ho : Own w α X (rho ρ k) e) :
    Own w (fun k => α (rho ρ k)) X' k e' ∧ ∀ x, x ∈ e'.vars → x.ok (fun k => k / 16 < N) := by
  obtain ⟨hsz, hlen⟩ := entLe_kind h6
  have hm : ∀ {x : D} {u : Value}, Rd w X x u → Rd w X' x u := fun h => h.mono fun b o hb hn => ⟨hb, fun h => hn (hW.sub b h)⟩
  rcases entLe_cases h6 with ⟨l, m', T1, T2, rfl, rfl, hc1, hc2, hc3⟩ | ⟨s, xs, rfl, rfl⟩ | ⟨s, xs, T1, T2, rfl, rfl, hty⟩
  · rcases ho with ⟨_, ⟨sz, _, he⟩, _⟩ | ⟨hnil, arr, T, fz, cap, hB⟩
    · cases he
    obtain ⟨hl1, hl2⟩ := celsLe_get hc1
    have hget : ∀ (m : Nat) (c : AV), m'[m]? = some c → ∃ u, arr[(α (rho ρ k)).off + 0 * (Ent.box l T1).sz + m]? = some u ∧ RdA w (fun k => α (rho ρ k)) X' c u ∧ c.ok (fun k => k / 16 < N) := by
      intro m c hc
      have hlt : m < l.length := by rw [hl1]; exact (List.getElem?_eq_some_iff.1 hc).1
      obtain ⟨u, h7, h8⟩ := hB.rd 0 m l[m] (by simp [Ent.cell, hlt])
      have := celLe_read hW (hl2 m _ c (by simp [hlt]) hc) h8
      exact ⟨u, h7, this.1, this.2⟩
    refine ⟨.inr ⟨hnil, arr, T, fz, cap, hB.heap, by rw [← hsz]; exact hB.hsz, by rw [← hlen]; exact hB.len, by rw [← hsz]; exact hB.bnd, by rw [← hsz]; exact hB.nf, List.all_eq_true.1 hc2, fun j m c hc => ?_, (fun sz xs _ he => by cases he), hB.hone, fun V hV => ⟨(hB.ty V (hc3.ty V hV)).1, (hB.ty V (hc3.ty V hV)).2.1, fun cs V' h => by cases h; rw [← hl1]; exact (hB.ty V (hc3.ty V hV)).2.2 l T1 rfl⟩⟩, fun x hx => ?_⟩
    · rw [← hsz]
      simp only [Ent.cell] at hc
      split at hc
      · rename_i hj
        subst hj
        obtain ⟨u, h7, h8, _⟩ := hget m c hc
        exact ⟨u, h7, h8⟩
      · cases hc
    · obtain ⟨m, hm'⟩ := List.mem_iff_getElem?.1 (show x ∈ m' from hx)
      obtain ⟨u, _, _, h9⟩ := hget m x hm'
      exact h9
  · refine ⟨?_, fun x hx => by cases hx⟩
    rcases ho with ⟨_, ⟨sz, _, he⟩, _⟩ | ⟨hnil, arr, T, fz, cap, hB⟩
    · cases he
    · refine .inr ⟨hnil, arr, T, fz, cap, hB.heap, hB.hsz, hB.len, hB.bnd, hB.nf, hB.wid, fun j m c hc => ?_, hB.hv, hB.hone, hB.ty⟩
      obtain ⟨u, h7, h8⟩ := hB.rd j m c hc
      refine ⟨u, h7, ?_⟩
      simp only [Ent.cell, Option.bind_eq_some_iff, Option.map_eq_some_iff] at hc
      obtain ⟨x, _, y, _, rfl⟩ := hc
      exact .d _ _ (hm h8.dinv)
  · refine ⟨?_, fun x hx => by cases hx⟩
    rcases ho with ⟨hnil, ⟨sz, _, he⟩, hv⟩ | ⟨hnil, arr, T, fz, cap, hB⟩
    · cases he; exact .inl ⟨hnil, ⟨_, _, rfl⟩, hv⟩
    · refine .inr ⟨hnil, arr, T, fz, cap, hB.heap, hB.hsz, hB.len, hB.bnd, hB.nf, hB.wid, fun j m c hc => ?_, fun sz xs _ h => by cases h; exact hB.hv _ _ _ rfl, hB.hone, fun V hV => ⟨(hB.ty V (hty.ty V hV)).1, (hB.ty V (hty.ty V hV)).2.1, fun cs V' h => by cases h⟩⟩
      obtain ⟨u, h7, h8⟩ := hB.rd j m c hc
      refine ⟨u, h7, ?_⟩
      simp only [Ent.cell, Option.bind_eq_some_iff, Option.map_eq_some_iff] at hc
      obtain ⟨x, _, y, _, rfl⟩ := hc
      exact .d _ _ (hm h8.dinv)

theorem own_look {st : AS} {k : Nat} {e : Ent} (h : st.ss.own k = some e) : look st.own k = some (some e) := by
  simp only [AS.ss] at h
  cases hl : look st.own k with
  | none => simp [hl] at h
  | some oe => simp only [hl] at h; rw [h]

theorem mem_kept {ρ : List (Nat × Nat)} {own : List (Nat × Option Ent)} {k : Nat} {oe : Option Ent} (h : look own k = some oe) : rho ρ k ∈ keptOf ρ own :=
  List.mem_map.2 ⟨(k, oe), look_mem h, rfl⟩

/-- .. where names below 16 may be given. -/
structure LeD (ρ : List (Nat × Nat)) (st st' : AS) : Prop where
  env : envLe st (offB (keptOf ρ st'.own)) ρ st'.nx st.env st'.env
  rows : ownLeZ (offB (keptOf ρ st'.own)) ρ st'.nx st st'.own
  inj : injZ ρ st'.own = true
  nil : rho ρ 14 = 14
  nx : Nat.ble 1 st'.nx = true

theorem LeD.sim {ρ : List (Nat × Nat)} {st st' : AS} (h : LeD ρ st st') {G : List Gl} {X0 : Nat → Prop} {F : Fr} {w0 : World} {n : Nat} {α : Nat → Loc} {a : Act} {w : World} (hs : Sim G X0 F w0 n (names st) α st.ss a w)
    (hfix : ∀ k l, F.fix k = some l → k < 16 ∧ rho ρ k = k) :
    Sim G X0 F w0 n (names st') (fun k => α (rho ρ k)) st'.ss a w := by
  obtain ⟨h1, h2, h3, hr14, hf2⟩ := h
  have hown : ∀ k e', st'.ss.own k = some e' → k / 16 < st'.nx ∧ look st'.own k = some (some e') ∧ ((rho ρ k = 14 ∧ ∃ s T, e' = .buf s [] T) ∨ (rho ρ k ≠ 14 ∧ ∃ e, st.ss.own (rho ρ k) = some e ∧ entLe st (offB (keptOf ρ st'.own)) ρ st'.nx e e')) := by
    intro k e' hk
    have hl := own_look hk
    obtain ⟨e1, h4, h5, h6⟩ := ownLeZ_get h2 k _ hl
    cases h4
    exact ⟨h5, hl, h6⟩
  have hnil : ∀ k e', st'.ss.own k = some e' → (α (rho ρ k)).nil = false → ∃ e, k / 16 < st'.nx ∧ st.ss.own (rho ρ k) = some e ∧ entLe st (offB (keptOf ρ st'.own)) ρ st'.nx e e' ∧ look st'.own k = some (some e') ∧ rho ρ k ≠ 14 := by
    intro k e' hk hn
    obtain ⟨h5, h6, h7 | ⟨h7, e, h8, h9⟩⟩ := hown k e' hk
    · rw [h7.1, hs.nil0.1] at hn; cases hn
    · exact ⟨e, h5, h8, h9, h6, h7⟩
  have hX : ∀ b, XX (fun k => α (rho ρ k)) st'.ss.own X0 b → XX α st.ss.own X0 b := by
    rintro b (⟨k, e', hk, hn, rfl⟩ | hx)
    · obtain ⟨e, _, h5, _⟩ := hnil k e' hk hn
      exact .inl ⟨_, e, h5, hn, rfl⟩
    · exact .inr hx
  have hW : LeW st (offB (keptOf ρ st'.own)) w α (XX α st.ss.own X0) (XX (fun k => α (rho ρ k)) st'.ss.own X0) := by
    refine ⟨hX, fun _ _ k _ e he => hs.own k e he, fun us hus k hku e hk hnl => ?_, hs.nil0.2.1⟩
    have hnk : k ∉ keptOf ρ st'.own := no_meet (by simpa [offB] using hus) hku
    rintro (⟨k', e', hk', hnl', hb⟩ | hx)
    · obtain ⟨e2, _, h5, _, h7, _⟩ := hnil k' e' hk' hnl'
      have := hs.inj _ _ _ _ h5 hk hnl' hnl hb
      exact hnk (this ▸ mem_kept h7)
    · exact (hs.mine k e hk hnl).2 hx
  refine ⟨hs.size, hs.defers, fun t b ht => ?_, fun t b ht => ?_, fun k e' hk => ?_, fun k e' hk => ?_, fun k e k' e' hk hk' hn hn' hb => ?_, fun k e' hk hn => ?_, hs.x0, hs.fr, hs.grow, hs.os, hs.tape, hs.output, hs.gl, fun k l hk => ?_, ?_⟩
  · obtain ⟨a, ha, hl⟩ := envLe_get h1 t b ht
    exact (avLe_read hW hl (hs.env t a ha)).1
  · obtain ⟨a, ha, hl⟩ := envLe_get h1 t b ht
    exact (avLe_read hW hl (hs.env t a ha)).2
  · obtain ⟨_, _, ⟨h7, s, T, rfl⟩ | ⟨_, e, h5, h6⟩⟩ := hown k e' hk
    · exact .inl ⟨by show (α (rho ρ k)).nil = true; rw [h7]; exact hs.nil0.1, ⟨s, T, rfl⟩, by show (α (rho ρ k)).hv = _; rw [h7]; exact hs.nil0.2.1⟩
    · exact (entLe_own hW h6 (hs.own _ e h5)).1
  · obtain ⟨h4, _, ⟨h7, s, T, rfl⟩ | ⟨_, e, h5, h6⟩⟩ := hown k e' hk
    · exact ⟨h4, fun x hx => by cases hx⟩
    · exact ⟨h4, (entLe_own hW h6 (hs.own _ e h5)).2⟩
  · obtain ⟨e1, _, h5, _, h6, h9⟩ := hnil k e hk hn
    obtain ⟨e2, _, h7, _, h8, _⟩ := hnil k' e' hk' hn'
    exact injZ_get h3 k k' _ _ h6 h8 (hs.inj _ _ _ _ h5 h7 hn hn' hb) h9
  · obtain ⟨e, _, h5, _⟩ := hnil k e' hk hn
    exact hs.mine _ e h5 hn
  · obtain ⟨h4, h4'⟩ := hfix k l hk
    obtain ⟨h5, h6⟩ := hs.fix k l hk
    refine ⟨?_, ?_⟩
    case refine_2 =>
      simp only [names] at h6 ⊢
      have := Nat.le_of_ble_eq_true hf2; omega
    show α (rho ρ k) = l
    rw [h4']
    exact (hs.fix k l hk).1
  · show (α (rho ρ 14)).nil = true ∧ (α (rho ρ 14)).hv = _ ∧ _
    rw [hr14]
    refine ⟨hs.nil0.1, hs.nil0.2.1, ?_⟩
    have := Nat.le_of_ble_eq_true hf2
    show 14 / 16 < st'.nx
    omega

theorem LeK.sim {ρ : List (Nat × Nat)} {st st' : AS} (h : LeK ρ st st') {G : List Gl} {X0 : Nat → Prop} {F : Fr} {w0 : World} {n : Nat} {α : Nat → Loc} {a : Act} {w : World} (hs : Sim G X0 F w0 n (names st) α st.ss a w)
    (hfix : ∀ k l, F.fix k = some l → k < 16) :
    Sim G X0 F w0 n (names st') (fun k => α (rho ρ k)) st'.ss a w := by
  obtain ⟨h1, h2, h3, hf⟩ := h
  simp only [Bool.and_eq_true] at hf
  exact LeD.sim ⟨h1, h2, h3, fixB_rho hf.1 (by omega), hf.2⟩ hs fun k l hk => ⟨hfix k l hk, fixB_rho hf.1 (hfix k l hk)⟩

end Go.Eng

/-
  Calls: of functions with a contract over data, and of functions with a contract over rows that the caller lends; function values.
-/
namespace Go.Eng
open Go.RowKit (Below)

def argA : Nat → List AV → List (Nat × AV)
  | _, [] => []
  | i, a :: l => (i, a) :: argA (i + 1) l

theorem argA_look : ∀ (as : List AV) (i t : Nat) (av : AV), look (argA i as) t = some av → i ≤ t ∧ as[t - i]? = some av
  | [], i, t, av, h => by simp [argA, look] at h
  | a :: as, i, t, av, h => by
    simp only [argA, look] at h
    split at h
    · rename_i hb
      have := Nat.eq_of_beq_eq_true hb
      subst this
      cases h
      exact ⟨Nat.le_refl _, by simp⟩
    · obtain ⟨h1, h2⟩ := argA_look as (i + 1) t av h
      refine ⟨by omega, ?_⟩
      rw [show t - i = (t - (i + 1)) + 1 by omega]
      simpa using h2

theorem argA_get : ∀ (as : List AV) (i j : Nat) (av : AV), as[j]? = some av → look (argA i as) (i + j) = some av
  | [], i, j, av, h => by simp at h
  | a :: as, i, 0, av, h => by simp at h; subst h; simp [argA, look]
  | a :: as, i, j + 1, av, h => by
    have := argA_get as (i + 1) j av (by simpa using h)
    simp only [argA, look]
    split
    · rename_i hb
      have := Nat.eq_of_beq_eq_true hb
      omega
    · rw [show i + (j + 1) = i + 1 + j by omega]; exact this

def retOf (us : Array Value) : Value := if h : us.size = 1 then us[0] else .tuple us

/-- A function that has a body. -/
def HasBody (C : Ctx) (f : FuncId) : Prop := ∃ fn, C.P.funcs[f]? = some fn ∧ (fn.name == "runtime.NumGoroutine") = false ∧ fn.body.isNone = false

/-- THE CONTRACT OF A FUNCTION THAT IS LENT ROWS: called at what reads as bs, the rows own lent (names below 16), it returns what reads as rs, and the rows are own' then (names from 16 to 31 are new). -/
def DoesG (C : Ctx) (CA : Array Value → World → (Ending → World → Prop) → Prop) (f : FuncId) (bs : List AV) (own : List (Nat × Option Ent)) (rs : List AV) (own' : List (Nat × Option Ent)) : Prop :=
  HasBody C f ∧
  ∀ (w : World) (X : Nat → Prop) (F : Fr) (α : Nat → Loc) (vs : Array Value), (∀ k l, F.fix k = some l → k < 16) →
    Sim C.G X F w bs.length (names ⟨argA 0 bs, own, 1⟩) α (AS.ss ⟨argA 0 bs, own, 1⟩) ⟨vs, []⟩ w →
    CA vs w fun e w' => ∃ α' us, e = .returned (retOf us) ∧ Sim C.G X F w rs.length (names ⟨argA 0 rs, own', 2⟩) α' (AS.ss ⟨argA 0 rs, own', 2⟩) ⟨us, []⟩ w'

/-- Called by a statement, or deferred. -/
def CallsW (P : Program) (f : FuncId) (vs : Array Value) (w : World) (R : Ending → World → Prop) : Prop :=
  Calls P f vs w R ∧ ∀ u, CallsD P f vs u w fun e u' w' => u' = u ∧ R e w'
theorem CallsW.mono {P : Program} {f : FuncId} {vs : Array Value} {w : World} {R R' : Ending → World → Prop} (h : CallsW P f vs w R) (hr : ∀ e w', R e w' → R' e w') : CallsW P f vs w R' :=
  ⟨h.1.mono hr, fun u => (h.2 u).mono fun e _ w' hh => ⟨hh.1, hr e w' hh.2⟩⟩

def DoesH (C : Ctx) (f : FuncId) (bs : List AV) (own : List (Nat × Option Ent)) (rs : List AV) (own' : List (Nat × Option Ent)) : Prop := DoesG C (Calls C.P f) f bs own rs own'
/-- .. that may be deferred, too. -/
def DoesW (C : Ctx) (f : FuncId) (bs : List AV) (own : List (Nat × Option Ent)) (rs : List AV) (own' : List (Nat × Option Ent)) : Prop := DoesG C (CallsW C.P f) f bs own rs own'
theorem DoesW.toH {C : Ctx} {f : FuncId} {bs : List AV} {own : List (Nat × Option Ent)} {rs : List AV} {own' : List (Nat × Option Ent)} (h : DoesW C f bs own rs own') : DoesH C f bs own rs own' :=
  ⟨h.1, fun w X F α vs hF hs => (h.2 w X F α vs hF hs).1⟩

/-! #### What the call leaves, in the caller's names -/

def rn (ρ : List (Nat × Nat)) (nm k : Nat) : Nat := match Nat.blt k 16 with | true => rho ρ k | false => 16 * nm + (k - 16)

def rnK (keys : List Nat) (ρ : List (Nat × Nat)) (nm k : Nat) (K : Nat → Prop) : Prop :=
  match Nat.blt k 16 with
  | true => match hasN keys k with | true => (match rho ρ k with | 0 => K 0 | m + 1 => K (m + 1)) | false => False
  | false => match Nat.blt k 32 with | true => (match 16 * nm + (k - 16) with | 0 => K 0 | m + 1 => K (m + 1)) | false => False

theorem rnK_out {keys : List Nat} {ρ : List (Nat × Nat)} {nm k : Nat} {K : Nat → Prop} (h : rnK keys ρ nm k K) : K (rn ρ nm k) ∧ ((k < 16 ∧ k ∈ keys) ∨ (16 ≤ k ∧ k < 32)) := by
  unfold rnK at h
  unfold rn
  split at h
  · rename_i hb
    have h1 := blt_lt hb
    split at h
    · rename_i hk
      refine ⟨?_, .inl ⟨h1, hasN_iff.1 hk⟩⟩
      split at h
      · rename_i h0; simpa [h0] using h
      · rename_i m h0; simpa [h0] using h
    · cases h
  · rename_i hb
    split at h
    · rename_i hb2
      have h1 := blt_lt hb2
      have h2 : ¬ k < 16 := by
        intro hlt
        have : Nat.blt k 16 = true := by simp [Nat.blt]; omega
        rw [this] at hb; cases hb
      refine ⟨?_, .inr ⟨by omega, h1⟩⟩
      split at h
      · rename_i h0; simpa [h0] using h
      · rename_i m h0; simpa [h0] using h
    · cases h

def AV.rn0 (ρ : List (Nat × Nat)) (nm : Nat) : AV → AV
  | .op k i j => .op (rn ρ nm k) i j
  | .os k => .os (rn ρ nm k)
  | a => a

def AV.rn (ρ : List (Nat × Nat)) (nm : Nat) : AV → AV
  | .agg cs => .agg (cs.map (AV.rn0 ρ nm))
  | .tup cs => .tup (cs.map (AV.rn0 ρ nm))
  | .fn g as bs => .fn g (as.map (AV.rn0 ρ nm)) (bs.map (AV.rn0 ρ nm))
  | a => a.rn0 ρ nm

/-- Which names are known. -/
def KN (keys : List Nat) (k : Nat) : Prop := (k < 16 ∧ k ∈ keys) ∨ (16 ≤ k ∧ k < 32)

/-- One level: no parts. -/
def rc0K (keys : List Nat) (ρ : List (Nat × Nat)) (nm : Nat) (a : AV) (K : AV → Prop) : Prop :=
  match a with
  | .any => K .any
  | .d x => K (.d x)
  | .op k i j => rnK keys ρ nm k fun k => K (.op k i j)
  | .os k => rnK keys ρ nm k fun k => K (.os k)
  | .nl s => K (.nl s)
  | .pp x j => K (.pp x j)
  | .gp g => K (.gp g)
  | _ => False

theorem rc0K_out {keys : List Nat} {ρ : List (Nat × Nat)} {nm : Nat} {a : AV} {K : AV → Prop} (h : rc0K keys ρ nm a K) : K (a.rn0 ρ nm) ∧ a.ok (KN keys) ∧ (∀ cs, a ≠ .agg cs) ∧ (∀ cs, a ≠ .tup cs) ∧ ∀ g xs ys, a ≠ .fn g xs ys := by
  unfold rc0K at h
  split at h
  · exact ⟨h, .any, by simp, by simp, by simp⟩
  · exact ⟨h, .d _, by simp, by simp, by simp⟩
  · obtain ⟨h1, h2⟩ := rnK_out h; exact ⟨h1, .op _ _ _ h2, by simp, by simp, by simp⟩
  · obtain ⟨h1, h2⟩ := rnK_out h; exact ⟨h1, .os _ h2, by simp, by simp, by simp⟩
  · exact ⟨h, .nl _, by simp, by simp, by simp⟩
  · exact ⟨h, .pp _ _, by simp, by simp, by simp⟩
  · exact ⟨h, .gp _, by simp, by simp, by simp⟩
  · cases h

def rcs0K (keys : List Nat) (ρ : List (Nat × Nat)) (nm : Nat) : List AV → (List AV → Prop) → Prop
  | [], K => K []
  | a :: l, K => rc0K keys ρ nm a fun a => rcs0K keys ρ nm l fun l => K (a :: l)

/-- A list without parts of parts. -/
def Simple (keys : List Nat) (l : List AV) : Prop := ∀ a, a ∈ l → a.ok (KN keys) ∧ (∀ cs, a ≠ .agg cs) ∧ (∀ cs, a ≠ .tup cs) ∧ ∀ g xs ys, a ≠ .fn g xs ys

theorem rcs0K_out {keys : List Nat} {ρ : List (Nat × Nat)} {nm : Nat} {l : List AV} {K : List AV → Prop} (h : rcs0K keys ρ nm l K) : K (l.map (AV.rn0 ρ nm)) ∧ Simple keys l := by
  induction l generalizing K with
  | nil => exact ⟨h, fun a ha => by cases ha⟩
  | cons a l ih =>
    obtain ⟨h1, h2⟩ := rc0K_out h
    obtain ⟨h3, h4⟩ := ih h1
    exact ⟨h3, fun b hb => by
      rcases List.mem_cons.1 hb with rfl | hb
      · exact h2
      · exact h4 b hb⟩

def rcK (keys : List Nat) (ρ : List (Nat × Nat)) (nm : Nat) (a : AV) (K : AV → Prop) : Prop :=
  match a with
  | .agg cs => rcs0K keys ρ nm cs fun cs => K (.agg cs)
  | .tup cs => rcs0K keys ρ nm cs fun cs => K (.tup cs)
  | .fn g as bs => rcs0K keys ρ nm as fun as => rcs0K keys ρ nm bs fun bs => K (.fn g as bs)
  | a => rc0K keys ρ nm a K

/-- What a renaming of a is good for. -/
structure Ren (keys : List Nat) (ρ : List (Nat × Nat)) (nm : Nat) (a : AV) : Prop where
  ok : a.ok (KN keys)
  one : (a.rn ρ nm).one = a.one
  okr : ∀ q : Nat → Prop, (∀ k, KN keys k → q (Eng.rn ρ nm k)) → (a.rn ρ nm).ok q
  rd : ∀ (w : World) (α α' : Nat → Loc) (X X' : Nat → Prop) (v : Value), RdA w α' X a v → (∀ b, (∃ o, w.heap[b]? = some o) → X' b → X b) → (∀ k, KN keys k → α (Eng.rn ρ nm k) = α' k) → RdA w α X' (a.rn ρ nm) v

theorem ren0_rd {keys : List Nat} {ρ : List (Nat × Nat)} {nm : Nat} {a : AV} (h : a.ok (KN keys)) (h1 : ∀ cs, a ≠ .agg cs) (h2 : ∀ cs, a ≠ .tup cs) (h3 : ∀ g xs ys, a ≠ .fn g xs ys) :
    (a.rn0 ρ nm).one = a.one ∧ (∀ q : Nat → Prop, (∀ k, KN keys k → q (Eng.rn ρ nm k)) → (a.rn0 ρ nm).ok q) ∧
    ∀ (w : World) (α α' : Nat → Loc) (X X' : Nat → Prop) (v : Value), RdA w α' X a v → (∀ b, (∃ o, w.heap[b]? = some o) → X' b → X b) → (∀ k, KN keys k → α (Eng.rn ρ nm k) = α' k) → RdA w α X' (a.rn0 ρ nm) v := by
  have hm : ∀ {w : World} {X X' : Nat → Prop} {x : D} {u : Value}, (∀ b, (∃ o, w.heap[b]? = some o) → X' b → X b) → Rd w X x u → Rd w X' x u :=
    fun hX h => h.mono fun b o hb hn => ⟨hb, fun h => hn (hX b ⟨o, hb⟩ h)⟩
  cases h with
  | any => exact ⟨rfl, fun q _ => .any, fun w α α' X X' v hr _ _ => .any v⟩
  | ab => exact ⟨rfl, fun q _ => .ab, fun w α α' X X' v hr _ _ => by cases hr; exact .ab _⟩
  | ap => exact ⟨rfl, fun q _ => .ap, fun w α α' X X' v hr _ _ => by cases hr; exact .ap _⟩
  | d x => exact ⟨rfl, fun q _ => .d x, fun w α α' X X' v hr hX _ => .d _ _ (hm hX hr.dinv)⟩
  | agg cs _ => exact absurd rfl (h1 cs)
  | op k i j hk =>
    refine ⟨rfl, fun q hq => .op _ _ _ (hq k hk), fun w α α' X X' v hr hX hα => ?_⟩
    cases hr
    rw [← hα k hk]; exact .op _ _ _
  | os k hk =>
    refine ⟨rfl, fun q hq => .os _ (hq k hk), fun w α α' X X' v hr hX hα => ?_⟩
    cases hr with
    | os _ ho => rw [← hα k hk] at ho ⊢; exact .os _ ho
  | nl s => exact ⟨rfl, fun q _ => .nl s, fun w α α' X X' v hr _ _ => by cases hr; exact .nl _⟩
  | pp x i =>
    refine ⟨rfl, fun q _ => .pp x i, fun w α α' X X' v hr hX _ => ?_⟩
    cases hr with
    | pp _ _ blk off arr T fz f hh hx g1 g2 => exact .pp _ _ blk off arr T fz f hh (fun h => hx (hX _ ⟨_, hh⟩ h)) g1 fun j c hc => hm hX (g2 j c hc)
  | gp g => exact ⟨rfl, fun q _ => .gp g, fun w α α' X X' v hr _ _ => by cases hr; exact .gp _⟩
  | tup cs _ => exact absurd rfl (h2 cs)
  | fn g as bs _ _ => exact absurd rfl (h3 g as bs)

theorem rcK_out {keys : List Nat} {ρ : List (Nat × Nat)} {nm : Nat} {a : AV} {K : AV → Prop} (h : rcK keys ρ nm a K) : K (a.rn ρ nm) ∧ Ren keys ρ nm a := by
  have lst : ∀ {cs : List AV}, Simple keys cs → ∀ {w : World} {α α' : Nat → Loc} {X X' : Nat → Prop} {vs : Array Value}, (∀ (j : Nat) (c : AV) (v : Value), cs[j]? = some c → vs[j]? = some v → RdA w α' X c v) →
      (∀ b, (∃ o, w.heap[b]? = some o) → X' b → X b) → (∀ k, KN keys k → α (Eng.rn ρ nm k) = α' k) → ∀ (j : Nat) (c : AV) (v : Value), (cs.map (AV.rn0 ρ nm))[j]? = some c → vs[j]? = some v → RdA w α X' c v := by
    intro cs hs w α α' X X' vs hc hX hα j c v h1 h2
    simp only [List.getElem?_map, Option.map_eq_some_iff] at h1
    obtain ⟨a, ha, rfl⟩ := h1
    obtain ⟨g1, g2, g3, g4⟩ := hs a (List.mem_of_getElem? ha)
    exact (ren0_rd g1 g2 g3 g4).2.2 w α α' X X' v (hc j a v ha h2) hX hα
  have lok : ∀ {cs : List AV}, Simple keys cs → ∀ q : Nat → Prop, (∀ k, KN keys k → q (Eng.rn ρ nm k)) → ∀ c, c ∈ cs.map (AV.rn0 ρ nm) → c.ok q := by
    intro cs hs q hq c hc
    obtain ⟨a, ha, rfl⟩ := List.mem_map.1 hc
    obtain ⟨g1, g2, g3, g4⟩ := hs a ha
    exact (ren0_rd g1 g2 g3 g4).2.1 q hq
  have base : (∀ cs, a ≠ .agg cs) → (∀ cs, a ≠ .tup cs) → (∀ g xs ys, a ≠ .fn g xs ys) → rc0K keys ρ nm a K → K (a.rn ρ nm) ∧ Ren keys ρ nm a := by
    intro h1 h2 h3 h
    obtain ⟨hk, hok, _⟩ := rc0K_out h
    have e : a.rn ρ nm = a.rn0 ρ nm := by
      cases a <;> first | rfl | exact absurd rfl (h1 _) | exact absurd rfl (h2 _) | exact absurd rfl (h3 _ _ _)
    obtain ⟨g1, g2, g3⟩ := ren0_rd (ρ := ρ) (nm := nm) hok h1 h2 h3
    rw [e]
    exact ⟨hk, hok, by rw [e]; exact g1, by rw [e]; exact g2, by rw [e]; exact g3⟩
  unfold rcK at h
  split at h
  · obtain ⟨h1, h2⟩ := rcs0K_out h
    refine ⟨h1, .agg _ fun c hc => (h2 c hc).1, rfl, fun q hq => .agg _ (lok h2 q hq), fun w α α' X X' v hr hX hα => ?_⟩
    cases hr with
    | agg _ vs hl hc => exact .agg _ vs (by simpa using hl) (lst h2 hc hX hα)
  · obtain ⟨h1, h2⟩ := rcs0K_out h
    refine ⟨h1, .tup _ fun c hc => (h2 c hc).1, rfl, fun q hq => .tup _ (lok h2 q hq), fun w α α' X X' v hr hX hα => ?_⟩
    cases hr with
    | tup _ vs hl hc => exact .tup _ vs (by simpa using hl) (lst h2 hc hX hα)
  · obtain ⟨h1, h2⟩ := rcs0K_out h
    obtain ⟨h3, h4⟩ := rcs0K_out h1
    refine ⟨h3, .fn _ _ _ (fun c hc => (h2 c hc).1) fun c hc => (h4 c hc).1, rfl, fun q hq => .fn _ _ _ (lok h2 q hq) (lok h4 q hq), fun w α α' X X' v hr hX hα => ?_⟩
    cases hr with
    | fn _ _ _ va vb l1 l2 c1 c2 => exact .fn _ _ _ va vb (by simpa using l1) (by simpa using l2) (lst h2 c1 hX hα) (lst h4 c2 hX hα)
  · rename_i h1 h2 h3
    exact base h1 h2 h3 h

def rcsK (keys : List Nat) (ρ : List (Nat × Nat)) (nm : Nat) : List AV → (List AV → Prop) → Prop
  | [], K => K []
  | a :: l, K => rcK keys ρ nm a fun a => rcsK keys ρ nm l fun l => K (a :: l)

theorem rcsK_out {keys : List Nat} {ρ : List (Nat × Nat)} {nm : Nat} {l : List AV} {K : List AV → Prop} (h : rcsK keys ρ nm l K) : K (l.map (AV.rn ρ nm)) ∧ ∀ a, a ∈ l → Ren keys ρ nm a := by
  induction l generalizing K with
  | nil => exact ⟨h, fun a ha => by cases ha⟩
  | cons a l ih =>
    obtain ⟨h1, h2⟩ := rcK_out h
    obtain ⟨h3, h4⟩ := ih h1
    exact ⟨h3, fun b hb => by
      rcases List.mem_cons.1 hb with rfl | hb
      · exact h2
      · exact h4 b hb⟩

def Ent.rn (ρ : List (Nat × Nat)) (nm : Nat) : Ent → Ent
  | .box cs T => .box (cs.map (AV.rn ρ nm)) T
  | e => e

def reK (keys : List Nat) (ρ : List (Nat × Nat)) (nm : Nat) (e : Ent) (K : Ent → Prop) : Prop :=
  match e with
  | .box cs T => rcsK keys ρ nm cs fun cs => K (.box cs T)
  | .arr s xs => K (.arr s xs)
  | .buf s xs T => K (.buf s xs T)

theorem reK_out {keys : List Nat} {ρ : List (Nat × Nat)} {nm : Nat} {e : Ent} {K : Ent → Prop} (h : reK keys ρ nm e K) : K (e.rn ρ nm) ∧ ∀ a, a ∈ e.vars → Ren keys ρ nm a := by
  unfold reK at h
  split at h
  · exact rcsK_out h
  · exact ⟨h, fun a ha => by cases ha⟩
  · exact ⟨h, fun a ha => by cases ha⟩

/-- The rows after the call, ahead of the row tail. -/
def updHK (keys : List Nat) (ρ : List (Nat × Nat)) (nm : Nat) (tail : List (Nat × Option Ent)) : List (Nat × Option Ent) → (List (Nat × Option Ent) → Prop) → Prop
  | [], K => K tail
  | (k, some e) :: r, K => rnK keys ρ nm k fun k => reK keys ρ nm e fun e => updHK keys ρ nm tail r fun u => K ((k, some e) :: u)
  | (_, none) :: _, _ => False

def rnEnt (ρ : List (Nat × Nat)) (nm : Nat) (x : Nat × Option Ent) : Nat × Option Ent := (rn ρ nm x.1, x.2.map (Ent.rn ρ nm))

theorem updHK_out {keys : List Nat} {ρ : List (Nat × Nat)} {nm : Nat} {tail : List (Nat × Option Ent)} {l : List (Nat × Option Ent)} {K : List (Nat × Option Ent) → Prop} (h : updHK keys ρ nm tail l K) :
    K (l.map (rnEnt ρ nm) ++ tail) ∧ ∀ k oe, (k, oe) ∈ l → KN keys k ∧ ∃ e, oe = some e ∧ ∀ a, a ∈ e.vars → Ren keys ρ nm a := by
  induction l generalizing K with
  | nil => exact ⟨h, fun k oe hk => by cases hk⟩
  | cons x l ih =>
    obtain ⟨k, oe⟩ := x
    cases oe with
    | none => exact h.elim
    | some e =>
      obtain ⟨h1, h2⟩ := rnK_out h
      obtain ⟨h3, h4⟩ := reK_out h1
      obtain ⟨h5, h6⟩ := ih h3
      refine ⟨h5, fun k' oe' hk' => ?_⟩
      rcases List.mem_cons.1 hk' with he | hk'
      · cases he; exact ⟨h2, e, rfl, h4⟩
      · exact h6 k' oe' hk'

def outK (rs : List AV) (K : AV → Prop) : Prop := match rs with | [r] => K r | rs => K (.tup rs)
def outAV (rs : List AV) : AV := match rs with | [r] => r | rs => .tup rs
theorem outK_out {rs : List AV} {K : AV → Prop} (h : outK rs K) : K (outAV rs) := by
  unfold outK at h; unfold outAV
  split at h
  · exact h
  · exact h

def nones (l : List Nat) : List (Nat × Option Ent) := match l with | [] => [] | k :: r => (k, none) :: nones r
theorem nones_eq (l : List Nat) : nones l = l.map fun k => (k, none) := by
  induction l with
  | nil => rfl
  | cons k r ih => simp [nones, ih]

def appN (l m : List Nat) : List Nat := match l with | [] => m | x :: r => x :: appN r m
theorem appN_eq (l m : List Nat) : appN l m = l ++ m := by
  induction l with
  | nil => rfl
  | cons k r ih => simp [appN, ih]

def subN (l m : List Nat) : Bool := match l with | [] => true | x :: r => match hasN m x with | true => subN r m | false => false
theorem subN_get {l m : List Nat} (h : subN l m = true) : ∀ x, x ∈ l → x ∈ m := by
  induction l with
  | nil => intro x hx; cases hx
  | cons y r ih =>
    simp only [subN] at h
    split at h
    · rename_i hb
      intro x hx
      rcases List.mem_cons.1 hx with rfl | hx
      · exact hasN_iff.1 hb
      · exact ih h x hx
    · cases h

/-- Rows that may be read as data: those of us. -/
def chkH (us vs : List Nat) : Bool := subN vs us

def leArgs (st : AS) (chk : List Nat → Bool) (ρ : List (Nat × Nat)) : List AV → List AV → Prop
  | [], [] => True
  | a :: l, b :: m => avLe st chk ρ 1 a b ∧ leArgs st chk ρ l m
  | _, _ => False

theorem leArgs_get {st : AS} {chk : List Nat → Bool} {ρ : List (Nat × Nat)} : ∀ {l m : List AV}, leArgs st chk ρ l m → l.length = m.length ∧ ∀ (j : Nat) (a b : AV), l[j]? = some a → m[j]? = some b → avLe st chk ρ 1 a b
  | [], [], _ => ⟨rfl, fun j a b h => by simp at h⟩
  | a :: l, b :: m, h => by
    obtain ⟨h1, h2⟩ := leArgs_get h.2
    refine ⟨by simp [h1], fun j x y hx hy => ?_⟩
    cases j with
    | zero => simp at hx hy; subst hx hy; exact h.1
    | succ j => exact h2 j x y (by simpa using hx) (by simpa using hy)
  | [], _ :: _, h => h.elim
  | _ :: _, [], h => h.elim

def keysOf (own : List (Nat × Option Ent)) : List Nat := match own with | [] => [] | x :: r => x.1 :: keysOf r
theorem keysOf_eq (own : List (Nat × Option Ent)) : keysOf own = own.map (·.1) := by
  induction own with
  | nil => rfl
  | cons k r ih => simp [keysOf, ih]

def keptN (ρ : List (Nat × Nat)) (own : List (Nat × Option Ent)) : List Nat := match own with | [] => [] | x :: r => rho ρ x.1 :: keptN ρ r
theorem keptN_eq (ρ : List (Nat × Nat)) (own : List (Nat × Option Ent)) : keptN ρ own = keptOf ρ own := by
  induction own with
  | nil => rfl
  | cons k r ih => simp [keptN, ih, keptOf]

/-- The caller's view says at least what the contract asks. -/
structure LeH (st : AS) (ρ : List (Nat × Nat)) (us : List Nat) (as bs : List AV) (own : List (Nat × Option Ent)) : Prop where
  args : leArgs st (chkH us) ρ as bs
  rows : ownLe (chkH us) ρ 1 st own
  inj : injN ρ own = true
  off : offB (keptN ρ own) us = true
  nil : rho ρ 14 = 14

/-- A call of f with as; ρ: the caller's names of the rows that are lent; us: rows that are read as data (and given up). -/
structure CallHK (C : Ctx) (CA : Array Value → World → (Ending → World → Prop) → Prop) (st : AS) (nm : Nat) (f : FuncId) (as : List AV) (K : KO) : Prop where
  out : ∃ bs own rs own' ρ us, DoesG C CA f bs own rs own' ∧ LeH st ρ us as bs own ∧
    updHK (keysOf own) ρ nm (nones (appN (keptN ρ own) us)) own' fun upd => rcsK (keysOf own) ρ nm rs fun rs => outK rs fun out => K out upd (appN (keptN ρ own) us)

/-- A function outside Go that gives back what it is given. -/
def SameFn (C : Ctx) (f : FuncId) : Prop := ∀ v w, (callFunc f #[v]).run C.P w = .ok (.value v) w

structure CallNK (C : Ctx) (st : AS) (nm : Nat) (f : FuncId) (as : List AV) (K : KO) : Prop where
  out : CallHK C (Calls C.P f) st nm f as K ∨ (SameFn C f ∧ ∃ a, as = [a] ∧ K a [] [])
theorem call_same {C : Ctx} {st : AS} {nm : Nat} {f : FuncId} {a : AV} {K : KO} (h : SameFn C f) (h1 : K a [] []) : CallNK C st nm f [a] K := ⟨.inr ⟨h, a, rfl, h1⟩⟩

/-- Rows that are handed over as data. -/
def osIn : List AV → List Nat → List Nat
  | [], r => r
  | a :: l, r => match a with | .os k => k :: osIn l r | _ => osIn l r
def usOf : List AV → List AV → List Nat
  | a :: l, b :: m => match b with
    | .d _ => (match a with | .os k => k :: usOf l m | .agg cs => osIn cs (usOf l m) | _ => usOf l m)
    | _ => usOf l m
  | _, _ => []

theorem callh {C : Ctx} {st : AS} {nm : Nat} {f : FuncId} {as : List AV} {K : KO} {bs : List AV} {own : List (Nat × Option Ent)} {rs : List AV} {own' : List (Nat × Option Ent)} (ρ : List (Nat × Nat))
    (h : DoesH C f bs own rs own') (h1 : LeH st ρ (usOf as bs) as bs own) (h2 : updHK (keysOf own) ρ nm (nones (appN (keptN ρ own) (usOf as bs))) own' fun upd => rcsK (keysOf own) ρ nm rs fun rs => outK rs fun out => K out upd (appN (keptN ρ own) (usOf as bs))) :
    CallNK C st nm f as K := ⟨.inl ⟨bs, own, rs, own', ρ, _, h, h1, h2⟩⟩

/-- The call that was deferred. -/
theorem callh_def {C : Ctx} {st : AS} {nm : Nat} {f : FuncId} {as : List AV} {K : KO} {bs : List AV} {own : List (Nat × Option Ent)} {rs : List AV} {own' : List (Nat × Option Ent)} (ρ : List (Nat × Nat))
    (h : DoesW C f bs own rs own') (h1 : LeH st ρ (usOf as bs) as bs own) (h2 : updHK (keysOf own) ρ nm (nones (appN (keptN ρ own) (usOf as bs))) own' fun upd => rcsK (keysOf own) ρ nm rs fun rs => outK rs fun out => K out upd (appN (keptN ρ own) (usOf as bs))) :
    CallHK C (CallsW C.P f) st nm f as K := ⟨bs, own, rs, own', ρ, _, h, h1, h2⟩

theorem callh_by {C : Ctx} {st : AS} {nm : Nat} {f : FuncId} {as : List AV} {K : KO} {bs : List AV} {own : List (Nat × Option Ent)} {rs : List AV} {own' : List (Nat × Option Ent)} (ρ : List (Nat × Nat)) (us : List Nat)
    (h : DoesH C f bs own rs own') (h1 : LeH st ρ us as bs own) (h2 : updHK (keysOf own) ρ nm (nones (appN (keptN ρ own) us)) own' fun upd => rcsK (keysOf own) ρ nm rs fun rs => outK rs fun out => K out upd (appN (keptN ρ own) us)) :
    CallNK C st nm f as K := ⟨.inl ⟨bs, own, rs, own', ρ, us, h, h1, h2⟩⟩

/-- The call of f with ds. -/
structure CallK (C : Ctx) (f : FuncId) (ds : List D) (K : List D → Prop) (alt : Prop) : Prop where
  out : (∃ rs, Does C f ds rs ∧ K rs) ∨ alt
theorem call_by {C : Ctx} {f : FuncId} {ds rs : List D} {K : List D → Prop} {alt : Prop} (h : Does C f ds rs) (h1 : K rs) : CallK C f ds K alt := ⟨.inl ⟨rs, h, h1⟩⟩
theorem call_alt {C : Ctx} {f : FuncId} {ds : List D} {K : List D → Prop} {alt : Prop} (h : alt) : CallK C f ds K alt := ⟨.inr h⟩

def AV.plain0 : AV → Bool
  | .d _ | .nl _ | .os _ => true
  | _ => false
def plain0s : List AV → Bool
  | [] => true
  | a :: l => match a.plain0 with | true => plain0s l | false => false
def AV.plain : AV → Bool
  | .d _ | .nl _ | .os _ => true
  | .agg cs => plain0s cs
  | _ => false
def plains : List AV → Bool
  | [] => true
  | a :: l => match a.plain with | true => plains l | false => false

def goK (C : Ctx) (st : AS) (nm : Nat) (f : FuncId) (as : List AV) (K : KO) : Prop :=
  match plains as with
  | true => argsK st as fun ds us => CallK C f ds (fun rs => retK rs us K) (CallNK C st nm f as K)
  | false => CallNK C st nm f as K

end Go.Eng

/-
  Calls: their reckonings speak true.
-/
namespace Go.Eng
open Go.RowKit (Below)

section
variable {C : Ctx} {n : Nat} {o : Oper} {nm : Nat} {st : AS} {K : KO}

/-- What operation o does: it calls f at what reads as as. -/
def Enters (C : Ctx) (n : Nat) (o : Oper) (st : AS) (f : FuncId) (as : List AV) : Prop :=
  HasBody C f → ∀ (X0 : Nat → Prop) (F : Fr) (w0 : World) (p : Nat → Prop) (α : Nat → Loc) (S : SS) (a : Act) (w : World), Sim C.G X0 F w0 n p α S a w →
    (∀ t, Operand.tmp t ∈ o.op.operands → ∀ av, st.ss.env t = some av → S.env t = some av) →
    ∃ vs : Array Value, as.length = vs.size ∧ (∀ (j : Nat) (av : AV) (v : Value), as[j]? = some av → vs[j]? = some v → RdA w α (XX α S.own X0) av v) ∧
      ∀ (next : Act → World → Prop) (Q : Exit → Act → World → Prop), Calls C.P f vs w (fun e w' => ∃ v, e = .returned v ∧ next (a.put o.dst v) w') → o.wp C.P a w next Q

theorem call_core {f : FuncId} {as : List AV} (hE : Enters C n o st f as) (h : argsK st as fun ds us => ∃ rs, Does C f ds rs ∧ retK rs us K) :
    ∃ out upd rd, K out upd rd ∧ VOp C n o nm st rd out upd := by
  replace h := argsK_out h; obtain ⟨ds, us, h, h2, h3, h4⟩ := h
  obtain ⟨rs, ⟨hbody, hP⟩, h⟩ := h
  have main : ∀ (kills : List Nat), (∀ k, k ∈ kills → k ∈ us) → (kills = us ∨ ∀ d, d ∈ rs → d.flat = true) → VOp C n o nm st us (retAV rs) (kills.map fun k => (k, none)) := by
    intro kills hku hor
    have hlk : ∀ k oe, look (kills.map fun k => (k, (none : Option Ent))) k = some oe → k ∈ kills ∧ oe = none := by
      intro k oe hl
      rcases look_kills (β := Ent) kills k with h | ⟨h, hm⟩
      · rw [h] at hl; cases hl
      · rw [h] at hl; cases hl; exact ⟨hm, rfl⟩
    have hin : ∀ k, k ∈ kills → look (kills.map fun k => (k, (none : Option Ent))) k = some none := by
      intro k hk
      clear hku hor hlk
      induction kills with
      | nil => cases hk
      | cons x l ih =>
        simp only [List.map_cons, look]
        split
        · rfl
        · rename_i hb
          rcases List.mem_cons.1 hk with rfl | hk
          · simp at hb
          · exact ih hk
    refine ⟨fun k oe hl => .inl (hku k (hlk k oe hl).1), fun X0 F w0 p α S a w Q next hs he ho' _ hd hn => ?_⟩
    obtain ⟨vs, hvl, hvr, hrun⟩ := hE hbody X0 F w0 p α S a w hs he
    let X1 : Nat → Prop := fun b => XX α S.own X0 b ∧ ∀ k, k ∈ us → (α k).nil = false → (α k).blk ≠ b
    have hX1 : ∀ b, X1 b → XX α S.own X0 b := fun b h => h.1
    have hXlt : ∀ b, XX α S.own X0 b → b < w.heap.size := by
      rintro b (⟨k, e, hk, hnil, rfl⟩ | hx)
      · exact (hs.own k e hk).lt hnil
      · exact Nat.lt_of_lt_of_le (hs.x0 b hx) hs.grow
    refine hrun _ _ ?_
    refine (hP w X1 vs (fun b hb => hXlt b (hX1 b hb)) (fun x hx => ?_) (by omega) ?_).mono ?_
    · obtain ⟨hg1, _⟩ := hs.gl x hx
      obtain ⟨arr, T, fz, hh, hX, hsz, hw, hr⟩ := gl_at hs hx
      refine ⟨Nat.lt_of_lt_of_le hg1 hs.grow, fun h => hX (hX1 _ h), arr, T, fz, hh, hsz, hw, fun j m d c hj hm => ?_⟩
      obtain ⟨v, hv, hr'⟩ := hr j m d c hj hm
      exact ⟨v, hv, hr'.mono fun b o hb hn => ⟨hb, fun h => hn (hX1 b h)⟩⟩
    · intro j d v hj hv
      obtain ⟨av, hav⟩ : ∃ av, as[j]? = some av := by
        have : j < as.length := by rw [← h2]; exact (List.getElem?_eq_some_iff.1 hj).1
        exact ⟨as[j], by simp [this]⟩
      obtain ⟨vs', h5, h6⟩ := h4 j av d hav hj
      refine h5.rd w α (XX α S.own X0) X1 _ (hvr j av v hav hv) (fun k hk e hke => hs.own k e (ho' k (h6 k hk) e hke)) hX1 fun k hk hnil hb => ?_
      exact hb.2 k (h6 k hk) hnil rfl
    · rintro e w' ⟨v, rfl, hr, hB⟩
      refine ⟨v, rfl, hn α v w' ?_⟩
      refine hs.upd _ (fun k hk => .inl hk) α w' o.dst hd (retAV rs) _ v (fun _ _ => rfl) hB.size hB.os hB.tape hB.output (fun b hb _ => hB.block b hb) ?_ ?_ ?_ ?_ ?_ retAV_ok
      · intro k e hl; cases (hlk k _ hl).2
      · intro k e hl; cases (hlk k _ hl).2
      · intro k e k' e' hl; cases (hlk k _ hl).2
      · intro _ k e hl; cases (hlk k _ hl).2
      · intro hw
        refine retAV_inv hr fun d u hd' hru => ?_
        rcases hor with rfl | hflat
        · refine hru.mono fun b ob hb hnx => ⟨hb, fun hX' => hnx ?_⟩
          rcases hX' with ⟨k, e, hk, hnil, rfl⟩ | hx
          · have hkn : k ∉ kills ∧ S.own k = some e := by
              simp only [SS.upd] at hk
              rcases look_kills (β := Ent) kills k with h | ⟨h, hm⟩
              · rw [h] at hk
                refine ⟨fun hm => ?_, hk⟩
                rw [hin k hm] at h; cases h
              · rw [h] at hk; cases hk
            refine ⟨.inl ⟨k, e, hkn.2, hnil, rfl⟩, fun k' hk' hnil' hbb => ?_⟩
            obtain ⟨e', he'⟩ := h3 k' hk'
            have := hs.inj k' e' k e (ho' k' hk' e' he') hkn.2 hnil' hnil hbb
            subst this; exact hkn.1 hk'
          · refine ⟨.inr hx, fun k' hk' hnil' hbb => ?_⟩
            obtain ⟨e', he'⟩ := h3 k' hk'
            have := (hs.mine k' e' (ho' k' hk' e' he') hnil').2
            rw [hbb] at this; exact this hx
        · exact hru.flat (hflat d hd')
  unfold retK at h
  split at h
  · have := main [] (fun k hk => by cases hk) (.inl rfl)
    split at h
    · exact ⟨_, _, _, h, this⟩
    · exact ⟨_, _, _, h, this⟩
  · split at h
    · split at h
      · rename_i hfl
        exact ⟨_, _, _, h, main [] (fun k hk => by cases hk) (.inr fun d hd => by simp at hd; subst hd; exact hfl)⟩
      · exact ⟨_, _, _, h, main _ (fun k hk => hk) (.inl rfl)⟩
    · exact ⟨_, _, _, h, main _ (fun k hk => hk) (.inl rfl)⟩

theorem look_append' {β : Type} (l m : List (Nat × β)) (k : Nat) : look (l ++ m) k = match look l k with | some v => some v | none => look m k := by
  induction l with
  | nil => rfl
  | cons x l ih =>
    simp only [List.cons_append, look]
    split
    · rfl
    · exact ih

theorem look_pref {β : Type} {l m : List (Nat × β)} {k : Nat} {v : β} (h : look (l ++ m) k = some v) : look l k = some v ∨ (look l k = none ∧ look m k = some v) := by
  rw [look_append'] at h
  cases hl : look l k with
  | none => rw [hl] at h; exact .inr ⟨rfl, h⟩
  | some u => rw [hl] at h; exact .inl h

theorem look_mem_some {β : Type} {l : List (Nat × β)} {k : Nat} {v : β} (h : (k, v) ∈ l) : (look l k).isSome = true := by
  induction l with
  | nil => cases h
  | cons x l ih =>
    obtain ⟨y, u⟩ := x
    simp only [look]
    split
    · rfl
    · rename_i hb
      rcases List.mem_cons.1 h with he | h
      · cases he; simp at hb
      · exact ih h

theorem look_rn {ρ : List (Nat × Nat)} {nm : Nat} {k : Nat} {oe : Option Ent} : ∀ {l : List (Nat × Option Ent)}, (∀ k oe, (k, oe) ∈ l → ∃ e, oe = some e) → look (l.map (rnEnt ρ nm)) k = some oe →
    ∃ k' e', look l k' = some (some e') ∧ (k', some e') ∈ l ∧ k = rn ρ nm k' ∧ oe = some (e'.rn ρ nm)
  | [], _, h => by simp [look] at h
  | (y, oy) :: l, hall, h => by
    obtain ⟨ey, rfl⟩ := hall y oy List.mem_cons_self
    simp only [List.map_cons, rnEnt, look, Option.map_some] at h
    split at h
    · rename_i hb
      cases h
      exact ⟨y, ey, by simp [look], List.mem_cons_self, Nat.eq_of_beq_eq_true hb, rfl⟩
    · rename_i hb
      obtain ⟨k', e', h1, h2, h3, h4⟩ := look_rn (fun k oe hk => hall k oe (List.mem_cons_of_mem _ hk)) h
      refine ⟨k', e', ?_, List.mem_cons_of_mem _ h2, h3, h4⟩
      simp only [look]
      split
      · rename_i hb2
        have := Nat.eq_of_beq_eq_true hb2
        subst this
        rw [h3] at hb; simp at hb
      · exact h1

theorem ren_own {keys : List Nat} {ρ : List (Nat × Nat)} {nm : Nat} {w : World} {α α' : Nat → Loc} {X X' : Nat → Prop} {k : Nat} {e : Ent} (h : Own w α' X k e) (hren : ∀ a, a ∈ e.vars → Ren keys ρ nm a)
    (hX : ∀ b, (∃ o, w.heap[b]? = some o) → X' b → X b) (hk : α (rn ρ nm k) = α' k) (hα : ∀ k, KN keys k → α (rn ρ nm k) = α' k) : Own w α X' (rn ρ nm k) (e.rn ρ nm) := by
  have hm : ∀ {x : D} {u : Value}, Rd w X x u → Rd w X' x u := fun h => h.mono fun b o hb hn => ⟨hb, fun h => hn (hX b ⟨o, hb⟩ h)⟩
  rcases h with ⟨h1, ⟨sz, _, rfl⟩, h3⟩ | ⟨h1, arr, T, fz, cap, hB⟩
  · exact .inl ⟨by rw [hk]; exact h1, ⟨sz, _, rfl⟩, by rw [hk]; exact h3⟩
  · refine .inr ⟨by rw [hk]; exact h1, arr, T, fz, cap, ?_⟩
    rw [hk]
    cases e with
    | box cs T0 =>
      have hl : (Ent.rn ρ nm (.box cs T0)).sz = (Ent.box cs T0).sz := by simp [Ent.rn, Ent.sz]
      refine ⟨hB.heap, by rw [hl]; exact hB.hsz, hB.len, by rw [hl]; exact hB.bnd, by rw [hl]; exact hB.nf, ?_, fun j m c hc => ?_, (fun sz xs _ he => by cases he), hB.hone, fun V hV => ⟨(hB.ty V hV).1, (hB.ty V hV).2.1, fun cs' V' h => by cases h; rw [List.length_map]; exact (hB.ty V hV).2.2 cs T0 rfl⟩⟩
      · intro c hc
        obtain ⟨a, ha, rfl⟩ := List.mem_map.1 (show c ∈ cs.map (AV.rn ρ nm) from hc)
        rw [(hren a ha).one]; exact hB.wid a ha
      · rw [hl]
        simp only [Ent.rn, Ent.cell] at hc
        split at hc
        · rename_i hj
          subst hj
          simp only [List.getElem?_map, Option.map_eq_some_iff] at hc
          obtain ⟨a, ha, rfl⟩ := hc
          obtain ⟨u, h7, h8⟩ := hB.rd 0 m a (by simp [Ent.cell, ha])
          exact ⟨u, h7, (hren a (List.mem_of_getElem? ha)).rd w α α' X X' u h8 hX hα⟩
        · cases hc
    | arr s xs =>
      refine ⟨hB.heap, hB.hsz, hB.len, hB.bnd, hB.nf, hB.wid, fun j m c hc => ?_, hB.hv, hB.hone, hB.ty⟩
      obtain ⟨u, h7, h8⟩ := hB.rd j m c hc
      simp only [Ent.rn, Ent.cell, Option.bind_eq_some_iff, Option.map_eq_some_iff] at hc
      obtain ⟨x, _, y, _, rfl⟩ := hc
      exact ⟨u, h7, .d _ _ (hm h8.dinv)⟩
    | buf s xs _ =>
      refine ⟨hB.heap, hB.hsz, hB.len, hB.bnd, hB.nf, hB.wid, fun j m c hc => ?_, hB.hv, hB.hone, hB.ty⟩
      obtain ⟨u, h7, h8⟩ := hB.rd j m c hc
      simp only [Ent.rn, Ent.cell, Option.bind_eq_some_iff, Option.map_eq_some_iff] at hc
      obtain ⟨x, _, y, _, rfl⟩ := hc
      exact ⟨u, h7, .d _ _ (hm h8.dinv)⟩

/-- What a call by a contract over lent rows leaves, at one view. -/
theorem callh_point {CA : Array Value → World → (Ending → World → Prop) → Prop} {f : FuncId} {as : List AV} (hmono : ∀ {vs : Array Value} {w : World} {R R' : Ending → World → Prop}, CA vs w R → (∀ e w', R e w' → R' e w') → CA vs w R') (h : CallHK C CA st nm f as K) :
    ∃ out upd rd, K out upd rd ∧ HasBody C f ∧ (∀ k oe, look upd k = some oe → k ∈ rd ∨ fam nm k) ∧
      ∀ (n : Nat) (X0 : Nat → Prop) (F : Fr) (w0 : World) (p : Nat → Prop) (α : Nat → Loc) (S : SS) (a : Act) (w : World), Sim C.G X0 F w0 n p α S a w → (∀ k, k ∈ rd → ∀ e, st.ss.own k = some e → S.own k = some e) → (∀ k, fam nm k → ¬ p k) →
        ∀ (vs : Array Value), as.length = vs.size → (∀ (j : Nat) (av : AV) (v : Value), as[j]? = some av → vs[j]? = some v → RdA w α (XX α S.own X0) av v) → ∀ dst : Option Nat, (∀ d, dst = some d → d < n) →
          CA vs w fun e w' => ∃ v, e = .returned v ∧ ∃ α', Sim C.G X0 F w0 n (fun k => p k ∨ fam nm k) α' (S.upd dst out upd) (a.put dst v) w' := by
  obtain ⟨bs, own, rs, own', ρ, us, ⟨hbody, hP⟩, ⟨hargs, hrows, hinj, hoff, hr14⟩, h⟩ := h
  obtain ⟨h, hupd⟩ := updHK_out h
  obtain ⟨h, hren⟩ := rcsK_out h
  replace h := outK_out h
  rw [keysOf_eq] at hupd hren
  rw [keptN_eq] at hoff
  generalize hkeys : own.map (·.1) = keys at hupd hren
  refine ⟨_, _, _, h, hbody, ?_⟩
  clear h
  rw [nones_eq, appN_eq, keptN_eq]
  generalize hU : own'.map (rnEnt ρ nm) ++ (keptOf ρ own ++ us).map (fun k => (k, (none : Option Ent))) = U
  have hoff' : ∀ k, k ∈ us → k ∉ keptOf ρ own := fun k hk => no_meet (by simpa [offB] using hoff) hk
  have hown : ∀ k oe, look own k = some oe → ∃ e' e, oe = some e' ∧ k < 16 ∧ st.ss.own (rho ρ k) = some e ∧ entLe st (chkH us) ρ 1 e e' := by
    intro k oe hl
    obtain ⟨e', e, h1, h2, h3, h4⟩ := ownLe_get hrows k oe hl
    exact ⟨e', e, h1, by omega, h3, h4⟩
  have hkey : ∀ k, k ∈ keys → ∃ oe, look own k = some oe := by
    intro k hk
    rw [← hkeys] at hk
    obtain ⟨⟨k', oe⟩, hm, rfl⟩ := List.mem_map.1 hk
    have := look_mem_some hm
    cases hl : look own k' with
    | none => rw [hl] at this; cases this
    | some v => exact ⟨v, rfl⟩
  have hall' : ∀ k oe, (k, oe) ∈ own' → ∃ e, oe = some e := fun k oe hk => ⟨_, (hupd k oe hk).2.choose_spec.1⟩
  have hUe : ∀ k oe, look U k = some oe → (∃ k' e', look own' k' = some (some e') ∧ (k', some e') ∈ own' ∧ k = rn ρ nm k' ∧ oe = some (e'.rn ρ nm)) ∨ (oe = none ∧ (k ∈ keptOf ρ own ∨ k ∈ us)) := by
    intro k oe hl
    rw [← hU] at hl
    rcases look_pref hl with hl | ⟨_, hl⟩
    · exact .inl (look_rn hall' hl)
    · rcases look_kills (β := Ent) (keptOf ρ own ++ us) k with h | ⟨h, hm⟩
      · rw [h] at hl; cases hl
      · rw [h] at hl; cases hl; exact .inr ⟨rfl, List.mem_append.1 hm⟩
  have hUk : ∀ k, k ∈ keptOf ρ own ∨ k ∈ us → (look U k).isSome = true := by
    intro k hk
    rw [← hU]
    exact look_mem_some (List.mem_append_right _ (List.mem_map.2 ⟨k, List.mem_append.2 hk, rfl⟩))
  have hrnlt : ∀ k, k < 16 → rn ρ nm k = rho ρ k := by
    intro k hk
    unfold rn
    rw [show Nat.blt k 16 = true by simp [Nat.blt]; omega]
  have hrnge : ∀ k, 16 ≤ k → rn ρ nm k = 16 * nm + (k - 16) := by
    intro k hk
    unfold rn
    rw [show Nat.blt k 16 = false from Bool.eq_false_iff.2 fun h => by have := blt_lt h; omega]
  refine ⟨fun k oe hl => ?_, fun n X0 F w0 p α S a w hs ho' hp vs hvl hvr dst hd => ?_⟩
  · rcases hUe k oe hl with ⟨k', e', _, hm, rfl, _⟩ | ⟨_, hk⟩
    · rcases (hupd k' _ hm).1 with ⟨hlt, hk⟩ | ⟨h1, h2⟩
      · obtain ⟨oe2, hl2⟩ := hkey k' hk
        rw [hrnlt k' hlt]
        exact .inl (List.mem_append_left _ (mem_kept hl2))
      · rw [hrnge k' h1]
        exact .inr (fam_mk nm _ (by omega))
    · exact .inl (List.mem_append.2 hk)
  have hSk : ∀ k oe, look own k = some oe → ∃ e' e, oe = some e' ∧ k < 16 ∧ S.own (rho ρ k) = some e ∧ entLe st (chkH us) ρ 1 e e' := by
    intro k oe hl
    obtain ⟨e', e, h1, h2, h3, h4⟩ := hown k oe hl
    exact ⟨e', e, h1, h2, ho' _ (List.mem_append_left _ (mem_kept hl)) e h3, h4⟩
  have hSu : ∀ k, k ∈ us → ∀ e, st.ss.own k = some e → S.own k = some e := fun k hk e he' => ho' k (List.mem_append_right _ hk) e he'
  let lent : Nat → Prop := fun b => ∃ k oe, look own k = some oe ∧ (α (rho ρ k)).nil = false ∧ (α (rho ρ k)).blk = b
  let X1 : Nat → Prop := fun b => XX α S.own X0 b ∧ ¬ lent b ∧ ∀ k, k ∈ us → (∃ e, st.ss.own k = some e) → (α k).nil = false → (α k).blk ≠ b
  let α1 : Nat → Loc := fun k => α (rho ρ k)
  have hlentX : ∀ b, lent b → XX α S.own X0 b := by
    rintro b ⟨k, oe, hl, hnil, rfl⟩
    obtain ⟨e', e, _, _, h3, _⟩ := hSk k oe hl
    exact .inl ⟨_, e, h3, hnil, rfl⟩
  have hXlt : ∀ b, XX α S.own X0 b → b < w.heap.size := by
    rintro b (⟨k, e, hk, hnil, rfl⟩ | hx)
    · exact (hs.own k e hk).lt hnil
    · exact Nat.lt_of_lt_of_le (hs.x0 b hx) hs.grow
  let F1 : Fr := ⟨lent, fun k => if k < 16 then some (α1 k) else none, []⟩
  have hXA : ∀ b, XX α1 (AS.ss ⟨argA 0 bs, own, 1⟩).own X1 b → lent b ∨ X1 b := by
    rintro b (⟨k, e, hk, hnil, rfl⟩ | hx)
    · exact .inl ⟨k, _, own_look hk, hnil, rfl⟩
    · exact .inr hx
  have hlinj : ∀ b, lent b → ∀ k e, S.own k = some e → (α k).nil = false → (α k).blk = b → k ∈ keptOf ρ own := by
    rintro b ⟨k', oe, hl, hnil', rfl⟩ k e hk hnil hb
    obtain ⟨e', e2, _, _, h3, _⟩ := hSk k' oe hl
    have := hs.inj _ _ _ _ hk h3 hnil hnil' hb
    rw [this]; exact mem_kept hl
  have hl0 : ∀ b, lent b → ¬ X0 b := by
    rintro b ⟨k', oe, hl, hnil', rfl⟩
    obtain ⟨e', e2, _, _, h3, _⟩ := hSk k' oe hl
    exact (hs.mine _ _ h3 hnil').2
  have hW : LeW st (chkH us) w α (XX α S.own X0) (XX α1 (AS.ss ⟨argA 0 bs, own, 1⟩).own X1) := by
    refine ⟨fun b hb => (hXA b hb).elim (hlentX b) fun h => h.1, fun vs' hvs k hk e he' => hs.own k e (hSu k (subN_get hvs k hk) e he'), fun vs' hvs k hk e he' hnil hb => ?_, hs.nil0.2.1⟩
    have hku := subN_get hvs k hk
    rcases hXA _ hb with hb | hb
    · exact hoff' k hku (hlinj _ hb k e (hSu k hku e he') hnil rfl)
    · exact hb.2.2 k hku ⟨e, he'⟩ hnil rfl
  obtain ⟨hargl, hargg⟩ := leArgs_get hargs
  have hsz : vs.size = bs.length := by omega
  have hArg : ∀ t av, look (argA 0 bs) t = some av → RdA w α1 (XX α1 (AS.ss ⟨argA 0 bs, own, 1⟩).own X1) av (vs.getD t undef) ∧ av.ok (fun k => k / 16 < 1) := by
    intro t av ht
    obtain ⟨_, hb⟩ := argA_look bs 0 t av ht
    simp only [Nat.sub_zero] at hb
    have hlt : t < bs.length := (List.getElem?_eq_some_iff.1 hb).1
    have h1 : as[t]? = some (as[t]'(by omega)) := by simp [show t < as.length by omega]
    have h2 : vs[t]? = some (vs.getD t undef) := by simp [Array.getD, show t < vs.size by omega]
    exact avLe_read hW (hargg t _ _ h1 hb) (hvr t _ _ h1 h2)
  have hSim1 : Sim C.G X1 F1 w bs.length (names ⟨argA 0 bs, own, 1⟩) α1 (AS.ss ⟨argA 0 bs, own, 1⟩) ⟨vs, []⟩ w := by
    refine ⟨hsz, rfl, fun t av ht => (hArg t av ht).1, fun t av ht => (hArg t av ht).2, fun k e' hk => ?_, fun k e' hk => ?_, fun k e k' e' hk hk' hn hn' hb => ?_, fun k e' hk hn => ?_, fun b hb => hXlt b hb.1, fun _ _ _ => rfl, Nat.le_refl _, rfl, rfl, rfl, fun x hx => ?_, fun k l hk => ?_, ⟨by show (α (rho ρ 14)).nil = true; rw [hr14]; exact hs.nil0.1, by show (α (rho ρ 14)).hv = _; rw [hr14]; exact hs.nil0.2.1, by show 14 / 16 < 1; decide⟩⟩
    · obtain ⟨e2, e, h1, h2, h3, h4⟩ := hSk k _ (own_look hk)
      cases h1
      exact (entLe_own hW h4 (hs.own _ e h3)).1
    · obtain ⟨e2, e, h1, h2, h3, h4⟩ := hSk k _ (own_look hk)
      cases h1
      exact ⟨by show k / 16 < 1; omega, (entLe_own hW h4 (hs.own _ e h3)).2⟩
    · obtain ⟨e2, e3, h1, h2, h3, h4⟩ := hSk k _ (own_look hk)
      obtain ⟨e4, e5, h5, h6, h7, h8⟩ := hSk k' _ (own_look hk')
      exact injN_get hinj k k' _ _ (own_look hk) (own_look hk') (hs.inj _ _ _ _ h3 h7 hn hn' hb)
    · exact ⟨.inr ⟨k, _, own_look hk, hn, rfl⟩, fun h => h.2.1 ⟨k, _, own_look hk, hn, rfl⟩⟩
    · obtain ⟨hg1, _⟩ := hs.gl x hx
      obtain ⟨arr, T, fz, hh, hX, hsz', hw, hr⟩ := gl_at hs hx
      refine ⟨Nat.lt_of_lt_of_le hg1 hs.grow, fun h => hX (hlentX _ h), fun h => hX h.1, arr, T, fz, hh, hsz', hw, fun j m d c hj hm => ?_⟩
      obtain ⟨v, hv, hr'⟩ := hr j m d c hj hm
      exact ⟨v, hv, hr'.mono fun b o hb hn => ⟨hb, fun h => hn (h.elim (fun h => h.1) (hlentX b))⟩⟩
    · simp only [F1] at hk
      split at hk
      · rename_i hlt
        cases hk
        exact ⟨rfl, by show k / 16 < 1; omega⟩
      · cases hk
  refine hmono (hP w X1 F1 α1 vs (fun k l hk => ?_) hSim1) ?_
  · simp only [F1] at hk
    split at hk
    · assumption
    · cases hk
  rintro e w' ⟨α', us', rfl, hb⟩
  let α2 : Nat → Loc := fun k => if k / 16 = nm then α' (16 + k % 16) else α k
  have hα2 : ∀ k, p k → α2 k = α k := by
    intro k hk
    have : ¬ k / 16 = nm := fun h => hp k h hk
    simp [α2, this]
  have hrn : ∀ k, KN keys k → α2 (rn ρ nm k) = α' k ∧ (p (rn ρ nm k) ∨ fam nm (rn ρ nm k)) := by
    rintro k (⟨hlt, hk⟩ | ⟨h1, h2⟩)
    · obtain ⟨oe, hl⟩ := hkey k hk
      obtain ⟨e2, e, _, _, h3, _⟩ := hSk k oe hl
      have hpk := (hs.oko _ e h3).1
      rw [hrnlt k hlt]
      refine ⟨?_, .inl hpk⟩
      rw [hα2 _ hpk]
      exact (hb.fix k (α1 k) (by simp [F1, hlt])).1.symm
    · rw [hrnge k h1]
      refine ⟨?_, .inr (fam_mk nm _ (by omega))⟩
      have e1 : (16 * nm + (k - 16)) / 16 = nm := by omega
      have e2 : 16 + (16 * nm + (k - 16)) % 16 = k := by omega
      simp only [α2, e1, if_true, e2]
  have hBo : ∀ k e, look own' k = some (some e) → (AS.ss ⟨argA 0 rs, own', 2⟩).own k = some e := by
    intro k e hl; simp only [AS.ss, hl]
  have hXC : ∀ out, ∀ b, (∃ o, w'.heap[b]? = some o) → XX α2 (S.upd dst out U).own X0 b → XX α' (AS.ss ⟨argA 0 rs, own', 2⟩).own X1 b := by
    rintro out b _ (⟨k, e, hk, hnil, rfl⟩ | hx)
    · simp only [SS.upd] at hk
      cases hl : look U k with
      | some oe =>
        simp only [hl] at hk
        subst hk
        rcases hUe k _ hl with ⟨k', e', h1, h2, rfl, _⟩ | ⟨h, _⟩
        · have h3 := (hrn k' (hupd k' _ h2).1).1
          rw [h3] at hnil ⊢
          exact .inl ⟨k', e', hBo k' e' h1, hnil, rfl⟩
        · cases h
      | none =>
        simp only [hl] at hk
        have hnk : k ∉ keptOf ρ own ∧ k ∉ us := by
          constructor
          · intro h; have := hUk k (.inl h); rw [hl] at this; cases this
          · intro h; have := hUk k (.inr h); rw [hl] at this; cases this
        rw [hα2 k (hs.oko k e hk).1] at hnil ⊢
        refine .inr ⟨.inl ⟨k, e, hk, hnil, rfl⟩, fun h => hnk.1 (hlinj _ h k e hk hnil rfl), fun k2 hk2 ⟨e2, he2⟩ hnil2 hbb => ?_⟩
        have := hs.inj _ _ _ _ (hSu k2 hk2 e2 he2) hk hnil2 hnil hbb
        exact hnk.2 (this ▸ hk2)
    · refine .inr ⟨.inr hx, fun h => hl0 b h hx, fun k2 hk2 ⟨e2, he2⟩ hnil2 hbb => ?_⟩
      exact (hs.mine _ _ (hSu k2 hk2 e2 he2) hnil2).2 (hbb ▸ hx)
  refine ⟨_, rfl, α2, ?_⟩
  refine hs.upd _ (fun k hk => .inl hk) α2 w' dst hd (outAV (rs.map (AV.rn ρ nm))) U _ hα2 hb.grow hb.os hb.tape hb.output ?_ ?_ ?_ ?_ ?_ ?_ ?_
  · intro b hblt hno
    refine hb.fr b hblt ?_
    rintro ⟨k, oe, hl, hnil, rfl⟩
    obtain ⟨e2, e, _, _, h3, _⟩ := hSk k oe hl
    exact hno _ e h3 (hUk _ (.inl (mem_kept hl))) hnil rfl
  · intro k e hl
    rcases hUe k _ hl with ⟨k', e', h1, h2, rfl, _⟩ | ⟨h, _⟩
    · exact (hrn k' (hupd k' _ h2).1).2
    · cases h
  · intro k e hl hnil
    rcases hUe k _ hl with ⟨k', e', h1, h2, rfl, _⟩ | ⟨h, _⟩
    · have h3 := (hrn k' (hupd k' _ h2).1).1
      rw [h3] at hnil ⊢
      rcases (hb.mine k' e' (hBo k' e' h1) hnil).1 with hge | ⟨k0, oe, hl0', hnil0, hb0⟩
      · exact .inl hge
      · obtain ⟨e2, e3, _, _, h5, _⟩ := hSk k0 oe hl0'
        exact .inr ⟨_, e3, h5, hUk _ (.inl (mem_kept hl0')), hnil0, hb0⟩
    · cases h
  · intro k e k2 e2 hl hl2 hnil hnil2 hbb
    rcases hUe k _ hl with ⟨k', e', h1, h2, rfl, _⟩ | ⟨h, _⟩
    · rcases hUe k2 _ hl2 with ⟨k2', e2', h3, h4, rfl, _⟩ | ⟨h, _⟩
      · rw [(hrn k' (hupd k' _ h2).1).1] at hnil hbb
        rw [(hrn k2' (hupd k2' _ h4).1).1] at hnil2 hbb
        rw [hb.inj _ _ _ _ (hBo k' e' h1) (hBo k2' e2' h3) hnil hnil2 hbb]
      · cases h
    · cases h
  · intro _ k e hl
    rcases hUe k _ hl with ⟨k', e', h1, h2, rfl, he'⟩ | ⟨h, _⟩
    · cases he'
      obtain ⟨hkn, e3, h5, h6⟩ := hupd k' _ h2
      cases h5
      refine ⟨ren_own (hb.own k' e' (hBo k' e' h1)) h6 (fun b hbo hx => hXC _ b hbo hx) (hrn k' hkn).1 fun k hk => (hrn k hk).1, fun x hx => ?_⟩
      cases e' with
      | box cs T0 =>
        obtain ⟨a, ha, rfl⟩ := List.mem_map.1 (show x ∈ cs.map (AV.rn ρ nm) from hx)
        exact (h6 a ha).okr _ fun k hk => (hrn k hk).2
      | arr => cases hx
      | buf => cases hx
    · cases h
  · intro _
    have hrs : ∀ (j : Nat) (r : AV), rs[j]? = some r → RdA w' α2 (XX α2 (S.upd dst (outAV (rs.map (AV.rn ρ nm))) U).own X0) (r.rn ρ nm) (us'.getD j undef) := by
      intro j r hj
      have := hb.env j r (by have := argA_get rs 0 j r hj; simpa [AS.ss] using this)
      exact (hren r (List.mem_of_getElem? hj)).rd w' α2 α' _ _ _ this (fun b hbo hx => hXC _ b hbo hx) fun k hk => (hrn k hk).1
    have hsz' := hb.size
    simp only at hsz'
    unfold outAV
    split
    · rename_i r1 hr1
      obtain ⟨r, rfl⟩ : ∃ r, rs = [r] := by
        match rs, hr1 with
        | [r], _ => exact ⟨r, rfl⟩
      simp at hr1; subst hr1
      have := hrs 0 r rfl
      have h1 : us'.size = 1 := by simpa using hsz'
      have e1 : retOf us' = us'.getD 0 undef := by simp [retOf, h1, Array.getD]
      rw [e1]; exact this
    · rename_i hne
      have h1 : us'.size ≠ 1 := by
        intro h
        rw [hsz'] at h
        match rs, h, hne with
        | [r], _, hne => exact hne _ rfl
      have e1 : retOf us' = .tuple us' := by simp [retOf, h1]
      rw [e1]
      refine .tup _ _ (by simp [hsz']) fun j c v hc hv => ?_
      simp only [List.getElem?_map, Option.map_eq_some_iff] at hc
      obtain ⟨r, hr, rfl⟩ := hc
      have := hrs j r hr
      have e2 : us'.getD j undef = v := by simp [Array.getD_eq_getD_getElem?, hv]
      rw [e2] at this; exact this
  · have hok : ∀ r, r ∈ rs → (r.rn ρ nm).ok fun k => p k ∨ fam nm k := fun r hr => (hren r hr).okr _ fun k hk => (hrn k hk).2
    unfold outAV
    split
    · rename_i r1 hr1
      obtain ⟨r, rfl⟩ : ∃ r, rs = [r] := by
        match rs, hr1 with
        | [r], _ => exact ⟨r, rfl⟩
      simp at hr1; subst hr1
      exact hok r (by simp)
    · refine .tup _ fun c hc => ?_
      obtain ⟨r, hr, rfl⟩ := List.mem_map.1 hc
      exact hok r hr

theorem callh_core {f : FuncId} {as : List AV} (hE : Enters C n o st f as) (h : CallHK C (Calls C.P f) st nm f as K) : ∃ out upd rd, K out upd rd ∧ VOp C n o nm st rd out upd := by
  obtain ⟨out, upd, rd, hk, hbody, hnm, hpt⟩ := callh_point (fun h hr => h.mono hr) h
  refine ⟨out, upd, rd, hk, hnm, fun X0 F w0 p α S a w Q next hs he ho' hp hd hn => ?_⟩
  obtain ⟨vs, hvl, hvr, hrun⟩ := hE hbody X0 F w0 p α S a w hs he
  refine hrun next Q ((hpt n X0 F w0 p α S a w hs ho' hp vs hvl hvr o.dst hd).mono ?_)
  rintro e w' ⟨v, rfl, α', hS⟩
  exact ⟨v, rfl, hn α' v w' hS⟩

theorem lookK_mono {β : Type} {l : List (Nat × β)} {x : Nat} {K K' : β → Prop} (hk : ∀ v, K v → K' v) (h : lookK l x K) : lookK l x K' := by
  induction l with
  | nil => cases h
  | cons y l ih =>
    obtain ⟨y, u⟩ := y
    simp only [lookK] at h ⊢
    cases hb : Nat.beq x y <;> simp only [hb] at h ⊢
    · exact ih h
    · exact hk _ h

theorem cdK_mono {a : AV} {K K' : D → List Nat → Prop} (hk : ∀ d us, K d us → K' d us) (h : cdK st a K) : cdK st a K' := by
  unfold cdK at h ⊢
  split at h
  · exact hk _ _ h
  · exact hk _ _ h
  · refine lookK_mono (fun oe h => ?_) h
    cases oe with
    | none => cases h
    | some e =>
      cases e with
      | buf s xs => exact hk _ _ h
      | _ => cases h
  · cases h

theorem cdsK_mono {l : List AV} {K K' : List D → List Nat → Prop} (hk : ∀ d us, K d us → K' d us) (h : cdsK st l K) : cdsK st l K' := by
  induction l generalizing K K' with
  | nil => exact hk _ _ h
  | cons a l ih =>
    refine cdK_mono (fun d us h => ih (fun ds vs h => ?_) h) h
    split at h <;> exact hk _ _ h

theorem toDK_mono {a : AV} {K K' : D → List Nat → Prop} (hk : ∀ d us, K d us → K' d us) (h : toDK st a K) : toDK st a K' := by
  unfold toDK at h ⊢
  split at h
  · exact cdsK_mono (fun _ _ h => hk _ _ h) h
  · exact cdK_mono hk h

theorem argsK_mono {l : List AV} {K K' : List D → List Nat → Prop} (hk : ∀ d us, K d us → K' d us) (h : argsK st l K) : argsK st l K' := by
  induction l generalizing K K' with
  | nil => exact hk _ _ h
  | cons a l ih =>
    refine toDK_mono (fun d us h => ih (fun ds vs h => ?_) h) h
    split at h <;> exact hk _ _ h

theorem goK_out {f : FuncId} {as : List AV} (hE : Enters C n o st f as) (hS : CallNK C st nm f as K → SameFn C f → (∃ a, as = [a] ∧ K a [] []) → ∃ out upd rd, K out upd rd ∧ VOp C n o nm st rd out upd) (h : goK C st nm f as K) : ∃ out upd rd, K out upd rd ∧ VOp C n o nm st rd out upd := by
  have core : CallNK C st nm f as K → ∃ out upd rd, K out upd rd ∧ VOp C n o nm st rd out upd := by
    intro h
    rcases h.out with h1 | ⟨h1, h2⟩
    · exact callh_core hE h1
    · exact hS h h1 h2
  unfold goK at h
  split at h
  · by_cases hc : CallNK C st nm f as K
    · exact core hc
    · refine call_core (nm := nm) hE ?_
      refine argsK_mono (fun ds us hk => ?_) h
      rcases hk.out with h | h
      · exact h
      · exact absurd h hc
  · exact core h

/-! #### What a call enters -/

theorem enters_fn {f : FuncId} {fn : Func} (hf : C.P.funcs[f]? = some fn) (h1 : (fn.name == "runtime.NumGoroutine") = false) (h2 : fn.body.isNone = false) (w : World) (args : Array Value) : (callFunc f args).run C.P w = .ok (.enter f args) w := by
  have h1' : ¬ fn.name = "runtime.NumGoroutine" := by
    intro h; rw [h] at h1; simp at h1
  have h2' : ¬ fn.body = none := by
    intro h; rw [h] at h2; simp at h2
  simp [callFunc, hf, h1', h2']

/-- The value of a call's callee. -/
def fnK (st : AS) (x : Operand) (K : FuncId → List AV → List AV → Prop) : Prop :=
  evK st x fun a => match a with | .fn g pre post => (match g with | .func f => K f pre post | _ => False) | _ => False

def app2K (l m : List AV) (K : List AV → Prop) : Prop := match l with | [] => K m | x :: r => app2K r m fun r => K (x :: r)
theorem app2K_out {l m : List AV} {K : List AV → Prop} (h : app2K l m K) : K (l ++ m) := by
  induction l generalizing K with
  | nil => exact h
  | cons x l ih => exact ih (K := fun r => K (x :: r)) h

def pre2 (pre as post : List AV) (K : List AV → Prop) : Prop :=
  match pre, post with
  | [], [] => K as
  | pre, post => app2K as post fun r => app2K pre r K

theorem pre2_out {pre as post : List AV} {K : List AV → Prop} (h : pre2 pre as post K) : K (pre ++ as ++ post) := by
  unfold pre2 at h
  split at h
  · simpa using h
  · have := app2K_out (app2K_out h)
    rw [List.append_assoc]; exact this

theorem call_out {c : Call} {x : Operand} (ho : o.op = .call c) (hc : c.callee = .value x) (h : fnK st x fun f pre post => evsK st c.args.toList fun as => pre2 pre as post fun as => goK C st nm f as K) :
    ∃ out upd rd, K out upd rd ∧ VOp C n o nm st rd out upd := by
  unfold fnK at h
  replace h := evK_out h; obtain ⟨va, h1, h⟩ := h
  split at h
  · rename_i g pre post
    split at h
    · rename_i f
      replace h := evsK_out h; obtain ⟨as, h2, h⟩ := h
      replace h := pre2_out h
      have base : ∀ (X0 : Nat → Prop) (F : Fr) (w0 : World) (p : Nat → Prop) (α : Nat → Loc) (S : SS) (a : Act) (w : World), Sim C.G X0 F w0 n p α S a w → (∀ t, Operand.tmp t ∈ o.op.operands → ∀ av, st.ss.env t = some av → S.env t = some av) →
          ∃ vs : Array Value, (pre ++ as ++ post).length = vs.size ∧ (∀ (j : Nat) (av : AV) (v : Value), (pre ++ as ++ post)[j]? = some av → vs[j]? = some v → RdA w α (XX α S.own X0) av v) ∧ (∀ av, av ∈ pre ++ as ++ post → av.ok p) ∧
            ∀ nxt, (callFunc f vs).run C.P w = .ok nxt w → (execOp a.eval o).run C.P w = .ok nxt w := by
        intro X0 F w0 p α S a w hs he
        have hm1 : x ∈ o.op.operands := by rw [ho]; simp [Op.operands, Call.operands, hc]
        have hmem : ∀ y, y ∈ c.args.toList → y ∈ o.op.operands := by
          intro y hy
          rw [ho]
          simp [Op.operands, Call.operands, hc] at hy ⊢
          exact .inr hy
        have hr := (h1.to hm1 he).read hs
        have hk := (h1.to hm1 he).ok hs
        generalize hx : a.eval x = v at hr
        cases hk with
        | fn _ _ _ k1 k2 =>
        cases hr with
        | fn _ _ _ va vb l1 l2 c1 c2 =>
          refine ⟨va ++ c.args.map a.eval ++ vb, ?_, fun j av v hj hv => ?_, fun av hav => ?_, fun nxt hn => ?_⟩
          · have := h2.length; simp only [Array.length_toList] at this; simp; omega
          · have h2l := h2.length
            simp only [Array.length_toList] at h2l
            rw [Array.getElem?_append] at hv
            rw [List.getElem?_append] at hj
            simp only [Array.size_append, Array.size_map, List.length_append] at hv hj
            split at hj
            · rename_i hlt
              rw [if_pos (by omega)] at hv
              rw [Array.getElem?_append] at hv
              rw [List.getElem?_append] at hj
              split at hj
              · rename_i hlt2
                rw [if_pos (by omega)] at hv
                exact c1 j av v hj hv
              · rename_i hlt2
                rw [if_neg (by omega)] at hv
                obtain ⟨y, hy, hye⟩ := h2.get _ av hj
                simp only [Array.getElem?_map, Option.map_eq_some_iff] at hv
                obtain ⟨y', hy', rfl⟩ := hv
                rw [Array.getElem?_toList, l1] at hy
                rw [hy] at hy'; cases hy'
                exact (hye.to (hmem y (List.mem_of_getElem? (by rw [Array.getElem?_toList]; exact hy))) he).read hs
            · rename_i hlt
              rw [if_neg (by omega)] at hv
              refine c2 _ av v hj ?_
              rw [← hv]; congr 1; omega
          · rcases List.mem_append.1 hav with hav | hav
            · rcases List.mem_append.1 hav with hav | hav
              · exact k1 av hav
              · obtain ⟨j, hj⟩ := List.mem_iff_getElem?.1 hav
                obtain ⟨y, hy, hye⟩ := h2.get j av hj
                exact (hye.to (hmem y (List.mem_of_getElem? hy)) he).ok hs
            · exact k2 av hav
          · rw [Array.append_assoc] at hn
            simp [execOp, ho, resolve, hc, hx, Deferred.ofValue, invoke, hn]
      refine goK_out ?_ ?_ h
      · rintro ⟨fn, hf, hf1, hf2⟩ X0 F w0 p α S a w hs he
        obtain ⟨vs, hl, hr, _, hrun⟩ := base X0 F w0 p α S a w hs he
        refine ⟨vs, hl, hr, fun next Q hcalls => ?_⟩
        unfold Oper.wp
        rw [hrun _ (enters_fn hf hf1 hf2 w vs)]
        exact hcalls.mono fun e w' ⟨v, he, hn⟩ => by subst he; exact hn
      · rintro _ hsame ⟨a0, ha0, hk⟩
        refine ⟨_, _, _, hk, VOp.pure fun X0 F w0 p α S a w hs he _ => ?_⟩
        obtain ⟨vs, hl, hr, hok, hrun⟩ := base X0 F w0 p α S a w hs he
        rw [ha0] at hl hr hok
        obtain ⟨v, rfl⟩ : ∃ v, vs = #[v] := Array.size_eq_one_iff.1 (by simpa using hl.symm)
        exact ⟨v, hrun _ (hsame v w), hr 0 a0 v rfl rfl, hok a0 (by simp)⟩
    · cases h
  · cases h

/-! #### Function values -/

theorem mkfn_out {fn : Fn} {first captured : Array Operand} (ho : o.op = .makeFunc fn first captured) (h : evsK st first.toList fun as => evsK st captured.toList fun bs => K (.fn fn as bs) [] []) :
    ∃ out upd rd, K out upd rd ∧ VOp C n o nm st rd out upd := by
  replace h := evsK_out h; obtain ⟨as, h1, h⟩ := h
  replace h := evsK_out h; obtain ⟨bs, h2, h⟩ := h
  refine ⟨_, _, _, h, VOp.pure fun X0 F w0 p α S a w hs he _ => ?_⟩
  have key : ∀ (ops : Array Operand) (as : List AV), Evs st.ss.env ops.toList as → (∀ y, y ∈ ops.toList → y ∈ o.op.operands) →
      as.length = (ops.map a.eval).size ∧ (∀ (j : Nat) (c : AV) (v : Value), as[j]? = some c → (ops.map a.eval)[j]? = some v → RdA w α (XX α S.own X0) c v) ∧ ∀ c, c ∈ as → c.ok p := by
    intro ops as h1 hmem
    refine ⟨by have := h1.length; simpa using this, fun j c v hj hv => ?_, fun c hc => ?_⟩
    · obtain ⟨y, hy, hye⟩ := h1.get j c hj
      simp only [Array.getElem?_map, Option.map_eq_some_iff] at hv
      obtain ⟨y', hy', rfl⟩ := hv
      rw [Array.getElem?_toList] at hy
      rw [hy] at hy'; cases hy'
      exact (hye.to (hmem y (List.mem_of_getElem? (by rw [Array.getElem?_toList]; exact hy))) he).read hs
    · obtain ⟨j, hj⟩ := List.mem_iff_getElem?.1 hc
      obtain ⟨y, hy, hye⟩ := h1.get j c hj
      exact (hye.to (hmem y (List.mem_of_getElem? hy)) he).ok hs
  have m1 : ∀ y, y ∈ first.toList → y ∈ o.op.operands := fun y hy => by rw [ho]; simp only [Op.operands, Array.mem_append]; exact .inl (by simpa using hy)
  have m2 : ∀ y, y ∈ captured.toList → y ∈ o.op.operands := fun y hy => by rw [ho]; simp only [Op.operands, Array.mem_append]; exact .inr (by simpa using hy)
  obtain ⟨l1, r1, k1⟩ := key first as h1 m1
  obtain ⟨l2, r2, k2⟩ := key captured bs h2 m2
  exact ⟨.func fn (first.map a.eval) (captured.map a.eval), by simp [execOp, ho, Instr.makeFunc], .fn _ _ _ _ _ l1 l2 r1 r2, .fn _ _ _ k1 k2⟩

end
end Go.Eng

/-
  Comparisons with nil and of pointers; pointers turned to unsafe ones and back; the bytes of a row shared with a string: their reckoning, and that it speaks true.
-/
namespace Go.Eng
open Go.RowKit (Below)

/-- Whether a slice is nil: one with elements is not. -/
structure NilK (xs : List D) (a b : Prop) : Prop where
  out : (xs = [] → a) ∧ (xs ≠ [] → b)
theorem nil_both {xs : List D} {a b : Prop} (h1 : xs = [] → a) (h2 : xs ≠ [] → b) : NilK xs a b := ⟨h1, h2⟩

def bxK (ng t : Bool) (K : AV → Prop) : Prop :=
  match ng, t with
  | false, t => K (.d (.b t))
  | true, true => K (.d (.b false))
  | true, false => K (.d (.b true))

def eqvK (C : Ctx) (st : AS) (kd : Kd) (ng : Bool) (a b : AV) (K : AV → List Nat → Prop) (alt : Prop) : Prop :=
  match kd with
  | .slice _ => match a, b with
    | .nl _, .nl _ => bxK ng true fun r => K r []
    | .d (.sl _ xs), .nl _ => NilK xs (K .ab []) (bxK ng false fun r => K r [])
    | .os k, .nl _ => ownK st k fun e => match e with | .buf _ xs _ => NilK xs (K .ab [k]) (bxK ng false fun r => K r [k]) | _ => False
    | _, _ => False
  | .ptr e => match a, b with
    | .op k i j, .op k' i' j' => lookK C.tab e fun _ => match Nat.beq k k', Nat.beq i i', Nat.beq j j' with | true, true, true => bxK ng true fun r => K r [] | _, _, _ => False
    | .op _ _ _, .d (.x v) => (match v with | .pointer none => bxK ng false fun r => K r [] | _ => False)
    | .pp _ _, .d (.x v) => (match v with | .pointer none => bxK ng false fun r => K r [] | _ => False)
    | .d (.x v), .d (.x v') => (match v, v' with | .pointer none, .pointer none => bxK ng true fun r => K r [] | _, _ => False)
    | _, _ => False
  | .func => match a, b with
    | .fn _ _ _, .d (.x v) => (match v with | .nilFunc => bxK ng false fun r => K r [] | _ => False)
    | .d (.x v), .d (.x v') => (match v, v' with | .nilFunc, .nilFunc => bxK ng true fun r => K r [] | _, _ => False)
    | _, _ => False
  | _ => alt

def eqAllK (C : Ctx) (st : AS) (op : BinOp) (T : TypeId) (a b : AV) (K : AV → List Nat → Prop) : Prop :=
  match op with
  | .eql => lookK C.tab T fun ti => eqvK C st ti.kd false a b K (binK C T .eql a b fun r => K r [])
  | .neq => lookK C.tab T fun ti => eqvK C st ti.kd true a b K (binK C T .neq a b fun r => K r [])
  | op => binK C T op a b fun r => K r []

theorem und_ptr {P : Program} {T : TypeId} {ti : TyI} {e : Nat} (ht : TyOk P T ti) (hk : ti.kd = .ptr e) : P.underlying T = some (.pointer e) := by
  obtain ⟨_, u, hu, _, hc⟩ := ht
  rw [hk] at hc
  cases u <;> simp [chkKd] at hc
  rw [hu, hc]
theorem und_uptr {P : Program} {T : TypeId} {ti : TyI} (ht : TyOk P T ti) (hk : ti.kd = .uptr) : P.underlying T = some .unsafePointer := by
  obtain ⟨_, u, hu, _, hc⟩ := ht
  rw [hk] at hc
  cases u <;> simp [chkKd] at hc
  exact hu
theorem und_func {P : Program} {T : TypeId} {ti : TyI} (ht : TyOk P T ti) (hk : ti.kd = .func) : ∃ a b c, P.underlying T = some (.func a b c) := by
  obtain ⟨_, u, hu, _, hc⟩ := ht
  rw [hk] at hc
  cases u <;> simp [chkKd] at hc
  exact ⟨_, _, _, hu⟩

theorem evK_bind {st : AS} {x : Operand} {K : AV → Prop} (h : evK st x K) : ∃ av, (∀ K' : AV → Prop, K' av → evK st x K') ∧ K av := by
  unfold evK at *
  split at h
  · rename_i t
    obtain ⟨v, hv, hk⟩ := lookK_out h
    refine ⟨v, fun K' h' => ?_, hk⟩
    clear h hk
    show lookK st.env t K'
    generalize st.env = l at hv
    induction l with
    | nil => simp [look] at hv
    | cons y l ih =>
      obtain ⟨y, u⟩ := y
      simp only [look] at hv
      simp only [lookK]
      split at hv
      · rename_i hb; (try simp only [hb]); cases hv; exact h'
      · rename_i hb; (try simp only [hb]); exact ih hv
  · unfold constK at *
    split at h
    · exact ⟨_, fun K' h' => h', h⟩
    · exact ⟨_, fun K' h' => h', h⟩
    · exact ⟨_, fun K' h' => h', h⟩
    · exact ⟨_, fun K' h' => h', h⟩
    · exact ⟨_, fun K' h' => h', h⟩
  · exact ⟨_, fun K' h' => h', h⟩
  · exact ⟨_, fun K' h' => h', h⟩

def ngOp (ng : Bool) : BinOp := match ng with | true => .neq | false => .eql

theorem eq_run {P : Program} {w : World} {T : TypeId} {x y : Value} {t : Bool} (h : ∀ d : Nat, (Op.equalIn (d + 1) T x y).run P w = .ok t w) (hx : (∃ a, x = .pointer a) ∨ (∃ a b c, x = .slice a b c) ∨ (∃ a b c, x = .func a b c) ∨ x = .nilFunc) (ng : Bool) (ox oy : Operand) :
    (do eqGuard (ngOp ng) T ox oy x y; binOp (ngOp ng) T x y : Sem Value).run P w = .ok (.bool (ng != t)) w := by
  have e : (Op.equal T x y).run P w = .ok t w := h 9999
  rcases hx with ⟨a, rfl⟩ | ⟨a, b, c, rfl⟩ | ⟨a, b, c, rfl⟩ | rfl <;> cases ng <;> simp [ngOp, eqGuard, binOp, e]

theorem bxK_out {ng t : Bool} {K : AV → Prop} (h : bxK ng t K) : K (.d (.b (ng != t))) := by
  unfold bxK at h
  cases ng <;> cases t <;> exact h

section
variable {C : Ctx} {n : Nat} {o : Oper} {nm : Nat} {st : AS} {K : KO}

/-- What a comparison's reckoning must give. -/
def EqOut (C : Ctx) (st : AS) (ng : Bool) (T : TypeId) (a b : AV) (out : AV) (rd : List Nat) : Prop :=
  ∀ {G : List Gl} {X0 : Nat → Prop} {F : Fr} {w0 : World} {n : Nat} {p : Nat → Prop} {α : Nat → Loc} {S : SS} {a' : Act} {w : World}, Sim G X0 F w0 n p α S a' w → (∀ k, k ∈ rd → ∀ e, st.ss.own k = some e → S.own k = some e) →
    ∀ va vb, RdA w α (XX α S.own X0) a va → RdA w α (XX α S.own X0) b vb → ∀ (ox oy : Operand), ∃ v, (do eqGuard (ngOp ng) T ox oy va vb; binOp (ngOp ng) T va vb : Sem Value).run C.P w = .ok v w ∧ RdA w α (XX α S.own X0) out v ∧ out.ok p

theorem eqv_of {T : TypeId} {ng t : Bool} {a b : AV} (h : ∀ {w : World} {α : Nat → Loc} {X : Nat → Prop} va vb, RdA w α X a va → RdA w α X b vb →
      (∀ d : Nat, (Op.equalIn (d + 1) T va vb).run C.P w = .ok t w) ∧ ((∃ a, va = .pointer a) ∨ (∃ a b c, va = .slice a b c) ∨ (∃ a b c, va = .func a b c) ∨ va = .nilFunc)) : EqOut C st ng T a b (.d (.b (ng != t))) [] := by
  intro G X0 F w0 n p α S a' w hs _ va vb ha hb ox oy
  obtain ⟨h1, h2⟩ := h va vb ha hb
  exact ⟨_, eq_run h1 h2 ng ox oy, .d _ _ (.b _), .d _⟩

theorem eqvK_out {ti : TyI} {T : TypeId} {ng : Bool} (ht : TyOk C.P T ti) {a b : AV} {Q : AV → List Nat → Prop} {alt : Prop} (h : eqvK C st ti.kd ng a b Q alt) : alt ∨ ∃ out rd, Q out rd ∧ EqOut C st ng T a b out rd := by
  unfold eqvK at h
  split at h
  · rename_i e hk
    right
    have hu := und_slice ht hk
    split at h
    · refine ⟨_, _, bxK_out h, eqv_of fun va vb ha hb => ?_⟩
      cases ha; cases hb
      exact ⟨fun d => by simp [Op.equalIn, run_underlying hu], .inr (.inl ⟨_, _, _, rfl⟩)⟩
    · rename_i xs _
      by_cases hx : xs = []
      · refine ⟨_, _, h.out.1 hx, fun hs _ va vb ha hb ox oy => ?_⟩
        subst hx
        obtain ⟨p, c, rfl⟩ := ha.dinv.slinv
        cases hb
        refine ⟨_, eq_run (t := p.isNone) (fun d => ?_) (.inr (.inl ⟨_, _, _, rfl⟩)) ng ox oy, .ab _, .ab⟩
        cases p <;> simp [Op.equalIn, run_underlying hu]
      · refine ⟨_, _, bxK_out (h.out.2 hx), fun hs _ va vb ha hb ox oy => ?_⟩
        have hd := ha.dinv
        cases hb
        cases hd with
        | slnil => exact absurd rfl hx
        | sle => exact absurd rfl hx
        | sl => exact ⟨_, eq_run (t := false) (fun d => by simp [Op.equalIn, run_underlying hu]) (.inr (.inl ⟨_, _, _, rfl⟩)) ng ox oy, .d _ _ (.b _), .d _⟩
    · rename_i k _
      replace h := ownK_out h; obtain ⟨en, hen, h⟩ := h
      split at h
      · rename_i sz xs T0
        by_cases hx : xs = []
        · refine ⟨_, _, h.out.1 hx, fun hs ho va vb ha hb ox oy => ?_⟩
          have hsk := ho k (by simp) _ hen
          cases hb
          obtain ⟨p, c, hv⟩ := os_len hs hsk
          cases ha
          rw [hv]
          refine ⟨_, eq_run (t := p.isNone) (fun d => ?_) (.inr (.inl ⟨_, _, _, rfl⟩)) ng ox oy, .ab _, .ab⟩
          cases p <;> simp [Op.equalIn, run_underlying hu]
        · refine ⟨_, _, bxK_out (h.out.2 hx), fun hs ho va vb ha hb ox oy => ?_⟩
          have hsk := ho k (by simp) _ hen
          cases hb
          cases ha
          rcases hs.own k _ hsk with ⟨_, ⟨sz', _, he⟩, _⟩ | ⟨_, arr, U, fz, cap, hB⟩
          · cases he; exact absurd rfl hx
          · rw [hB.hv sz xs _ rfl]
            exact ⟨_, eq_run (t := false) (fun d => by simp [Op.equalIn, run_underlying hu]) (.inr (.inl ⟨_, _, _, rfl⟩)) ng ox oy, .d _ _ (.b _), .d _⟩
      · cases h
    · cases h
  · rename_i e hk
    right
    have hu := und_ptr ht hk
    split at h
    · rename_i k i j k' i' j'
      replace h := lookK_out h; obtain ⟨te, hte, h⟩ := h
      split at h
      · rename_i h1 h2 h3
        obtain rfl := Nat.eq_of_beq_eq_true h1
        obtain rfl := Nat.eq_of_beq_eq_true h2
        obtain rfl := Nat.eq_of_beq_eq_true h3
        obtain ⟨⟨ie, hie, _⟩, _⟩ := C.ty hte
        refine ⟨_, _, bxK_out h, eqv_of fun va vb ha hb => ?_⟩
        cases ha; cases hb
        exact ⟨fun d => by simp [Op.equalIn, run_underlying hu, sizeOf, typeInfo, hie, run_sameAddr_same], .inl ⟨_, rfl⟩⟩
      · cases h
    · split at h
      · refine ⟨_, _, bxK_out h, eqv_of fun va vb ha hb => ?_⟩
        cases ha
        have hb := hb.dinv; cases hb
        exact ⟨fun d => by simp [Op.equalIn, run_underlying hu], .inl ⟨_, rfl⟩⟩
      · cases h
    · split at h
      · refine ⟨_, _, bxK_out h, eqv_of fun va vb ha hb => ?_⟩
        cases ha
        have hb := hb.dinv; cases hb
        exact ⟨fun d => by simp [Op.equalIn, run_underlying hu], .inl ⟨_, rfl⟩⟩
      · cases h
    · split at h
      · refine ⟨_, _, bxK_out h, eqv_of fun va vb ha hb => ?_⟩
        have ha := ha.dinv; cases ha
        have hb := hb.dinv; cases hb
        exact ⟨fun d => by simp [Op.equalIn, run_underlying hu], .inl ⟨_, rfl⟩⟩
      · cases h
    · cases h
  · rename_i hk
    right
    obtain ⟨f1, f2, f3, hu⟩ := und_func ht hk
    split at h
    · split at h
      · refine ⟨_, _, bxK_out h, eqv_of fun va vb ha hb => ?_⟩
        cases ha
        have hb := hb.dinv; cases hb
        exact ⟨fun d => by simp [Op.equalIn, run_underlying hu], .inr (.inr (.inl ⟨_, _, _, rfl⟩))⟩
      · cases h
    · split at h
      · refine ⟨_, _, bxK_out h, eqv_of fun va vb ha hb => ?_⟩
        have ha := ha.dinv; cases ha
        have hb := hb.dinv; cases hb
        exact ⟨fun d => by simp [Op.equalIn, run_underlying hu], .inr (.inr (.inr rfl))⟩
      · cases h
    · cases h
  · exact .inl h

theorem eqAll_out {op : BinOp} {T T' : TypeId} {x y : Operand} (ho : o.op = .binOp op T x y T')
    (h : evK st x fun a => evK st y fun b => eqAllK C st op T a b fun r rd => K r [] rd) : ∃ out upd rd, K out upd rd ∧ VOp C n o nm st rd out upd := by
  obtain ⟨va, hb1, h⟩ := evK_bind h
  obtain ⟨vb, hb2, h⟩ := evK_bind h
  have old : binK C T op va vb (fun r => K r [] []) → ∃ out upd rd, K out upd rd ∧ VOp C n o nm st rd out upd := fun h' =>
    bin_out ho (hb1 _ (hb2 _ h'))
  obtain ⟨a0, e1, h1⟩ := evK_out (hb1 (fun a => a = va) rfl)
  obtain ⟨b0, e2, h2⟩ := evK_out (hb2 (fun a => a = vb) rfl)
  subst h1 h2
  have new : ∀ ng, op = ngOp ng → (lookK C.tab T fun ti => eqvK C st ti.kd ng a0 b0 (fun r rd => K r [] rd) (binK C T op a0 b0 fun r => K r [] [])) → ∃ out upd rd, K out upd rd ∧ VOp C n o nm st rd out upd := by
    rintro ng hop h
    replace h := lookK_out h; obtain ⟨ti, hti, h⟩ := h
    rcases eqvK_out (C.ty hti) h with h | ⟨out, rd, h, hE⟩
    · exact old h
    · refine ⟨_, _, _, h, VOp.pure fun X0 F w0 p α S a w hs he ho' => ?_⟩
      have hx := (e1.to (by rw [ho]; simp [Op.operands]) he).read hs
      have hy := (e2.to (by rw [ho]; simp [Op.operands]) he).read hs
      obtain ⟨v, h5, h6, h7⟩ := hE hs ho' _ _ hx hy x y
      refine ⟨v, ?_, h6, h7⟩
      simp only [execOp, ho, Sem.run_bind, hop]
      simp only [Sem.run_bind] at h5
      rw [h5]; simp [Result.andThen]
  unfold eqAllK at h
  split at h
  · exact new false rfl h
  · exact new true rfl h
  · exact old h

/-! #### Pointers and unsafe pointers -/

/-- A pointer to an own variable as an unsafe pointer. -/
def toUnsK (C : Ctx) (st : AS) (u : TypeId) (a : AV) (K : KO) : Prop :=
  match a with
  | .op k i j => (match i, j with
    | 0, 0 => ownK st k fun e => match e with
      | .box cs _ => lookK C.tab u fun tu => match tu.size, cs with | _ + 1, _ :: _ => K (.op k 0 0) [] [k] | _, _ => False
      | _ => False
    | _, _ => False)
  | _ => False

/-- .. and back: what lies there must be laid out as the type. -/
structure LiesK (P : Program) (V : TypeId) (n : Nat) (u : TypeId) (a : Prop) : Prop where
  out : liesAt P P.depth V (n / P.cellsOf V) 0 u 1 = true ∧ a
theorem lies {P : Program} {V : TypeId} {n : Nat} {u : TypeId} {a : Prop} (h : liesAt P P.depth V (n / P.cellsOf V) 0 u 1 = true) (h1 : a) : LiesK P V n u a := ⟨h, h1⟩

def fromUnsK (C : Ctx) (st : AS) (u : TypeId) (a : AV) (K : KO) : Prop :=
  match a with
  | .op k i j => (match i, j with
    | 0, 0 => ownK st k fun e => match e with
      | .box cs (some V) => lookK C.tab u fun _ => LiesK C.P V cs.length u (K (.op k 0 0) [] [k])
      | _ => False
    | _, _ => False)
  | _ => False

theorem toUns_out {S T u : TypeId} {x : Operand} (ho : o.op = .convert S T x) (hS : C.P.underlying S = some (.pointer u)) (hT : C.P.underlying T = some .unsafePointer) (h : evK st x fun a => toUnsK C st u a K) : ∃ out upd rd, K out upd rd ∧ VOp C n o nm st rd out upd := by
  replace h := evK_out h; obtain ⟨va, h1, h⟩ := h
  have hmem : x ∈ o.op.operands := by rw [ho]; simp [Op.operands]
  unfold toUnsK at h
  split at h
  · rename_i k i j
    split at h
    · replace h := ownK_out h; obtain ⟨en, hen, h⟩ := h
      split at h
      · rename_i cs T0
        replace h := lookK_out h; obtain ⟨tu, htu, h⟩ := h
        split at h
        · rename_i m c r hm
          refine ⟨_, _, _, h, VOp.pure fun X0 F w0 p α S' a w hs he ho' => ?_⟩
          have hx := h1.to hmem he
          have hr := hx.read hs
          generalize hv : a.eval x = v at hr
          have hok := hx.ok hs
          rcases hs.own k _ (ho' k (by simp) _ hen) with ⟨_, ⟨sz', _, he'⟩, _⟩ | ⟨_, arr, U, fz, cap, hB⟩
          · cases he'
          obtain ⟨⟨iu, hiu, hius, _⟩, _⟩ := C.ty htu
          have hb := hB.bnd
          have hl := hB.len
          simp only [Ent.len, Ent.sz, List.length_cons] at hb hl
          have h9 : 1 * (r.length + 1) ≤ cap * (r.length + 1) := Nat.mul_le_mul_right _ hl
          cases hr
          refine ⟨_, ?_, .op k 0 0, hok⟩
          have := Lib.run_to_unsafe (P := C.P) w (src := S) (dst := T) (t := u) (e := U) (cells := arr.size) ⟨(α k).blk, (α k).off + 0 * (α k).sz + 0, none⟩ hS hT hiu (by rw [hius, hm]; simp) (by simp [World.shape?, hB.heap]) (by simp; omega)
          simp only [execOp, ho, Sem.run_bind, hv]
          rw [this]; rfl
        · cases h
      · cases h
    · cases h
  · cases h

theorem fromUns_out {S T u : TypeId} {x : Operand} (ho : o.op = .convert S T x) (hS : C.P.underlying S = some .unsafePointer) (hT : C.P.underlying T = some (.pointer u)) (h : evK st x fun a => fromUnsK C st u a K) : ∃ out upd rd, K out upd rd ∧ VOp C n o nm st rd out upd := by
  replace h := evK_out h; obtain ⟨va, h1, h⟩ := h
  have hmem : x ∈ o.op.operands := by rw [ho]; simp [Op.operands]
  unfold fromUnsK at h
  split at h
  · rename_i k i j
    split at h
    · replace h := ownK_out h; obtain ⟨en, hen, h⟩ := h
      split at h
      · rename_i cs V
        replace h := lookK_out h; obtain ⟨tu, htu, h⟩ := h
        obtain ⟨hlies, h⟩ := h.out
        refine ⟨_, _, _, h, VOp.pure fun X0 F w0 p α S' a w hs he ho' => ?_⟩
        have hx := h1.to hmem he
        have hr := hx.read hs
        generalize hv : a.eval x = v at hr
        have hok := hx.ok hs
        rcases hs.own k _ (ho' k (by simp) _ hen) with ⟨_, ⟨sz', _, he'⟩, _⟩ | ⟨_, arr, U, fz, cap, hB⟩
        · cases he'
        obtain ⟨rfl, hoff, hsz⟩ := hB.ty V rfl
        obtain ⟨⟨iu, hiu, _⟩, _⟩ := C.ty htu
        cases hr
        refine ⟨_, ?_, .op k 0 0, hok⟩
        have := Lib.run_from_unsafe (P := C.P) w (src := S) (dst := T) (u := u) (e := U) (cells := arr.size) ⟨(α k).blk, (α k).off + 0 * (α k).sz + 0, none⟩ hS hT hiu (by simp [World.shape?, hB.heap]) (by rw [hsz cs _ rfl]; simpa [hoff] using hlies)
        simp only [execOp, ho, Sem.run_bind, hv]
        rw [this]; rfl
      · cases h
    · cases h
  · cases h

/-! #### The bytes of a row shared with a string -/

/-- unsafe.SliceData of an own row. -/
structure SdK (xs : List D) (a b : Prop) : Prop where
  out : (xs ≠ [] → a) ∧ (xs = [] → b)
theorem sd_both {xs : List D} {a b : Prop} (h1 : xs ≠ [] → a) (h2 : xs = [] → b) : SdK xs a b := ⟨h1, h2⟩
def slDataK (st : AS) (a : AV) (K : KO) : Prop :=
  match a with
  | .nl _ => K (.d (.x (.pointer none))) [] []
  | .os k => ownK st k fun e => match e with | .buf _ xs (some _) => SdK xs (K (.op k 0 0) [] [k]) (K .ap [] [k]) | _ => False
  | _ => False

def unsStrK (C : Ctx) (st : AS) (T : TypeId) (a b : AV) (K : KO) : Prop :=
  match b with
  | .d (.i k m) => (match k with
    | .i64 => (match a with
      | .op k i j => (match i, j with
        | 0, 0 => lookK C.tab T fun tp => match tp.kd with
          | .ptr e => lookK C.tab e fun te => match te.size with
            | 1 => ownK st k fun en => match en with
              | .buf sz ds (some e') => (match sz, Nat.beq e e' with
                | 1, true => BytesK ds fun l => Hold (l ≠ [] ∧ m = (l.length : Int) ∧ l.length ≤ 9223372036854775807) ∧ K (.d (.s l)) [(k, none)] [k]
                | _, _ => False)
              | _ => False
            | _ => False
          | _ => False
        | _, _ => False)
      | .d (.x v) => (match v with | .pointer none => Hold (m = 0) ∧ K (.d (.s [])) [] [] | _ => False)
      | .ap => Hold (m = 0) ∧ K (.d (.s [])) [] []
      | _ => False)
    | _ => False)
  | _ => False

theorem slData_run {c : Call} {x : Operand} (ho : o.op = .call c) (hc : c.callee = .builtin .unsafeSliceData) (ha : c.args = #[x]) {P : Program} {a : Act} {w w' : World} {v : Value}
    (h : (Builtin.unsafeSliceData_ c.argTypes o.type #[a.eval x]).run P w = .ok v w') : (execOp a.eval o).run P w = .ok (.value v) w' := by
  simp [execOp, ho, resolve, hc, ha, invoke, builtin, h]

theorem slData_out {c : Call} {x : Operand} (ho : o.op = .call c) (hc : c.callee = .builtin .unsafeSliceData) (ha : c.args = #[x]) (hT : ∃ e, C.P.underlying o.type = some (.pointer e)) (h : evK st x fun a => slDataK st a K) : ∃ out upd rd, K out upd rd ∧ VOp C n o nm st rd out upd := by
  replace h := evK_out h; obtain ⟨va, h1, h⟩ := h
  have hmem : x ∈ o.op.operands := by rw [ho]; simp [Op.operands, Call.operands, hc, ha]
  obtain ⟨e, hT⟩ := hT
  unfold slDataK at h
  split at h
  · refine ⟨_, _, _, h, VOp.pure fun X0 F w0 p α S a w hs he _ => ?_⟩
    have hr := (h1.to hmem he).read hs
    generalize hv : a.eval x = v at hr
    cases hr
    exact ⟨_, slData_run ho hc ha (by rw [hv]; exact Lib.run_unsafeSliceData_nil w _ _ 0 0), .d _ _ (.x _), .d _⟩
  · rename_i k
    replace h := ownK_out h; obtain ⟨en, hen, h⟩ := h
    split at h
    · rename_i sz xs V
      by_cases hx : xs = []
      · refine ⟨_, _, _, h.out.2 hx, fun k oe hl => by simp [look] at hl, fun X0 F w0 p α S a w Q next hs he ho' hp hd hn => ?_⟩
        have hr := (h1.to hmem he).read hs
        generalize hv : a.eval x = v at hr
        have stay : ∀ q, (Builtin.unsafeSliceData_ c.argTypes o.type #[a.eval x]).run C.P w = .ok (.pointer q) w → o.wp C.P a w next Q := by
          intro q hrun
          exact wp_value (slData_run ho hc ha hrun) (hn α _ w ((hs.pure o.dst hd .ap (.pointer q) (.ap q) .ap).mono fun k hk => .inl hk))
        cases hr
        rcases hs.own k _ (ho' k (by simp) _ hen) with ⟨_, ⟨sz', _, he'⟩, hvn⟩ | ⟨_, arr, U, fz, cap, hB⟩
        · exact stay none (by rw [hv, hvn]; exact Lib.run_unsafeSliceData_nil w _ _ 0 0)
        · have hhv := hB.hv sz xs _ rfl
          by_cases hc0 : cap = 0
          · subst hc0
            have hrun := Lib.run_unsafeSliceData_zero (P := C.P) w c.argTypes o.type e hT ⟨(α k).blk, (α k).off, none⟩ xs.length (U, arr.size) (by simp [World.shape?, hB.heap])
            refine wp_value (slData_run ho hc ha (by rw [hv, hhv]; exact hrun)) (hn α _ _ ?_)
            refine hs.upd _ (fun k hk => .inl hk) α _ o.dst hd .ap [] _ (fun _ _ => rfl) (by simp [alloc_push]) rfl rfl rfl (fun b hb _ => by rw [alloc_push, Array.getElem?_push_lt hb]; simp [hb]) (fun k e hl => by simp [look] at hl) (fun k e hl => by simp [look] at hl) (fun k e k' e' hl => by simp [look] at hl) (fun _ k e hl => by simp [look] at hl) (fun _ => .ap _) .ap
          · exact stay _ (by rw [hv, hhv]; exact Lib.run_unsafeSliceData_row w _ _ _ _ _ hc0)
      · refine ⟨_, _, _, h.out.1 hx, VOp.pure fun X0 F w0 p α S a w hs he ho' => ?_⟩
        have hx1 := h1.to hmem he
        have hr := hx1.read hs
        have hok := hx1.ok hs
        generalize hv : a.eval x = v at hr
        cases hr
        cases hok with
        | os _ hpk =>
        rcases hs.own k _ (ho' k (by simp) _ hen) with ⟨_, ⟨sz', _, he'⟩, hvn⟩ | ⟨_, arr, U, fz, cap, hB⟩
        · cases he'; exact absurd rfl hx
        · have hhv := hB.hv sz xs _ rfl
          have hl := hB.len
          simp only [Ent.len] at hl
          have hpos : 0 < xs.length := List.length_pos_iff.2 hx
          have := RdA.op (w := w) (α := α) (X := XX α S.own X0) k 0 0
          simp only [Nat.zero_mul, Nat.add_zero] at this
          exact ⟨_, slData_run ho hc ha (by rw [hv, hhv]; exact Lib.run_unsafeSliceData_row w _ _ _ _ _ (by omega)), this, .op k 0 0 hpk⟩
    · cases h
  · cases h

theorem unsStr_run {c : Call} {x y : Operand} {T T' : TypeId} (ho : o.op = .call c) (hc : c.callee = .builtin .unsafeString) (ha : c.args = #[x, y]) (hT : c.argTypes = #[T, T']) {P : Program} {a : Act} {w w' : World} {v : Value}
    (h : (Builtin.unsafeString_ #[T, T'] o.type #[a.eval x, a.eval y]).run P w = .ok v w') : (execOp a.eval o).run P w = .ok (.value v) w' := by
  simp [execOp, ho, resolve, hc, ha, hT, invoke, builtin, h]

theorem freeze_heap (w : World) (p : Addr) (n : Nat) : (w.freeze p n).os = w.os ∧ (w.freeze p n).tape = w.tape ∧ (w.freeze p n).output = w.output ∧ (w.freeze p n).heap.size = w.heap.size ∧ ∀ b, b ≠ p.block → (w.freeze p n).heap[b]? = w.heap[b]? := by
  unfold World.freeze
  split
  · exact ⟨rfl, rfl, rfl, rfl, fun _ _ => rfl⟩
  · refine ⟨rfl, rfl, rfl, by simp, fun b hb => ?_⟩
    simp only [Array.getElem?_modify]
    rw [if_neg fun h => hb h.symm]

theorem unsStr_out {c : Call} {x y : Operand} {T T' : TypeId} (ho : o.op = .call c) (hc : c.callee = .builtin .unsafeString) (ha : c.args = #[x, y]) (hT : c.argTypes = #[T, T']) (h : evK st x fun a => evK st y fun b => unsStrK C st T a b K) : ∃ out upd rd, K out upd rd ∧ VOp C n o nm st rd out upd := by
  replace h := evK_out h; obtain ⟨va, h1, h⟩ := h
  replace h := evK_out h; obtain ⟨vb, h2, h⟩ := h
  have hm1 : x ∈ o.op.operands := by rw [ho]; simp [Op.operands, Call.operands, hc, ha]
  have hm2 : y ∈ o.op.operands := by rw [ho]; simp [Op.operands, Call.operands, hc, ha]
  have empty : ∀ {m : Int}, Ev st.ss.env y (.d (.i .i64 m)) → (∀ {w : World} {α : Nat → Loc} {X : Nat → Prop} {v : Value}, RdA w α X va v → ∃ q, v = .pointer q) → (Hold (m = 0) ∧ K (.d (.s [])) [] []) → ∃ out upd rd, K out upd rd ∧ VOp C n o nm st rd out upd := by
    rintro m h2 hp ⟨hm, h⟩
    have hm := hm.out; subst hm
    refine ⟨_, _, _, h, VOp.pure fun X0 F w0 p α S a w hs he _ => ?_⟩
    obtain ⟨q, hq⟩ := hp ((h1.to hm1 he).read hs)
    have hy := ((h2.to hm2 he).read hs).dinv.iinv
    exact ⟨.string .empty, unsStr_run ho hc ha hT (by rw [hq, hy]; exact Lib.run_unsafeString_none w _ _ _ q), .d _ _ (.s []), .d _⟩
  unfold unsStrK at h
  split at h
  · rename_i ki m
    split at h
    · split at h
      · rename_i k i j
        split at h
        · replace h := lookK_out h; obtain ⟨tp, htp, h⟩ := h
          split at h
          · rename_i e hk
            have hu := und_ptr (C.ty htp) hk
            replace h := lookK_out h; obtain ⟨te, hte, h⟩ := h
            split at h
            · rename_i hsz
              replace h := ownK_out h; obtain ⟨en, hen, h⟩ := h
              split at h
              · rename_i sz ds e'
                split at h
                · rename_i hee
                  obtain rfl := Nat.eq_of_beq_eq_true hee
                  obtain ⟨l, rfl, hh, h⟩ := h
                  obtain ⟨hl0, rfl, hmax⟩ := hh.out
                  have hce : C.P.cellsOf e = 1 := by
                    obtain ⟨⟨ie, hie, hies, _⟩, _⟩ := C.ty hte
                    simp [Program.cellsOf, hie, hies, hsz]
                  have hlk : ∀ j oe, look [(k, (none : Option Ent))] j = some oe → j = k ∧ oe = none := by
                    intro j oe hl
                    simp only [look] at hl
                    split at hl
                    · rename_i hb; cases hl; exact ⟨Nat.eq_of_beq_eq_true hb, rfl⟩
                    · cases hl
                  refine ⟨_, _, _, h, fun j oe hl => .inl (by rw [(hlk j oe hl).1]; simp), fun X0 F w0 p α S a w Q next hs he ho' hp hd hn => ?_⟩
                  have hr := (h1.to hm1 he).read hs
                  have hy := ((h2.to hm2 he).read hs).dinv.iinv
                  generalize hv : a.eval x = v at hr
                  have hsk := ho' k (by simp) _ hen
                  rcases hs.own k _ hsk with ⟨_, ⟨sz', _, he'⟩, hvn⟩ | ⟨hnil, arr, U, fz, cap, hB⟩
                  · have := congrArg Ent.len he'; simp [Ent.len, encB] at this; exact absurd this hl0
                  obtain ⟨rfl, hoff, _⟩ := hB.ty e rfl
                  have hbd := hB.bnd
                  have hln := hB.len
                  simp only [Ent.len, Ent.sz, hoff] at hbd hln
                  have hll : (encB l).length = l.length := by simp [encB]
                  cases hr
                  have hrun := Lib.run_unsafeString_row (P := C.P) w T T' o.type U hu hce (α k).blk arr.size (by simp [World.shape?, hB.heap]) l hl0 (by omega) hmax (fun j x hx => by
                    have hg : (encB l)[j]? = some (.i .u8 (x.toNat : Int)) := by simp [encB, hx]
                    obtain ⟨u, h5, h6⟩ := hB.rd j 0 _ (cell_d (e := .buf 1 (encB l) _) rfl hg (c := .i .u8 (x.toNat : Int)) rfl)
                    have h6 := h6.dinv.iinv
                    simp only [hoff, Ent.sz, Nat.mul_one, Nat.zero_add, Nat.add_zero] at h5
                    have e2 : (⟨(α k).blk, 0, none⟩ : Addr).add j = ⟨(α k).blk, j, none⟩ := by unfold Addr.add; split <;> simp_all
                    rw [e2, cell_of hB.heap, h5, h6])
                  obtain ⟨f1, f2, f3, f4, f5⟩ := freeze_heap w ⟨(α k).blk, 0, none⟩ l.length
                  refine wp_value (unsStr_run ho hc ha hT (by rw [hv, hy]; simpa [hoff] using hrun)) (hn α _ _ ?_)
                  refine hs.upd _ (fun k hk => .inl hk) α _ o.dst hd (.d (.s l)) _ _ (fun _ _ => rfl) (Nat.le_of_eq f4.symm) f1 f2 f3 (fun b _ hb => f5 b fun e => hb k _ hsk (by simp [look]) hnil e.symm) ?_ ?_ ?_ ?_ (fun _ => .d _ _ (.s l)) (.d _)
                  · intro j e hl; cases (hlk j _ hl).2
                  · intro j e hl; cases (hlk j _ hl).2
                  · intro j e j' e' hl; cases (hlk j _ hl).2
                  · intro _ j e hl; cases (hlk j _ hl).2
                · cases h
              · cases h
            · cases h
          · cases h
        · cases h
      · rename_i v
        split at h
        · exact empty h2 (fun hr => ⟨none, by have := hr.dinv; cases this; rfl⟩) h
        · cases h
      · exact empty h2 (fun hr => by cases hr; exact ⟨_, rfl⟩) h
      · cases h
    · cases h
  · cases h
end
end Go.Eng

/-
  A region, a body, a function: the reckoning over the view, and that it speaks true.
-/
namespace Go.Eng
open Go.RowKit (Below)

def convAllK (C : Ctx) (st : AS) (nm : Nat) (S T : TypeId) (a : AV) (K : KO) : Prop :=
  lookK C.tab S fun tS => lookK C.tab T fun tT => match tS.kd, tT.kd with
    | .slice _, .str => b2sK C st S T a K
    | .str, .slice _ => s2bK C nm S T a K
    | .ptr u, .uptr => toUnsK C st u a K
    | .uptr, .ptr u => fromUnsK C st u a K
    | _, _ => convK C T a fun r => K r [] []

def builtinK (C : Ctx) (st : AS) (nm : Nat) (oT : TypeId) (b : Builtin) (as : List Operand) (ts : List TypeId) (K : KO) : Prop :=
  match b with
  | .len => match as, ts with
    | [x], [T] => evK st x fun a => lookK C.tab T fun ti => match isSl ti.kd a with | true => lenK st a fun m rd => K (.d (.i .i64 (m : Int))) [] rd | false => False
    | _, _ => False
  | .append => match as, ts with
    | [s, x], [T, Tx] => evTK C st T s fun a => evTK C st Tx x fun b => appendK C st nm T Tx a b K
    | _, _ => False
  | .max => evsK st as fun as => minmaxK true as fun r => K r [] []
  | .min => evsK st as fun as => minmaxK false as fun r => K r [] []
  | .unsafeSliceData => match as with | [x] => lookK C.tab oT fun ti => (match ti.kd with | .ptr _ => evK st x fun a => slDataK st a K | _ => False) | _ => False
  | .unsafeString => match as, ts with | [x, y], [T, _] => evK st x fun a => evK st y fun b => unsStrK C st T a b K | _, _ => False
  | _ => False

def opK (C : Ctx) (o : Oper) (nm : Nat) (st : AS) (K : KO) : Prop :=
  match o.op with
  | .move x => evTK C st o.type x fun a => K a [] []
  | .assign x => evTK C st o.type x fun a => assignK nm a K
  | .pick c x y => evK st c fun vc => boolK vc fun t => BIf t (evK st x fun a => K a [] []) (evK st y fun a => K a [] [])
  | .alloc T => allocK C nm T K
  | .box T x => evTK C st T x fun a => boxK C nm T a K
  | .build T ps => buildK C st T ps.toList fun r => K r [] []
  | .buildSlice T len ps => rowK C st nm T len ps.toList K
  | .load T x => evK st x fun a => loadK C st T a fun r rd => K r [] rd
  | .store T p v => evK st p fun a => evTK C st T v fun b => storeK C st T a b K
  | .nilCheck x => evK st x fun a => nilK a fun r => K r [] []
  | .binOp op T x y _ => evK st x fun a => evK st y fun b => eqAllK C st op T a b fun r rd => K r [] rd
  | .unOp op _ x => evK st x fun a => unK op a fun r => K r [] []
  | .convert S T x => evK st x fun a => convAllK C st nm S T a K
  | .slice T x lo hi none => evK st x fun a => ovK st lo fun l => ovK st hi fun r => sliceK C st T a l r K
  | .fieldAddr T x f => evK st x fun a => faddrK C T f a fun r => K r [] []
  | .indexAddr T x ix => evK st x fun a => evK st ix fun i => iaddrK C st T a i fun r rd => K r [] rd
  | .index T x ix => evK st x fun a => evK st ix fun i => indexK C T a i fun r => K r [] []
  | .extract x i => evK st x fun a => extrK a i fun r => K r [] []
  | .call c => match c.callee with
    | .builtin b => builtinK C st nm o.type b c.args.toList c.argTypes.toList K
    | .value x => fnK st x fun f pre post => evsK st c.args.toList fun as => pre2 pre as post fun as => goK C st nm f as K
    | _ => False
  | .makeFunc fn first captured => evsK st first.toList fun as => evsK st captured.toList fun bs => K (.fn fn as bs) [] []
  | _ => False

theorem arr1 {β : Type} {a : Array β} {x : β} (h : a.toList = [x]) : a = #[x] := by cases a; simp at h; rw [h]
theorem arr2 {β : Type} {a : Array β} {x y : β} (h : a.toList = [x, y]) : a = #[x, y] := by cases a; simp at h; rw [h]

section
variable {C : Ctx} {n : Nat} {o : Oper} {nm : Nat} {st : AS} {K : KO}

theorem builtin_out {c : Call} {b : Builtin} (ho : o.op = .call c) (hc : c.callee = .builtin b) (h : builtinK C st nm o.type b c.args.toList c.argTypes.toList K) : ∃ out upd rd, K out upd rd ∧ VOp C n o nm st rd out upd := by
  unfold builtinK at h
  split at h
  · split at h
    · rename_i x T ha hT
      exact len_out ho hc (arr1 ha) (arr1 hT) h
    · cases h
  · split at h
    · rename_i s x T Tx ha hT
      exact append_out ho hc (arr2 ha) (arr2 hT) h
    · cases h
  · exact minmax_out true ho hc h
  · exact minmax_out false ho hc h
  · split at h
    · rename_i x ha
      replace h := lookK_out h; obtain ⟨ti, hti, h⟩ := h
      split at h
      · rename_i e hk; exact slData_out ho hc (arr1 ha) ⟨e, und_ptr (C.ty hti) hk⟩ h
      · cases h
    · cases h
  · split at h
    · rename_i x y T T' ha hT; exact unsStr_out ho hc (arr2 ha) (arr2 hT) h
    · cases h
  · cases h

theorem opK_out (h : opK C o nm st K) : ∃ out upd rd, K out upd rd ∧ VOp C n o nm st rd out upd := by
  unfold opK at h
  split at h
  · rename_i x ho; exact move_out ho h
  · rename_i x ho; exact assign_out ho h
  · rename_i c x y ho; exact pick_out ho h
  · rename_i T ho; exact alloc_out ho h
  · rename_i T x ho; exact box_out ho h
  · rename_i T ps ho; exact build_out ho h
  · rename_i T len ps ho; exact row_out ho h
  · rename_i T x ho; exact load_out ho h
  · rename_i T p v ho; exact store_out ho h
  · rename_i x ho; exact nil_out ho h
  · rename_i op T x y T' ho; exact eqAll_out ho h
  · rename_i op T x ho; exact un_out ho h
  · rename_i S T x ho
    obtain ⟨av, hb, h⟩ := evK_bind h
    unfold convAllK at h
    replace h := lookK_out h; obtain ⟨tS, htS, h⟩ := h
    replace h := lookK_out h; obtain ⟨tT, htT, h⟩ := h
    split at h
    · exact b2s_out ho (hb _ h)
    · exact s2b_out ho (hb _ h)
    · rename_i u hk1 hk2; exact toUns_out ho (und_ptr (C.ty htS) hk1) (und_uptr (C.ty htT) hk2) (hb (fun a => toUnsK C st u a K) h)
    · rename_i u hk1 hk2; exact fromUns_out ho (und_uptr (C.ty htS) hk1) (und_ptr (C.ty htT) hk2) (hb (fun a => fromUnsK C st u a K) h)
    · exact conv_out ho ⟨tS, htS⟩ (hb (fun a => convK C T a fun r => K r [] []) h)
  · rename_i T x lo hi ho; exact slice_out ho h
  · rename_i T x f ho; exact faddr_out ho h
  · rename_i T x ix ho; exact iaddr_out ho h
  · rename_i T x ix ho; exact index_out ho h
  · rename_i x i ho; exact extr_out ho h
  · rename_i c ho
    split at h
    · rename_i b hc; exact builtin_out ho hc h
    · rename_i f hc; exact call_out ho hc h
    · cases h
  · rename_i fn first captured ho; exact mkfn_out ho h
  · cases h

end

/-! ### Regions -/

structure Fp where
  i : Nat
  o : Oper
  rd : List Nat
  wr : List Nat

def dstK (n : Nat) (d : Option Nat) (K : Prop) : Prop :=
  match d with | none => K | some d => match Nat.blt d n with | true => K | false => False

theorem dstK_out {n : Nat} {d : Option Nat} {K : Prop} (h : dstK n d K) : K ∧ ∀ x, d = some x → x < n := by
  unfold dstK at h
  split at h
  · exact ⟨h, fun x hx => by cases hx⟩
  · split at h
    · rename_i hb; exact ⟨h, fun x hx => by cases hx; have := hb; simp [Nat.blt] at this; omega⟩
    · cases h

def appK (l m : List (Nat × Option Ent)) (K : List (Nat × Option Ent) → Prop) : Prop :=
  match l with
  | [] => K m
  | x :: r => appK r m fun r => K (x :: r)
theorem appK_out {l m : List (Nat × Option Ent)} {K : List (Nat × Option Ent) → Prop} (h : appK l m K) : K (l ++ m) := by
  induction l generalizing K with
  | nil => exact h
  | cons x r ih => exact ih (K := fun r => K (x :: r)) h

def consK (st : AS) (dst : Option Nat) (out : AV) (upd : List (Nat × Option Ent)) (K : AS → Prop) : Prop :=
  match st with
  | ⟨env, own, nx⟩ => match dst, upd with
    | some d, [] => K ⟨(d, out) :: env, own, nx⟩
    | some d, [x] => K ⟨(d, out) :: env, x :: own, nx⟩
    | some d, [x, y] => K ⟨(d, out) :: env, x :: y :: own, nx⟩
    | some d, l => appK l own fun own => K ⟨(d, out) :: env, own, nx⟩
    | none, [x] => K ⟨env, x :: own, nx⟩
    | none, l => appK l own fun own => K ⟨env, own, nx⟩

/-- The region's end: its operations' names are spent. -/
def bumpK (st : AS) (n : Nat) (K : AS → Prop) : Prop :=
  match st with
  | ⟨env, own, nx⟩ => match nx + n with
    | 0 => K ⟨env, own, 0⟩
    | m + 1 => K ⟨env, own, m + 1⟩

theorem bumpK_out {st : AS} {n : Nat} {K : AS → Prop} (h : bumpK st n K) : K ⟨st.env, st.own, st.nx + n⟩ := by
  obtain ⟨env, own, nx⟩ := st
  simp only [bumpK] at h
  split at h
  · rename_i h0; simp only [h0]; exact h
  · rename_i h0; simp only [h0]; exact h

theorem consK_out {st : AS} {dst : Option Nat} {out : AV} {upd : List (Nat × Option Ent)} {K : AS → Prop} (h : consK st dst out upd K) : ∃ st', K st' ∧ st'.ss = st.ss.upd dst out upd ∧ st'.nx = st.nx := by
  have e1 : ∀ d, (AS.mk ((d, out) :: st.env) (upd ++ st.own) st.nx).ss = st.ss.upd (some d) out upd := by
    intro d
    simp only [AS.ss, SS.upd, SS.mk.injEq]
    constructor
    · funext t
      simp only [look]
      by_cases hd : d = t
      · subst hd; simp
      · have : Nat.beq t d = false := by
          cases hb : Nat.beq t d with
          | false => rfl
          | true => exact absurd (Nat.eq_of_beq_eq_true hb).symm hd
        simp [this, hd]
    · funext k
      rw [look_append']
      cases look upd k <;> simp
  have e2 : (AS.mk st.env (upd ++ st.own) st.nx).ss = st.ss.upd none out upd := by
    simp only [AS.ss, SS.upd, SS.mk.injEq]
    constructor
    · funext t; simp
    · funext k
      rw [look_append']
      cases look upd k <;> simp
  obtain ⟨env, own, nx⟩ := st
  simp only [consK] at h
  split at h
  · exact ⟨_, h, e1 _, rfl⟩
  · exact ⟨_, h, e1 _, rfl⟩
  · exact ⟨_, h, e1 _, rfl⟩
  · exact ⟨_, appK_out h, e1 _, rfl⟩
  · exact ⟨_, h, e2, rfl⟩
  · exact ⟨_, appK_out h, e2, rfl⟩

def isUndef : Value → Bool
  | .tuple vs => Nat.beq vs.size 0
  | _ => false

theorem isUndef_eq {v : Value} (h : isUndef v = true) : v = undef := by
  unfold isUndef at h
  split at h
  · rename_i vs
    rw [Array.eq_empty_of_size_eq_zero (Nat.eq_of_beq_eq_true h)]; rfl
  · cases h

/-- Is the operation wanted? -/
def guardK (all : List Oper) (st : AS) (o : Oper) (run skip : Prop) : Prop :=
  match o.guard with
  | none => run
  | some (g, want) => nthK all g fun og => match og.dst with
    | some d => lookK st.env d fun a => match a with
      | .d (.b t) => BIf t (match want with | true => run | false => skip) (match want with | true => skip | false => run)
      | .d (.x v) => match isUndef v with | true => skip | false => False
      | _ => False
    | none => False

def nmK (n : Nat) (K : Nat → Prop) : Prop := match n with | 0 => K 0 | m + 1 => K (m + 1)
theorem nmK_out {n : Nat} {K : Nat → Prop} (h : nmK n K) : K n := by
  unfold nmK at h
  split at h <;> exact h
def atK (st : AS) (i : Nat) (K : Nat → Prop) : Prop := match st with | ⟨_, _, nx⟩ => nmK (nx + i) K
theorem atK_out {st : AS} {i : Nat} {K : Nat → Prop} (h : atK st i K) : K (st.nx + i) := nmK_out h

/-- One operation, then the rest. (By the recursors themselves: so that the kernel and the unifier meet the same terms.) -/
def opStep (C : Ctx) (n : Nat) (all : List Oper) (o : Oper) (rest : Nat → AS → List Fp → (AS → List Fp → Prop) → Prop) (i : Nat) (st : AS) (fps : List Fp) (K : AS → List Fp → Prop) : Prop :=
  guardK all st o
    (dstK n o.dst (atK st i fun nm => opK C o nm st fun out upd rd => consK st o.dst out upd fun st' => rest (i + 1) st' (⟨i, o, rd, upd.map (·.1)⟩ :: fps) K))
    (dstK n o.dst (consK st o.dst (.d (.x undef)) [] fun st' => rest (i + 1) st' (⟨i, o, [], []⟩ :: fps) K))

noncomputable def opsK (C : Ctx) (n : Nat) (all : List Oper) (l : List Oper) : Nat → AS → List Fp → (AS → List Fp → Prop) → Prop :=
  List.rec (motive := fun _ => Nat → AS → List Fp → (AS → List Fp → Prop) → Prop) (fun _ st fps K => K st fps) (fun o _ rest => opStep C n all o rest) l

theorem opsK_cons (C : Ctx) (n : Nat) (all : List Oper) (o : Oper) (r : List Oper) (i : Nat) (st : AS) (fps : List Fp) (K : AS → List Fp → Prop) :
    opsK C n all (o :: r) i st fps K = guardK all st o
      (dstK n o.dst (atK st i fun nm => opK C o nm st fun out upd rd => consK st o.dst out upd fun st' => opsK C n all r (i + 1) st' (⟨i, o, rd, upd.map (·.1)⟩ :: fps) K))
      (dstK n o.dst (consK st o.dst (.d (.x undef)) [] fun st' => opsK C n all r (i + 1) st' (⟨i, o, [], []⟩ :: fps) K)) := rfl

def insOf (ops : Array Oper) (o : Oper) (st : AS) : List (Nat × AV) := (o.looksAt ops).filterMap fun t => (look st.env t).map fun a => (t, a)

def fpOf (st : AS) (rd : List Nat) : List (Nat × Ent) := rd.filterMap fun k => (st.ss.own k).map fun e => (k, e)

theorem mem_insOf {ops : Array Oper} {o : Oper} {st : AS} {t : Nat} {av : AV} : (t, av) ∈ insOf ops o st ↔ t ∈ o.looksAt ops ∧ look st.env t = some av := by
  unfold insOf
  rw [List.mem_filterMap]
  constructor
  · rintro ⟨t', h1, h2⟩
    cases hl : look st.env t' with
    | none => simp [hl] at h2
    | some a => simp [hl] at h2; obtain ⟨rfl, rfl⟩ := h2; exact ⟨h1, hl⟩
  · rintro ⟨h1, h2⟩; exact ⟨t, h1, by simp [h2]⟩

theorem mem_fpOf {st : AS} {rd : List Nat} {k : Nat} {e : Ent} : (k, e) ∈ fpOf st rd ↔ k ∈ rd ∧ st.ss.own k = some e := by
  unfold fpOf
  rw [List.mem_filterMap]
  constructor
  · rintro ⟨t', h1, h2⟩
    cases hl : st.ss.own t' with
    | none => simp [hl] at h2
    | some a => simp [hl] at h2; obtain ⟨rfl, rfl⟩ := h2; exact ⟨h1, hl⟩
  · rintro ⟨h1, h2⟩; exact ⟨k, h1, by simp [h2]⟩

theorem looks_operand {ops : Array Oper} {o : Oper} {t : Nat} (h : Operand.tmp t ∈ o.op.operands) : t ∈ o.looksAt ops := by
  unfold Oper.looksAt
  exact List.mem_append_left _ (List.mem_filterMap.2 ⟨.tmp t, Array.mem_toList_iff.2 h, rfl⟩)

theorem looks_guard {ops : Array Oper} {o : Oper} {g : Nat} {w : Bool} {og : Oper} {d : Nat} (hg : o.guard = some (g, w)) (ho : ops[g]? = some og) (hd : og.dst = some d) : d ∈ o.looksAt ops := by
  unfold Oper.looksAt
  refine List.mem_append_right _ ?_
  simp [hg, ho, hd]

/-- What a footprint tells of a record. -/
def FpOf (ops : Array Oper) (f : Fp) (r : Rec) : Prop :=
  ops[f.i]? = some f.o ∧ (∀ t av, (t, av) ∈ r.ins → t ∈ f.o.looksAt ops) ∧ (∀ k e, (k, e) ∈ r.fp → k ∈ f.rd) ∧ ∀ k, (look r.upd k).isSome = true → k ∈ f.wr

theorem look_some_mem {β : Type} {l : List (Nat × β)} {k : Nat} (h : (look l k).isSome = true) : k ∈ l.map (·.1) := by
  cases hl : look l k with
  | none => rw [hl] at h; cases h
  | some v => exact List.mem_map.2 ⟨(k, v), look_mem hl, rfl⟩

theorem valid_run {C : Ctx} {ops : Array Oper} {n i : Nat} {o : Oper} {st : AS} {rd : List Nat} {out : AV} {upd : List (Nat × Option Ent)} (hi : ops[i]? = some o) (hd : ∀ x, o.dst = some x → x < n)
    (hw : ∀ {X0 F w0 p α S a w}, Sim C.G X0 F w0 n p α S a w → (∀ t av, (t, av) ∈ insOf ops o st → S.env t = some av) → Region.wanted o (yielded ops a.tmps) = true)
    (hv : VOp C n o (st.nx + i) st rd out upd) : Valid C.P C.G ops n st.nx i ⟨insOf ops o st, fpOf st rd, out, upd⟩ := by
  intro X0 F w0 p α S a w Q K hs hpre hp hK
  unfold wpOp
  simp only [hi]
  rw [if_pos (hw hs hpre.1)]
  refine .inl (hv.2 X0 F w0 p α S a w Q K hs (fun t ht av hav => hpre.1 t av (mem_insOf.2 ⟨looks_operand ht, hav⟩)) (fun k hk e he => hpre.2 k e (mem_fpOf.2 ⟨hk, he⟩)) hp hd fun α' v w' hS => ?_)
  have hdst : dstOf ops i = o.dst := by simp [dstOf, hi]
  exact hK α' _ w' (by rw [hdst]; exact hS)

theorem valid_skip {C : Ctx} {ops : Array Oper} {n i : Nat} {o : Oper} {st : AS} (hi : ops[i]? = some o) (hd : ∀ x, o.dst = some x → x < n)
    (hw : ∀ {X0 F w0 p α S a w}, Sim C.G X0 F w0 n p α S a w → (∀ t av, (t, av) ∈ insOf ops o st → S.env t = some av) → Region.wanted o (yielded ops a.tmps) = false) :
    Valid C.P C.G ops n st.nx i ⟨insOf ops o st, [], .d (.x undef), []⟩ := by
  intro X0 F w0 p α S a w Q K hs hpre hp hK
  unfold wpOp
  simp only [hi]
  rw [if_neg (by rw [hw hs hpre.1]; simp)]
  have hdst : dstOf ops i = o.dst := by simp [dstOf, hi]
  refine hK α _ w ?_
  rw [hdst]
  exact (hs.pure o.dst hd (.d (.x undef)) undef (.d _ _ (.x _)) (.d _)).mono fun k hk => .inl hk

theorem guardK_out {C : Ctx} {n : Nat} {ops : Array Oper} {st : AS} {o : Oper} {run skip : Prop} (h : guardK ops.toList st o run skip) :
    (run ∧ ∀ {X0 F w0 p α S a w}, Sim C.G X0 F w0 n p α S a w → (∀ t av, (t, av) ∈ insOf ops o st → S.env t = some av) → Region.wanted o (yielded ops a.tmps) = true) ∨
    (skip ∧ ∀ {X0 F w0 p α S a w}, Sim C.G X0 F w0 n p α S a w → (∀ t av, (t, av) ∈ insOf ops o st → S.env t = some av) → Region.wanted o (yielded ops a.tmps) = false) := by
  unfold guardK at h
  split at h
  · rename_i hg
    exact .inl ⟨h, fun _ _ => by simp [Region.wanted, hg]⟩
  · rename_i g want hg
    replace h := nthK_out h; obtain ⟨og, hog, h⟩ := h
    rw [Array.getElem?_toList] at hog
    split at h
    · rename_i d hd
      replace h := lookK_out h; obtain ⟨av, hav, h⟩ := h
      have hmem : ∀ {S : SS}, (∀ t av, (t, av) ∈ insOf ops o st → S.env t = some av) → S.env d = some av := fun hS => hS d av (mem_insOf.2 ⟨looks_guard hg hog hd, hav⟩)
      split at h
      · rename_i t
        have hy : ∀ {X0 F w0 p α S a w}, Sim C.G X0 F w0 n p α S a w → (∀ t' av, (t', av) ∈ insOf ops o st → S.env t' = some av) → Region.wanted o (yielded ops a.tmps) = (t == want) := by
          intro X0 F w0 p α S a w hs hS
          have hr := (hs.env d _ (hmem hS)).dinv.binv
          have : a.tmps[d]? = some (.bool t) := by
            rw [Array.getD_eq_getD_getElem?] at hr
            cases hx : a.tmps[d]? with
            | none => rw [hx] at hr; cases hr
            | some v => rw [hx] at hr; exact congrArg some hr
          simp [Region.wanted, hg, yielded, hog, hd, this]
        rcases h.out with ⟨rfl, h⟩ | ⟨rfl, h⟩
        · split at h
          · exact .inl ⟨h, fun hs hS => by rw [hy hs hS]; rfl⟩
          · exact .inr ⟨h, fun hs hS => by rw [hy hs hS]; rfl⟩
        · split at h
          · exact .inr ⟨h, fun hs hS => by rw [hy hs hS]; rfl⟩
          · exact .inl ⟨h, fun hs hS => by rw [hy hs hS]; rfl⟩
      · rename_i v0
        split at h
        case h_2 => cases h
        rename_i hud
        have hud := isUndef_eq hud
        refine .inr ⟨h, fun {X0 F w0 p α S a w} hs hS => ?_⟩
        have hr := (hs.env d _ (hmem hS)).dinv
        generalize hgd : a.tmps.getD d undef = v at hr
        cases hr
        rw [hud] at hgd
        have : yielded ops a.tmps g = none := by
          simp only [yielded, hog, hd, Option.bind_some]
          rw [Array.getD_eq_getD_getElem?] at hgd
          cases hx : a.tmps[d]? with
          | none => rfl
          | some v => rw [hx] at hgd; simp at hgd; rw [hgd]; rfl
        simp [Region.wanted, hg, this]
      · cases h
    · cases h

theorem opsK_out {C : Ctx} {n : Nat} {ops : Array Oper} : ∀ (l : List Oper) (i : Nat) (st : AS) (fps : List Fp) (K : AS → List Fp → Prop), (∀ j, l[j]? = ops[i + j]?) → opsK C n ops.toList l i st fps K →
    ∃ (st' : AS) (fs : List Fp) (rs : List (Nat × Rec)), K st' (fs.reverse ++ fps) ∧ st'.nx = st.nx ∧ Chain ops st.ss rs st'.ss ∧ (∀ x, x ∈ rs → Valid C.P C.G ops n st.nx x.1 x.2) ∧ rs.map (·.1) = List.range' i l.length ∧
      fs.length = rs.length ∧ ∀ (j : Nat) (f : Fp) (x : Nat × Rec), fs[j]? = some f → rs[j]? = some x → f.i = x.1 ∧ FpOf ops f x.2 := by
  intro l
  induction l with
  | nil =>
    intro i st fps K _ h
    exact ⟨st, [], [], h, rfl, rfl, (fun x hx => by cases hx), rfl, rfl, fun j f x hf => by simp at hf⟩
  | cons o r ih =>
    intro i st fps K hl h
    have hi : ops[i]? = some o := by have := hl 0; simpa using this.symm
    have hdst : dstOf ops i = o.dst := by simp [dstOf, hi]
    have step : ∀ (st1 : AS) (f : Fp) (x : Rec), st1.nx = st.nx → f.i = i → x.pre st.ss → st1.ss = st.ss.upd o.dst x.out x.upd → Valid C.P C.G ops n st.nx i x → FpOf ops f x → opsK C n ops.toList r (i + 1) st1 (f :: fps) K →
        ∃ (st' : AS) (fs : List Fp) (rs : List (Nat × Rec)), K st' (fs.reverse ++ fps) ∧ st'.nx = st.nx ∧ Chain ops st.ss rs st'.ss ∧ (∀ x, x ∈ rs → Valid C.P C.G ops n st.nx x.1 x.2) ∧ rs.map (·.1) = List.range' i (o :: r).length ∧
          fs.length = rs.length ∧ ∀ (j : Nat) (f : Fp) (x : Nat × Rec), fs[j]? = some f → rs[j]? = some x → f.i = x.1 ∧ FpOf ops f x.2 := by
      intro st1 f x hnx hfi hpre hss hval hfp h
      obtain ⟨st', fs, rs, h1, h2, h3, h4, h5, h6, h7⟩ := ih (i + 1) st1 (f :: fps) K (fun j => by have h9 := hl (j + 1); rw [show i + (j + 1) = i + 1 + j by omega] at h9; simpa using h9) h
      refine ⟨st', f :: fs, (i, x) :: rs, by simpa using h1, h2.trans hnx, ⟨hpre, by rw [hdst, ← hss]; exact h3⟩, fun y hy => ?_, ?_, by simp [h6], fun j g y hg hy => ?_⟩
      · rcases List.mem_cons.1 hy with rfl | hy
        · exact hval
        · rw [← hnx]; exact h4 y hy
      · simp [h5, List.range'_succ]
      · cases j with
        | zero => simp at hg hy; subst hg hy; exact ⟨hfi, hfp⟩
        | succ j => exact h7 j g y (by simpa using hg) (by simpa using hy)
    rw [opsK_cons] at h
    rcases guardK_out (C := C) (n := n) h with ⟨h, hw⟩ | ⟨h, hw⟩
    · replace h := dstK_out h; obtain ⟨h, hd⟩ := h
      replace h := opK_out (n := n) (atK_out h); obtain ⟨out, upd, rd, h, hv⟩ := h
      replace h := consK_out h; obtain ⟨st1, h, hss, hnx⟩ := h
      refine step st1 _ ⟨insOf ops o st, fpOf st rd, out, upd⟩ hnx rfl ⟨fun t av ht => (mem_insOf.1 ht).2, fun k e hk => (mem_fpOf.1 hk).2⟩ hss (valid_run hi hd hw hv) ⟨hi, fun t av ht => (mem_insOf.1 ht).1, fun k e hk => (mem_fpOf.1 hk).1, fun k hk => look_some_mem hk⟩ h
    · replace h := dstK_out h; obtain ⟨h, hd⟩ := h
      replace h := consK_out h; obtain ⟨st1, h, hss, hnx⟩ := h
      refine step st1 _ ⟨insOf ops o st, [], .d (.x undef), []⟩ hnx rfl ⟨fun t av ht => (mem_insOf.1 ht).2, fun k e hk => by cases hk⟩ hss (valid_skip hi hd hw) ⟨hi, fun t av ht => (mem_insOf.1 ht).1, (fun k e hk => by cases hk), fun k hk => by simp [look] at hk⟩ h

end Go.Eng

/-
  Bodies: sequences, tests, blocks, loops; what one view says of another; functions and their contracts.
-/
namespace Go.Eng
open Go.RowKit (Below)

def conflB (ops : Array Oper) (x y : Fp) : Bool :=
  meetN x.o.dst.toList (y.o.looksAt ops) || meetN x.o.dst.toList y.o.dst.toList || meetN y.o.dst.toList (x.o.looksAt ops) || meetN x.wr (y.rd ++ y.wr) || meetN y.wr x.rd

def edgeB (x y : Fp) : Bool := y.o.after.toList.any fun e => Nat.beq e.on x.i && Region.binds .any e

/-- fps: the latest first. -/
def sepB (ops : Array Oper) : List Fp → Bool
  | [] => true
  | y :: r => (r.all fun x => !conflB ops x y || edgeB x y) && sepB ops r

def backB (l : List Oper) (i : Nat) : Bool :=
  match l with | [] => true | o :: r => (o.after.toList.all fun e => !Region.binds .any e || Nat.blt e.on i) && backB r (i + 1)

theorem backB_get {l : List Oper} {i : Nat} (h : backB l i = true) : ∀ j o, l[j]? = some o → ∀ e ∈ o.after, Region.binds .any e = true → e.on < i + j := by
  induction l generalizing i with
  | nil => intro j o hj; simp at hj
  | cons x r ih =>
    intro j o hj e he hb
    simp only [backB, Bool.and_eq_true] at h
    cases j with
    | zero =>
      simp at hj; subst hj
      have := List.all_eq_true.1 h.1 e (by simpa using he)
      simp [hb, Nat.blt] at this
      omega
    | succ j =>
      have := ih h.2 j o (by simpa using hj) e he hb
      omega

/-- A region that draws its order: what it touches is ordered. -/
structure DrawOk (C : Ctx) (ops : Array Oper) (fps : List Fp) : Prop where
  out : (C.P.follows .mixedOrders && sepB ops fps && backB ops.toList 0) = true
theorem draw_ok {C : Ctx} {ops : Array Oper} {fps : List Fp} (h : (C.P.follows .mixedOrders && sepB ops fps && backB ops.toList 0) = true) : DrawOk C ops fps := ⟨h⟩

noncomputable def regK (C : Ctx) (n : Nat) (ops : Array Oper) (draw : Bool) (st : AS) (K : AS → Prop) : Prop :=
  opsK C n ops.toList ops.toList 0 st [] fun st' fps => match draw with
    | true => DrawOk C ops fps ∧ bumpK st' ops.toList.length K
    | false => bumpK st' ops.toList.length K

theorem apart_of {ops : Array Oper} {fs : List Fp} {rs : List (Nat × Rec)} (hlen : fs.length = rs.length) (h : ∀ (j : Nat) (f : Fp) (x : Nat × Rec), fs[j]? = some f → rs[j]? = some x → f.i = x.1 ∧ FpOf ops f x.2)
    (hp : rs.Pairwise fun x y => x.1 < y.1) (hs : sepB ops fs.reverse = true) : rs.Pairwise (Apart ops) := by
  have key : ∀ (l : List Fp), sepB ops l = true → l.Pairwise fun y x => conflB ops x y = true → edgeB x y = true := by
    intro l
    induction l with
    | nil => intro _; exact List.Pairwise.nil
    | cons y r ih =>
      intro h
      simp only [sepB, Bool.and_eq_true] at h
      refine List.pairwise_cons.2 ⟨fun x hx hc => ?_, ih h.2⟩
      have := List.all_eq_true.1 h.1 x hx
      simpa [hc] using this
  have hpw := List.pairwise_reverse.1 (key _ hs)
  rw [List.pairwise_iff_getElem] at hpw hp ⊢
  intro i j hi hj hij
  have hi' : i < fs.length := by omega
  have hj' : j < fs.length := by omega
  have h1 := h i fs[i] rs[i] (by simp) (by simp)
  have h2 := h j fs[j] rs[j] (by simp) (by simp)
  have h3 := hpw i j hi' hj' hij
  refine ⟨hp i j hi hj hij, ?_⟩
  obtain ⟨e1, a1, b1, c1, d1⟩ := h1
  obtain ⟨e2, a2, b2, c2, d2⟩ := h2
  have hd1 : dstOf ops rs[i].1 = fs[i].o.dst := by rw [← e1]; simp [dstOf, a1]
  have hd2 : dstOf ops rs[j].1 = fs[j].o.dst := by rw [← e2]; simp [dstOf, a2]
  cases hc : conflB ops fs[i] fs[j] with
  | true =>
    have he := h3 hc
    unfold edgeB at he
    obtain ⟨e, he1, he2⟩ := List.any_eq_true.1 he
    simp only [Bool.and_eq_true] at he2
    refine .inr ⟨fs[j].o, by rw [← e2]; exact a2, e, by simpa using he1, he2.2, by rw [Nat.eq_of_beq_eq_true he2.1]; exact e1⟩
  | false =>
    refine .inl ?_
    rw [hd1, hd2]
    simp only [conflB, Bool.or_eq_false_iff] at hc
    obtain ⟨⟨⟨⟨q1, q2⟩, q3⟩, q4⟩, q5⟩ := hc
    have no : ∀ {l m : List Nat} {x : Nat}, meetN l m = false → x ∈ l → x ∉ m := by
      intro l m x h hx hm
      have := meetN_iff.2 ⟨x, hx, hm⟩
      rw [h] at this; cases this
    refine ⟨fun d hd => ⟨fun av hm => no q1 (by rw [hd]; simp) (b2 d av hm), fun hd' => no q2 (x := d) (by rw [hd]; simp) (by rw [hd']; simp)⟩, fun d hd av hm => no q3 (by rw [hd]; simp) (b1 d av hm), fun k hk => ⟨fun e he => ?_, ?_⟩, fun k hk e he => ?_⟩
    · exact no q4 (d1 k hk) (List.mem_append_left _ (c2 k e he))
    · cases hl : look rs[j].2.upd k with
      | none => rfl
      | some oe => exact absurd (List.mem_append_right _ (d2 k (by rw [hl]; rfl))) (no q4 (d1 k hk))
    · exact no q5 (d2 k hk) (c1 k e he)

theorem regK_sound {C : Ctx} {n id : Nat} {ops : Array Oper} {draw : Bool} {st : AS} {K : AS → Prop} {X0 : Nat → Prop} {F : Fr} {w0 : World} {α : Nat → Loc} {a : Act} {w : World} {Q : Exit → Act → World → Prop}
    (hs : Sim C.G X0 F w0 n (names st) α st.ss a w) (h : regK C n ops draw st K) (hq : ∀ st' α' a' w', K st' → Sim C.G X0 F w0 n (names st') α' st'.ss a' w' → Q .normal a' w') :
    (Code.region id ops draw).wp C.P Q a w := by
  unfold regK at h
  obtain ⟨st', fs, rs, h, hnx, hch, hval, hix, hlen, hfp⟩ := opsK_out ops.toList 0 st [] _ (fun j => by simp) h
  rw [List.append_nil] at h
  have hN : ∀ k, names st k → PD st.nx (fun _ => False) k := fun k hk => .inl hk
  have hpair : rs.Pairwise fun x y => x.1 < y.1 := by
    have : (rs.map (·.1)).Pairwise (· < ·) := by rw [hix]; exact List.pairwise_lt_range'
    exact (List.pairwise_map.1 this)
  have hlt : ∀ x, x ∈ rs → x.1 < ops.size := by
    intro x hx
    have : x.1 ∈ rs.map (·.1) := List.mem_map.2 ⟨x, hx, rfl⟩
    rw [hix, List.mem_range'] at this
    obtain ⟨i, hi, he⟩ := this
    simp at hi; omega
  have hall : ∀ j, j < ops.size → ∃ x, x ∈ rs ∧ x.1 = j := by
    intro j hj
    have : j ∈ rs.map (·.1) := by rw [hix, List.mem_range']; exact ⟨j, by simpa using hj, by omega⟩
    obtain ⟨x, hx, he⟩ := List.mem_map.1 this
    exact ⟨x, hx, he⟩
  have fin : ∀ st2 : AS, st2.ss = st'.ss → st2.nx = st.nx + ops.toList.length → K st2 → ∀ α' a' w', Sim C.G X0 F w0 n (PD st.nx fun j => False ∨ ∃ x, x ∈ rs ∧ x.1 = j) α' st'.ss a' w' → Q .normal a' w' := by
    intro st2 h1 h2 hk α' a' w' hS
    refine hq st2 α' a' w' hk ?_
    rw [h1]
    refine hS.mono ?_
    rintro k (hk | ⟨j, hj | ⟨x, hx, hxj⟩, hf⟩)
    · simp only [names, h2]; omega
    · exact hj.elim
    · have := hlt x hx
      simp only [names, h2, fam, Array.length_toList] at *; omega
  cases draw with
  | false =>
    refine wp_region ?_
    have h := bumpK_out h
    rw [hnx] at h
    have := seq_sound (Q := Q) rs st.ss (fun _ => False) α a w hval hch hpair (fun _ _ h => h) (hs.mono hN) (fin ⟨st'.env, st'.own, st.nx + ops.toList.length⟩ rfl rfl h)
    rw [hix] at this
    simpa [List.range_eq_range'] using this
  | true =>
    obtain ⟨hd, h⟩ := h
    replace h := bumpK_out h
    rw [hnx] at h
    replace hd := hd.out
    simp only [Bool.and_eq_true] at hd
    obtain ⟨⟨hm, hsep⟩, hback⟩ := hd
    refine wp_region_any hm ?_
    have hsd : Sim C.G X0 F w0 n (PD st.nx fun _ => False) α st.ss a { w with drawn := w.drawn + 1 } := by
      have := hs.mono hN
      exact ⟨this.size, this.defers, fun t av ht => RdA.mono (w := w) (w' := { w with drawn := w.drawn + 1 }) (p := fun _ => True) (X := XX α st.ss.own X0) (X' := XX α st.ss.own X0) (α := α) (α' := α) (fun b o (hb : w.heap[b]? = some o) hn => ⟨hb, hn⟩) (fun _ _ => rfl) (this.env t av ht) ((this.ok t av ht).mono fun _ _ => trivial), this.ok,
        fun k e hk => Own.mono (w := w) (w' := { w with drawn := w.drawn + 1 }) (p := fun _ => True) (X := XX α st.ss.own X0) (X' := XX α st.ss.own X0) (α := α) (α' := α) (fun b o (hb : w.heap[b]? = some o) hn => ⟨hb, hn⟩) (fun _ _ => rfl) trivial (fun x hx => ((this.oko k e hk).2 x hx).mono fun _ _ => trivial) (fun _ => rfl) (this.own k e hk), this.oko, this.inj, this.mine, this.x0, this.fr, this.grow, this.os, this.tape, this.output, this.gl, this.fix, this.nil0⟩
    refine any_sound (S' := st'.ss) (N := st.nx) (fun j o hj => by have := backB_get hback j o (by simpa using hj); simpa using this) ops.size rs _ st.ss (fun _ => False) α a _ ?_ (by simp) ?_ hlt hval hch (apart_of hlen hfp hpair hsep) (fun _ _ h => h) hsd (fin ⟨st'.env, st'.own, st.nx + ops.toList.length⟩ rfl rfl h)
    · have : rs.length = ops.size := by have := congrArg List.length hix; simpa using this
      omega
    · intro j hj
      simp only [Array.getD_eq_getD_getElem?, Array.getElem?_replicate, hj, if_true, Option.getD_some, true_iff]
      exact hall j hj


end Go.Eng

/-
  Bodies and functions: the reckoning of a body speaks true; a function's contract out of its body's reckoning.
-/
namespace Go.Eng
open Go.RowKit (Below)

structure CutK {ι : Type} (inv : ι → Prop) (s : ι → AS) (st' : AS) : Prop where
  out : ∃ (y : ι) (ρ : List (Nat × Nat)), inv y ∧ LeK ρ st' (s y)
structure SeqK (A : (AS → Prop) → AS → Prop) (B : AS → Prop) (st : AS) : Prop where
  out : A B st ∨ ∃ (ι : Type) (inv : ι → Prop) (s : ι → AS), A (CutK inv s) st ∧ ∀ y, inv y → B (s y)
structure AgainK {ι : Type} (inv : ι → Prop) (s : ι → AS) (μ : ι → Nat) (x : ι) (st' : AS) : Prop where
  out : ∃ (y : ι) (ρ : List (Nat × Nat)), inv y ∧ μ y < μ x ∧ LeK ρ st' (s y)
structure LoopK (A : (AS → Prop) → AS → Prop) (st : AS) : Prop where
  out : ∃ (ι : Type) (inv : ι → Prop) (s : ι → AS) (μ : ι → Nat) (x0 : ι) (ρ : List (Nat × Nat)), inv x0 ∧ LeK ρ st (s x0) ∧ ∀ x, inv x → A (AgainK inv s μ x) (s x)

theorem seq_on {A : (AS → Prop) → AS → Prop} {B : AS → Prop} {st : AS} (h : A B st) : SeqK A B st := ⟨.inl h⟩
/-- A cut with what holds there. -/
theorem seq_inv {A : (AS → Prop) → AS → Prop} {B : AS → Prop} {st : AS} {ι : Type} (inv : ι → Prop) (s : ι → AS) (h : A (CutK inv s) st) (h1 : ∀ y, inv y → B (s y)) : SeqK A B st :=
  ⟨.inr ⟨ι, inv, s, h, h1⟩⟩
theorem cut_inv {ι : Type} {inv : ι → Prop} {s : ι → AS} {st' : AS} (y : ι) (ρ : List (Nat × Nat)) (hi : inv y) (h : LeK ρ st' (s y)) : CutK inv s st' := ⟨y, ρ, hi, h⟩
theorem loop_inv {A : (AS → Prop) → AS → Prop} {st : AS} {ι : Type} (inv : ι → Prop) (s : ι → AS) (μ : ι → Nat) (x0 : ι) (h0 : inv x0) (ρ : List (Nat × Nat)) (h : LeK ρ st (s x0))
    (h1 : ∀ x, inv x → A (AgainK inv s μ x) (s x)) : LoopK A st := ⟨ι, inv, s, μ, x0, ρ, h0, h, h1⟩
theorem again {ι : Type} {inv : ι → Prop} {s : ι → AS} {μ : ι → Nat} {x : ι} {st' : AS} (y : ι) (ρ : List (Nat × Nat)) (hi : inv y) (h : μ y < μ x) (h1 : LeK ρ st' (s y)) :
    AgainK inv s μ x st' := ⟨y, ρ, hi, h, h1⟩

def isBig : Code → Bool
  | .cond .. | .block .. | .loop .. => true
  | .seq a b => isBig a || isBig b
  | _ => false

def WP : Type := (AS → Prop) → (Nat → AS → Prop) → (AS → Prop) → AS → Prop

def seqStep (big : Bool) (A B : WP) (Kn : AS → Prop) (Ke : Nat → AS → Prop) (Kr : AS → Prop) (st : AS) : Prop :=
  match big with
  | false => A (fun s => B Kn Ke Kr s) Ke Kr st
  | true => SeqK (fun K s => A K Ke Kr s) (fun s => B Kn Ke Kr s) st
/-- Whatever the condition may be. -/
structure BothK (a b : Prop) : Prop where
  out : a ∧ b
theorem both {a b : Prop} (h1 : a) (h2 : b) : BothK a b := ⟨h1, h2⟩
def condK (v : AV) (a b : Prop) : Prop := match v with | .ab => BothK a b | v => boolK v fun t => BIf t a b
theorem condK_out {v : AV} {a b : Prop} (h : condK v a b) : ∃ t, (∀ w α X u, RdA w α X v u → t = none ∨ u = .bool (t.getD false)) ∧ match t with | none => v = .ab ∧ a ∧ b | some true => a | some false => b := by
  unfold condK at h
  split at h
  · exact ⟨none, fun _ _ _ _ _ => .inl rfl, rfl, h.out⟩
  · unfold boolK at h
    split at h
    · rename_i t _
      refine ⟨some t, fun w α X u hr => .inr hr.dinv.binv, ?_⟩
      rcases h.out with ⟨rfl, h⟩ | ⟨rfl, h⟩ <;> exact h
    · cases h
def condStep (c : Operand) (A B : WP) (Kn : AS → Prop) (Ke : Nat → AS → Prop) (Kr : AS → Prop) (st : AS) : Prop := evK st c fun v => condK v (A Kn Ke Kr st) (B Kn Ke Kr st)
def blockStep (id : Nat) (A : WP) (Kn : AS → Prop) (Ke : Nat → AS → Prop) (Kr : AS → Prop) (st : AS) : Prop := A Kn (fun i s => match Nat.beq i id with | true => Kn s | false => Ke i s) Kr st
def loopStep (A : WP) (_ : AS → Prop) (Ke : Nat → AS → Prop) (Kr : AS → Prop) (st : AS) : Prop := LoopK (fun K s => A K Ke Kr s) st

/-- What is left to show at a view, ahead of a piece of code. (By the recursor itself: see opsK.) -/
noncomputable def wpC (C : Ctx) (n : Nat) (c : Code) : WP :=
  Code.rec (motive := fun _ => WP)
    (fun Kn _ _ st => Kn st)
    (fun _ ops draw Kn _ _ st => regK C n ops draw st Kn)
    (fun a _ A B => seqStep (isBig a) A B)
    (fun c _ _ A B => condStep c A B)
    (fun id _ A => blockStep id A)
    (fun _ A => loopStep A)
    (fun _ _ _ _ _ _ => fun _ _ _ _ => False)
    (fun id _ Ke _ st => Ke id st)
    (fun _ _ _ _ _ _ => False)
    (fun _ Kn _ _ st => Kn st)
    (fun _ _ _ _ _ => False)
    (fun _ _ Kr st => Kr st)
    (fun _ _ _ _ _ => False) c

theorem wpC_seq (C : Ctx) (n : Nat) (a b : Code) (Kn : AS → Prop) (Ke : Nat → AS → Prop) (Kr : AS → Prop) (st : AS) : wpC C n (.seq a b) Kn Ke Kr st = (match isBig a with
    | false => wpC C n a (fun s => wpC C n b Kn Ke Kr s) Ke Kr st
    | true => SeqK (fun K s => wpC C n a K Ke Kr s) (fun s => wpC C n b Kn Ke Kr s) st) := rfl
theorem wpC_cond (C : Ctx) (n : Nat) (c : Operand) (a b : Code) (Kn : AS → Prop) (Ke : Nat → AS → Prop) (Kr : AS → Prop) (st : AS) :
    wpC C n (.cond c a b) Kn Ke Kr st = evK st c fun v => condK v (wpC C n a Kn Ke Kr st) (wpC C n b Kn Ke Kr st) := rfl
theorem wpC_block (C : Ctx) (n : Nat) (id : Nat) (b : Code) (Kn : AS → Prop) (Ke : Nat → AS → Prop) (Kr : AS → Prop) (st : AS) :
    wpC C n (.block id b) Kn Ke Kr st = wpC C n b Kn (fun i s => match Nat.beq i id with | true => Kn s | false => Ke i s) Kr st := rfl
theorem wpC_loop (C : Ctx) (n : Nat) (b : Code) (Kn : AS → Prop) (Ke : Nat → AS → Prop) (Kr : AS → Prop) (st : AS) :
    wpC C n (.loop b) Kn Ke Kr st = LoopK (fun K s => wpC C n b K Ke Kr s) st := rfl

theorem wpC_sound {C : Ctx} {n : Nat} {X0 : Nat → Prop} {F : Fr} {w0 : World} (hF : ∀ k l, F.fix k = some l → k < 16) : ∀ (c : Code) (Kn : AS → Prop) (Ke : Nat → AS → Prop) (Kr : AS → Prop) (st : AS) (α : Nat → Loc) (a : Act) (w : World) (Q : Exit → Act → World → Prop),
    wpC C n c Kn Ke Kr st → Sim C.G X0 F w0 n (names st) α st.ss a w →
    (∀ st' α' a' w', Kn st' → Sim C.G X0 F w0 n (names st') α' st'.ss a' w' → Q .normal a' w') →
    (∀ i st' α' a' w', Ke i st' → Sim C.G X0 F w0 n (names st') α' st'.ss a' w' → Q (.exit i) a' w') →
    (∀ st' α' a' w', Kr st' → Sim C.G X0 F w0 n (names st') α' st'.ss a' w' → Q .ret a' w') → c.wp C.P Q a w := by
  intro c
  induction c with
  | skip => intro Kn Ke Kr st α a w Q h hs hn _ _; exact wp_skip (hn st α a w h hs)
  | region id ops draw => intro Kn Ke Kr st α a w Q h hs hn _ _; exact regK_sound hs h hn
  | seq x y ihx ihy =>
    intro Kn Ke Kr st α a w Q h hs hn he hr
    have hon : ∀ (B : AS → Prop), (∀ st' α' a' w', B st' → Sim C.G X0 F w0 n (names st') α' st'.ss a' w' → y.wp C.P Q a' w') → wpC C n x B Ke Kr st → (Code.seq x y).wp C.P Q a w := by
      intro B hB h
      refine wp_seq (ihx B Ke Kr st α a w _ h hs ?_ ?_ ?_)
      · intro st' α' a' w' hk hs'; exact hB st' α' a' w' hk hs'
      · intro i st' α' a' w' hk hs'; exact he i st' α' a' w' hk hs'
      · intro st' α' a' w' hk hs'; exact hr st' α' a' w' hk hs'
    have hy : ∀ st' α' a' w', wpC C n y Kn Ke Kr st' → Sim C.G X0 F w0 n (names st') α' st'.ss a' w' → y.wp C.P Q a' w' := fun st' α' a' w' hk hs' => ihy Kn Ke Kr st' α' a' w' Q hk hs' hn he hr
    rw [wpC_seq] at h
    split at h
    · exact hon _ hy h
    · rcases h.out with h | ⟨ι, inv, s, h, h1⟩
      · exact hon _ hy h
      · refine hon _ (fun st' α' a' w' hk hs' => ?_) h
        obtain ⟨z, ρ, hz, hle⟩ := hk.out
        have hs'' := hle.sim hs' hF
        exact hy _ _ a' w' (h1 z hz) hs''
  | cond c x y ihx ihy =>
    intro Kn Ke Kr st α a w Q h hs hn he hr
    rw [wpC_cond] at h
    replace h := evK_out h; obtain ⟨av, h1, h⟩ := h
    obtain ⟨t, ht, h⟩ := condK_out h
    match t, ht, h with
    | none, _, ⟨hab, ha, hb⟩ =>
      subst hab
      have hrd := h1.read hs
      generalize hv : a.eval c = v at hrd
      cases hrd with
      | ab t =>
        refine wp_cond hv ?_
        cases t with
        | true => exact ihx Kn Ke Kr st α a w Q ha hs hn he hr
        | false => exact ihy Kn Ke Kr st α a w Q hb hs hn he hr
    | some true, ht, h =>
      refine wp_cond ((ht w _ _ _ (h1.read hs)).resolve_left (fun e => by cases e)) ?_
      exact ihx Kn Ke Kr st α a w Q h hs hn he hr
    | some false, ht, h =>
      refine wp_cond ((ht w _ _ _ (h1.read hs)).resolve_left (fun e => by cases e)) ?_
      exact ihy Kn Ke Kr st α a w Q h hs hn he hr
  | block id b ih =>
    intro Kn Ke Kr st α a w Q h hs hn he hr
    rw [wpC_block] at h
    refine wp_block (ih _ _ _ st α a w _ h hs ?_ ?_ ?_)
    · intro st' α' a' w' hk hs'; exact hn st' α' a' w' hk hs'
    · intro i st' α' a' w' hk hs'
      simp only [Exit.inBlock]
      cases hb : Nat.beq i id with
      | true =>
        simp only [hb] at hk
        rw [if_pos (Nat.eq_of_beq_eq_true hb)]
        exact hn st' α' a' w' hk hs'
      | false =>
        simp only [hb] at hk
        rw [if_neg (fun e => by subst e; simp at hb)]
        exact he i st' α' a' w' hk hs'
    · intro st' α' a' w' hk hs'; exact hr st' α' a' w' hk hs'
  | loop b ih =>
    intro Kn Ke Kr st α a w Q h hs hn he hr
    rw [wpC_loop] at h
    obtain ⟨ι, inv, s, μ, x0, ρ, h0, hle, h⟩ := h.out
    refine wp_loop_ghost (fun m a w => ∃ x α, inv x ∧ μ x = m ∧ Sim C.G X0 F w0 n (names (s x)) α (s x).ss a w) (μ x0) ?_ ?_
    · have hs' := hle.sim hs hF
      exact ⟨x0, _, h0, rfl, hs'⟩
    · rintro m a w ⟨x, α, hx, rfl, hsx⟩
      refine ih _ Ke Kr (s x) α a w _ (h x hx) hsx ?_ ?_ ?_
      · rintro st' α' a' w' ⟨y, ρ, hy, hlt, hle⟩ hs'
        have hs'' := hle.sim hs' hF
        exact ⟨μ y, hlt, y, _, hy, rfl, hs''⟩
      · intro i st' α' a' w' hk hs'; exact he i st' α' a' w' hk hs'
      · intro st' α' a' w' hk hs'; exact hr st' α' a' w' hk hs'
  | exit id => intro Kn Ke Kr st α a w Q h hs _ he _; exact wp_exit (he id st α a w h hs)
  | label l => intro Kn Ke Kr st α a w Q h hs hn _ _; exact wp_label (hn st α a w h hs)
  | ret => intro Kn Ke Kr st α a w Q h hs _ _ hr; exact wp_ret (hr st α a w h hs)
  | rangeFunc f ps x y _ _ => intro Kn Ke Kr st α a w Q h; exact h.elim
  | scope b _ => intro Kn Ke Kr st α a w Q h; exact h.elim
  | goto l => intro Kn Ke Kr st α a w Q h; exact h.elim
  | refuse s => intro Kn Ke Kr st α a w Q h; exact h.elim

/-! ### Functions -/

def rvK (C : Ctx) (st : AS) (r : ResultVar) (K : D → Prop) : Prop :=
  match r with
  | .tmp t => lookK st.env t fun a => toDK st a fun d _ => K d
  | .cell t T => lookK st.env t fun p => loadK C st T p fun a _ => toDK st a fun d _ => K d

def rvsK (C : Ctx) (st : AS) : List ResultVar → (List D → Prop) → Prop
  | [], K => K []
  | r :: l, K => rvK C st r fun d => rvsK C st l fun ds => K (d :: ds)

def rvRun (tmps : Array Value) : ResultVar → Sem Value
  | .tmp t => pure (tmps.getD t undef)
  | .cell a t => do loadVar t (← asAddr (tmps.getD a undef))

theorem rvK_out {C : Ctx} {n : Nat} {st : AS} {r : ResultVar} {K : D → Prop} (h : rvK C st r K) :
    ∃ d, K d ∧ ∀ {X0 F w0 α a w}, Sim C.G X0 F w0 n (names st) α st.ss a w → ∃ v, (rvRun a.tmps r).run C.P w = .ok v w ∧ Rd w X0 d v := by
  have fin : ∀ {av : AV} {K : D → Prop}, (toDK st av fun d _ => K d) → ∃ d, K d ∧ ∀ {X0 F w0 α a w v}, Sim C.G X0 F w0 n (names st) α st.ss a w → RdA w α (XX α st.ss.own X0) av v → Rd w X0 d v := by
    intro av K h
    obtain ⟨d, us, h, ht⟩ := toDK_out h
    refine ⟨d, h, fun {X0 F w0 α a w v} hs hr => ht.rd w α _ X0 v hr (fun k _ e he => hs.own k e he) (fun b hb => .inr hb) fun k hk hnil hx => ?_⟩
    obtain ⟨e, he⟩ := ht.ent k hk
    exact (hs.mine k e he hnil).2 hx
  cases r with
  | tmp t =>
    simp only [rvK] at h
    replace h := lookK_out h; obtain ⟨av, hl, h⟩ := h
    obtain ⟨d, hk, hr⟩ := fin h
    exact ⟨d, hk, fun {X0 F w0 α a w} hs => ⟨_, rfl, hr hs (hs.env t av hl)⟩⟩
  | cell t T =>
    simp only [rvK] at h
    replace h := lookK_out h; obtain ⟨p, hl, h⟩ := h
    obtain ⟨av, rd, h, hrun⟩ := load_core (n := n) h
    obtain ⟨d, hk, hr⟩ := fin h
    refine ⟨d, hk, fun {X0 F w0 α a w} hs => ?_⟩
    obtain ⟨v, ⟨b, hb, hv⟩, hrv, _⟩ := hrun hs (fun k _ e he => he) (hs.env t p hl)
    refine ⟨v, ?_, hr hs hrv⟩
    simp [rvRun, hb, asAddr, hv]

theorem rvsK_out {C : Ctx} {n : Nat} {st : AS} {rs : List ResultVar} {K : List D → Prop} (h : rvsK C st rs K) :
    ∃ ds, K ds ∧ ∀ {X0 F w0 α a w}, Sim C.G X0 F w0 n (names st) α st.ss a w → ∃ vs, (rs.mapM (rvRun a.tmps)).run C.P w = .ok vs w ∧ ds.length = vs.length ∧
      ∀ (j : Nat) (d : D) (v : Value), ds[j]? = some d → vs[j]? = some v → Rd w X0 d v := by
  induction rs generalizing K with
  | nil => exact ⟨[], h, fun {X0 F w0 α a w} hs => ⟨[], by simp, rfl, by simp⟩⟩
  | cons r l ih =>
    simp only [rvsK] at h
    obtain ⟨d, h, hr⟩ := rvK_out (n := n) h
    obtain ⟨ds, h, hrs⟩ := ih h
    refine ⟨d :: ds, h, fun {X0 F w0 α a w} hs => ?_⟩
    obtain ⟨v, hv, hd⟩ := hr hs
    obtain ⟨vs, hvs, hl, hds⟩ := hrs hs
    refine ⟨v :: vs, ?_, by simp [hl], fun j d' v' h1 h2 => ?_⟩
    · simp [List.mapM_cons, hv, hvs]
    · cases j with
      | zero => simp at h1 h2; subst h1 h2; exact hd
      | succ j => exact hds j d' v' (by simpa using h1) (by simpa using h2)

theorem results_run {P : Program} {fn : Func} {tmps : Array Value} {w : World} {vs : List Value} (h : (fn.results.toList.mapM (rvRun tmps)).run P w = .ok vs w) :
    ∃ v, (results fn tmps).run P w = .ok v w ∧ (∀ x, vs = [x] → v = x) ∧ (vs.length ≠ 1 → v = .tuple vs.toArray) := by
  have e : (results fn tmps) = (do let vs ← (fn.results.mapM (rvRun tmps)); pure (if h : vs.size = 1 then vs[0] else .tuple vs)) := by
    unfold results
    congr 1
  rw [Array.mapM_eq_mapM_toList] at e
  rw [e]
  by_cases hl : vs.length = 1
  · obtain ⟨x, rfl⟩ : ∃ x, vs = [x] := by
      match vs, hl with
      | [x], _ => exact ⟨x, rfl⟩
    exact ⟨x, by simp [h], fun y hy => by cases hy; rfl, fun hn => absurd rfl hn⟩
  · exact ⟨.tuple vs.toArray, by simp [h, hl], fun y hy => by subst hy; simp at hl, fun _ => rfl⟩

def argEnv : Nat → List D → List (Nat × AV)
  | _, [] => []
  | i, d :: ds => (i, .d d) :: argEnv (i + 1) ds

theorem argEnv_look : ∀ (ds : List D) (i t : Nat) (av : AV), look (argEnv i ds) t = some av → ∃ d, i ≤ t ∧ ds[t - i]? = some d ∧ av = .d d
  | [], i, t, av, h => by simp [argEnv, look] at h
  | d :: ds, i, t, av, h => by
    simp only [argEnv, look] at h
    split at h
    · rename_i hb
      have := Nat.eq_of_beq_eq_true hb
      subst this
      cases h
      exact ⟨d, Nat.le_refl _, by simp, rfl⟩
    · obtain ⟨d', h1, h2, h3⟩ := argEnv_look ds (i + 1) t av h
      refine ⟨d', by omega, ?_, h3⟩
      rw [show t - i = (t - (i + 1)) + 1 by omega]
      simpa using h2

def start (ds : List D) : AS := ⟨argEnv 0 ds, [], 1⟩

def ends (C : Ctx) (rs : List ResultVar) (out : List D) (st : AS) : Prop := rvsK C st rs fun ds => ds = out

theorem start_sim {C : Ctx} {fn : Func} {n : Nat} {ds : List D} {w : World} {X : Nat → Prop} {vs : Array Value} (hn : fn.ntmps = n) (hle : ds.length ≤ n) (hX : ∀ b, X b → b < w.heap.size) (hG : ∀ x, x ∈ C.G → x.g < w.heap.size ∧ ¬ X x.g ∧ GlobAt w X x) (hl : ds.length = vs.size)
    (hd : ∀ (j : Nat) (d : D) (v : Value), ds[j]? = some d → vs[j]? = some v → Rd w X d v) :
    Sim C.G X ⟨fun _ => False, fun _ => none, []⟩ w n (names (start ds)) (fun _ => ⟨0, 0, 0, true, .slice none 0 0⟩) (start ds).ss { tmps := vs ++ Array.replicate (fn.ntmps - vs.size) undef, defers := [] } w := by
  refine ⟨by simp [hn]; omega, rfl, fun t av ht => ?_, fun t av ht => ?_, fun k e hk => ?_, fun k e hk => ?_, fun k e k' e' hk => ?_, fun k e hk => ?_, hX, fun _ _ _ => rfl, Nat.le_refl _, rfl, rfl, rfl, fun x hx => ?_, (fun k l hk => by cases hk), ⟨rfl, rfl, by show 14 / 16 < 1; decide⟩⟩
  · obtain ⟨d, _, h2, rfl⟩ := argEnv_look ds 0 t av ht
    simp only [Nat.sub_zero] at h2
    have hlt : t < vs.size := by rw [← hl]; exact (List.getElem?_eq_some_iff.1 h2).1
    refine .d d _ ((hd t d ((vs ++ Array.replicate (fn.ntmps - vs.size) undef).getD t undef) h2 ?_).mono fun b o hb hn => ⟨hb, ?_⟩)
    · simp [Array.getD_eq_getD_getElem?, Array.getElem?_append, hlt]
    · rintro (⟨k, e, hk, _⟩ | hx)
      · simp [start, AS.ss, look] at hk
      · exact hn hx
  · obtain ⟨d, _, h2, rfl⟩ := argEnv_look ds 0 t av ht
    exact .d d
  · simp [start, AS.ss, look] at hk
  · simp [start, AS.ss, look] at hk
  · simp [start, AS.ss, look] at hk
  · simp [start, AS.ss, look] at hk
  · obtain ⟨h1, h2, h3⟩ := hG x hx
    refine ⟨h1, id, h2, ?_⟩
    obtain ⟨arr, T, fz, h4, hsz, h5, h6⟩ := h3
    refine ⟨arr, T, fz, h4, hsz, h5, fun j m d c hj hm => ?_⟩
    obtain ⟨v, hv, hr⟩ := h6 j m d c hj hm
    exact ⟨v, hv, hr.mono fun b o hb hn => ⟨hb, fun h => hn (h.elim id False.elim)⟩⟩

theorem ret_reads {X : Nat → Prop} {w' : World} {rs : List D} {us : List Value} {v : Value} (hlen : rs.length = us.length) (hrd : ∀ (j : Nat) (d : D) (v : Value), rs[j]? = some d → us[j]? = some v → Rd w' X d v)
    (he1 : ∀ x, us = [x] → v = x) (he2 : us.length ≠ 1 → v = .tuple us.toArray) : RdA w' (fun _ => ⟨0, 0, 0, false, .bool false⟩) X (retAV rs) v := by
  unfold retAV
  split
  · rename_i r
    obtain ⟨u, rfl⟩ : ∃ u, us = [u] := by
      match us, hlen with
      | [x], _ => exact ⟨x, rfl⟩
    rw [he1 u rfl]
    exact .d r u (hrd 0 r u rfl rfl)
  · rename_i hne
    have : us.length ≠ 1 := by
      intro h
      rw [← hlen] at h
      match rs, h with
      | [x], _ => exact hne x rfl
    rw [he2 this]
    refine .tup _ _ (by simp [hlen]) fun j c v h1 h2 => ?_
    simp only [List.getElem?_map, Option.map_eq_some_iff] at h1
    obtain ⟨d, h1, rfl⟩ := h1
    exact .d d v (hrd j d v h1 (by simpa using h2))

/-- A function's contract out of its body's reckoning. -/
theorem Does.mk {C : Ctx} {f : FuncId} {fn : Func} {body : Code} {n : Nat} {ds rs : List D} (hf : C.P.funcs[f]? = some fn) (h1 : (fn.name == "runtime.NumGoroutine") = false)
    (hb : fn.body = some body) (hn : fn.ntmps = n) (hle : ds.length ≤ n)
    (h : wpC C n body (ends C fn.results.toList rs) (fun _ _ => False) (ends C fn.results.toList rs) (start ds)) : Does C f ds rs := by
  refine ⟨⟨fn, hf, h1, by simp [hb]⟩, fun w X vs hX hG hl hd => calls_of_wp hf hb ?_⟩
  have hs := start_sim (n := n) (fn := fn) hn hle hX hG hl hd
  have fin : ∀ st' α' a' w', ends C fn.results.toList rs st' → Sim C.G X ⟨fun _ => False, fun _ => none, []⟩ w n (names st') α' st'.ss a' w' →
      a'.defers = [] ∧ ∃ v, (results fn a'.tmps).run C.P w' = .ok v w' ∧ ∃ v', Ending.returned v = .returned v' ∧ RdA w' (fun _ => ⟨0, 0, 0, false, .bool false⟩) X (retAV rs) v' ∧ Below w.heap.size w w' := by
    intro st' α' a' w' hk hs'
    obtain ⟨out, rfl, hrun⟩ := rvsK_out (n := n) hk
    obtain ⟨us, hus, hlen, hrd⟩ := hrun hs'
    obtain ⟨v, hv, he1, he2⟩ := results_run hus
    refine ⟨hs'.defers, v, hv, v, rfl, ?_, ?_⟩
    · unfold retAV
      split
      · rename_i r
        obtain ⟨u, rfl⟩ : ∃ u, us = [u] := by
          match us, hlen with
          | [x], _ => exact ⟨x, rfl⟩
        rw [he1 u rfl]
        exact .d r u (hrd 0 r u rfl rfl)
      · rename_i hne
        have : us.length ≠ 1 := by
          intro h
          rw [← hlen] at h
          match out, h with
          | [x], _ => exact hne x rfl
        rw [he2 this]
        refine .tup _ _ (by simp [hlen]) fun j c v h1 h2 => ?_
        simp only [List.getElem?_map, Option.map_eq_some_iff] at h1
        obtain ⟨d, h1, rfl⟩ := h1
        exact .d d v (hrd j d v h1 (by simpa using h2))
    · exact ⟨hs'.os, hs'.tape, hs'.output, hs'.grow, fun b hb => hs'.fr b hb id⟩
  refine wpC_sound (fun _ _ h => by cases h) body _ _ _ (start ds) _ _ w _ h hs ?_ ?_ ?_
  · intro st' α' a' w' hk hs'; exact fin st' α' a' w' hk hs'
  · intro i st' α' a' w' hk; exact hk.elim
  · intro st' α' a' w' hk hs'; exact fin st' α' a' w' hk hs'


end Go.Eng

/-
  The contract of a function that is lent rows, out of its body's reckoning.
-/
namespace Go.Eng
open Go.RowKit (Below)

def rvAK (C : Ctx) (st : AS) (r : ResultVar) (K : AV → Prop) : Prop :=
  match r with
  | .tmp t => lookK st.env t K
  | .cell t T => lookK st.env t fun p => loadK C st T p fun a _ => K a

def rvsAK (C : Ctx) (st : AS) : List ResultVar → (List AV → Prop) → Prop
  | [], K => K []
  | r :: l, K => rvAK C st r fun a => rvsAK C st l fun as => K (a :: as)

theorem rvAK_out {C : Ctx} {n : Nat} {st : AS} {r : ResultVar} {K : AV → Prop} (h : rvAK C st r K) :
    ∃ av, K av ∧ ∀ {X0 F w0 α a w}, Sim C.G X0 F w0 n (names st) α st.ss a w → ∃ v, (rvRun a.tmps r).run C.P w = .ok v w ∧ RdA w α (XX α st.ss.own X0) av v ∧ av.ok (names st) := by
  cases r with
  | tmp t =>
    simp only [rvAK] at h
    replace h := lookK_out h; obtain ⟨av, hl, h⟩ := h
    exact ⟨av, h, fun {X0 F w0 α a w} hs => ⟨_, rfl, hs.env t av hl, hs.ok t av hl⟩⟩
  | cell t T =>
    simp only [rvAK] at h
    replace h := lookK_out h; obtain ⟨p, hl, h⟩ := h
    obtain ⟨av, rd, h, hrun⟩ := load_core (n := n) h
    refine ⟨av, h, fun {X0 F w0 α a w} hs => ?_⟩
    obtain ⟨v, ⟨b, hb, hv⟩, hrv, hok⟩ := hrun hs (fun k _ e he => he) (hs.env t p hl)
    exact ⟨v, by simp [rvRun, hb, asAddr, hv], hrv, hok⟩

theorem rvsAK_out {C : Ctx} {n : Nat} {st : AS} {rs : List ResultVar} {K : List AV → Prop} (h : rvsAK C st rs K) :
    ∃ as, K as ∧ as.length = rs.length ∧ ∀ {X0 F w0 α a w}, Sim C.G X0 F w0 n (names st) α st.ss a w → ∃ vs, (rs.mapM (rvRun a.tmps)).run C.P w = .ok vs w ∧ as.length = vs.length ∧
      ∀ (j : Nat) (d : AV) (v : Value), as[j]? = some d → vs[j]? = some v → RdA w α (XX α st.ss.own X0) d v ∧ d.ok (names st) := by
  induction rs generalizing K with
  | nil => exact ⟨[], h, rfl, fun {X0 F w0 α a w} hs => ⟨[], by simp, rfl, by simp⟩⟩
  | cons r l ih =>
    simp only [rvsAK] at h
    obtain ⟨d, h, hr⟩ := rvAK_out (n := n) h
    obtain ⟨ds, h, hlr, hrs⟩ := ih h
    refine ⟨d :: ds, h, by simp [hlr], fun {X0 F w0 α a w} hs => ?_⟩
    obtain ⟨v, hv, hd⟩ := hr hs
    obtain ⟨vs, hvs, hl, hds⟩ := hrs hs
    refine ⟨v :: vs, ?_, by simp [hl], fun j d' v' h1 h2 => ?_⟩
    · simp [List.mapM_cons, hv, hvs]
    · cases j with
      | zero => simp at h1 h2; subst h1 h2; exact hd
      | succ j => exact hds j d' v' (by simpa using h1) (by simpa using h2)

structure EndK (rs : List AV) (own' : List (Nat × Option Ent)) (st' : AS) (as : List AV) : Prop where
  out : ∃ ρ, LeK ρ ⟨argA 0 as, st'.own, st'.nx⟩ ⟨argA 0 rs, own', 2⟩
theorem end_ok {rs : List AV} {own' : List (Nat × Option Ent)} {st' : AS} {as : List AV} (ρ : List (Nat × Nat)) (h : LeK ρ ⟨argA 0 as, st'.own, st'.nx⟩ ⟨argA 0 rs, own', 2⟩) : EndK rs own' st' as := ⟨ρ, h⟩

def endsH (C : Ctx) (vars : List ResultVar) (rs : List AV) (own' : List (Nat × Option Ent)) (st : AS) : Prop := rvsAK C st vars fun as => EndK rs own' st as

theorem retOf_run {vs : List Value} {v : Value} (h1 : ∀ x, vs = [x] → v = x) (h2 : vs.length ≠ 1 → v = .tuple vs.toArray) : v = retOf vs.toArray := by
  unfold retOf
  by_cases hl : vs.length = 1
  · obtain ⟨x, rfl⟩ : ∃ x, vs = [x] := by
      match vs, hl with
      | [x], _ => exact ⟨x, rfl⟩
    simp [h1 x rfl]
  · simp [hl, h2 hl]

theorem DoesW.mk {C : Ctx} {f : FuncId} {fn : Func} {body : Code} {n : Nat} {bs : List AV} {own : List (Nat × Option Ent)} {rs : List AV} {own' : List (Nat × Option Ent)} (hf : C.P.funcs[f]? = some fn) (h1 : (fn.name == "runtime.NumGoroutine") = false)
    (hb : fn.body = some body) (hn : fn.ntmps = n) (hle : bs.length ≤ n) (hrl : rs.length = fn.results.size)
    (h : wpC C n body (endsH C fn.results.toList rs own') (fun _ _ => False) (endsH C fn.results.toList rs own') ⟨argA 0 bs, own, 1⟩) : DoesW C f bs own rs own' := by
  refine ⟨⟨fn, hf, h1, by simp [hb]⟩, fun w X F α vs hF hs0 => ?_⟩
  have main : ∀ R, R = (fun e w' => ∃ α' us, e = Ending.returned (retOf us) ∧ Sim C.G X F w rs.length (names ⟨argA 0 rs, own', 2⟩) α' (AS.ss ⟨argA 0 rs, own', 2⟩) ⟨us, []⟩ w') →
      body.wp C.P (bodyPost C.P fn R) { tmps := vs ++ Array.replicate (fn.ntmps - vs.size) undef, defers := [] } w := ?_
  · exact ⟨calls_of_wp hf hb (main _ rfl), fun u => callsD_of_wp hf hb (main _ rfl)⟩
  rintro R rfl
  have hvs := hs0.size
  simp only at hvs
  have hs : Sim C.G X F w n (names ⟨argA 0 bs, own, 1⟩) α (AS.ss ⟨argA 0 bs, own, 1⟩) { tmps := vs ++ Array.replicate (fn.ntmps - vs.size) undef, defers := [] } w := by
    refine { hs0 with size := by simp [hn]; omega, defers := hs0.defers, env := fun t av ht => ?_ }
    have := hs0.env t av ht
    obtain ⟨_, h2⟩ := argA_look bs 0 t av ht
    simp only [Nat.sub_zero] at h2
    have hlt : t < vs.size := by rw [hvs]; exact (List.getElem?_eq_some_iff.1 h2).1
    have e : (vs ++ Array.replicate (fn.ntmps - vs.size) undef).getD t undef = vs.getD t undef := by
      simp [Array.getD_eq_getD_getElem?, Array.getElem?_append, hlt]
    simp only [e]; exact this
  have fin : ∀ st' α' a' w', endsH C fn.results.toList rs own' st' → Sim C.G X F w n (names st') α' st'.ss a' w' →
      a'.defers = [] ∧ ∃ v, (results fn a'.tmps).run C.P w' = .ok v w' ∧ ∃ α' us, Ending.returned v = .returned (retOf us) ∧
        Sim C.G X F w rs.length (names ⟨argA 0 rs, own', 2⟩) α' (AS.ss ⟨argA 0 rs, own', 2⟩) ⟨us, []⟩ w' := by
    intro st' α' a' w' hk hs'
    obtain ⟨as, ⟨ρ, hle⟩, hal, hrun⟩ := rvsAK_out (n := n) hk
    obtain ⟨us, hus, hlen, hrd⟩ := hrun hs'
    obtain ⟨v, hv, he1, he2⟩ := results_run hus
    have hul : us.length = fn.results.size := by rw [← hlen, hal]; simp
    have hS : Sim C.G X F w rs.length (names ⟨argA 0 as, st'.own, st'.nx⟩) α' (AS.ss ⟨argA 0 as, st'.own, st'.nx⟩) ⟨us.toArray, []⟩ w' := by
      have hget : ∀ t av, look (argA 0 as) t = some av → as[t]? = some av ∧ us[t]? = some (us.toArray.getD t undef) := by
        intro t av ht
        obtain ⟨_, h2⟩ := argA_look as 0 t av ht
        simp only [Nat.sub_zero] at h2
        have hlt : t < us.length := by rw [← hlen]; exact (List.getElem?_eq_some_iff.1 h2).1
        exact ⟨h2, by simp [hlt]⟩
      refine { hs' with size := by simp [hul, hrl], defers := hs0.defers, env := fun t av ht => ?_, ok := fun t av ht => ?_ }
      · obtain ⟨g1, g2⟩ := hget t av ht
        exact (hrd t av _ g1 g2).1
      · obtain ⟨g1, g2⟩ := hget t av ht
        exact (hrd t av _ g1 g2).2
    exact ⟨hs'.defers.trans hs0.defers.symm, v, hv, _, us.toArray, by rw [retOf_run he1 he2], hle.sim hS hF⟩
  refine wpC_sound hF body _ _ _ _ _ _ w _ h hs ?_ ?_ ?_
  · intro st' α' a' w' hk hs'; exact fin st' α' a' w' hk hs'
  · intro i st' α' a' w' hk; exact hk.elim
  · intro st' α' a' w' hk hs'; exact fin st' α' a' w' hk hs'

theorem DoesH.mk {C : Ctx} {f : FuncId} {fn : Func} {body : Code} {n : Nat} {bs : List AV} {own : List (Nat × Option Ent)} {rs : List AV} {own' : List (Nat × Option Ent)} (hf : C.P.funcs[f]? = some fn) (h1 : (fn.name == "runtime.NumGoroutine") = false)
    (hb : fn.body = some body) (hn : fn.ntmps = n) (hle : bs.length ≤ n) (hrl : rs.length = fn.results.size)
    (h : wpC C n body (endsH C fn.results.toList rs own') (fun _ _ => False) (endsH C fn.results.toList rs own') ⟨argA 0 bs, own, 1⟩) : DoesH C f bs own rs own' :=
  (DoesW.mk hf h1 hb hn hle hrl h).toH

end Go.Eng

/-
  A function that defers one call of a closure over its result.
-/
namespace Go.Eng
open Go.RowKit (Below)

/-- What a function with one deferred call leaves: the call is made, then the results are read. -/
def endsD (C : Ctx) (g : FuncId) (vars : List ResultVar) (rs : List D) (st : AS) : Prop :=
  CallHK C (CallsW C.P g) st st.nx g [.op 15 0 0] fun out upd _ => consK st none out upd fun st2 => bumpK st2 1 fun st2 => ends C vars rs st2

def emptyK (l : List (Nat × AV)) (t : Nat) : Bool := match l with | [] => true | x :: r => match Nat.beq t x.1 with | true => false | false => emptyK r t
theorem emptyK_out {l : List (Nat × AV)} {t : Nat} (h : emptyK l t = true) : look l t = none := by
  induction l with
  | nil => rfl
  | cons x r ih =>
    obtain ⟨y, v⟩ := x
    simp only [emptyK] at h
    simp only [look]
    split at h
    · cases h
    · rename_i hb; simp only [hb]; exact ih h

theorem wp_defer {P : Program} {id : Nat} {o1 o2 : Oper} {g : FuncId} {x t : Nat} {call : Call} (h1 : o1.op = .makeFunc (.func g) #[] #[.tmp x]) (h1g : o1.guard = none) (h1d : o1.dst = some t)
    (h2 : o2.op = .defer call) (h2g : o2.guard = none) (h2d : o2.dst = none) (hc : call.callee = .value (.tmp t)) (hca : call.args = #[]) {Q : Exit → Act → World → Prop} {a : Act} {w : World} (ht : t < a.tmps.size)
    (h : Q .normal { (a.put (some t) (.func (.func g) #[] #[a.eval (.tmp x)])) with defers := ⟨.fn (.func g) #[a.eval (.tmp x)], #[]⟩ :: a.defers } w) : (Code.region id #[o1, o2] false).wp P Q a w := by
  refine wp_region ?_
  have e1 : (execOp a.eval o1).run P w = .ok (.value (.func (.func g) #[] #[a.eval (.tmp x)])) w := by simp [execOp, h1, Instr.makeFunc]
  have e2 : (execOp (a.put (some t) (.func (.func g) #[] #[a.eval (.tmp x)])).eval o2).run P w = .ok (.defer ⟨.fn (.func g) #[a.eval (.tmp x)], #[]⟩) w := by
    have : (a.put (some t) (.func (.func g) #[] #[a.eval (.tmp x)])).eval (.tmp t) = .func (.func g) #[] #[a.eval (.tmp x)] := by
      show (a.put (some t) (.func (.func g) #[] #[a.eval (.tmp x)])).tmps.getD t undef = _
      exact put_get a t _ ht
    simp [execOp, h2, resolve, hc, hca, this, Deferred.ofValue]
  have hr : List.range (#[o1, o2] : Array Oper).size = [0, 1] := by rfl
  rw [hr]
  have w1 : ∀ y, Region.wanted o1 y = true := fun y => by simp [Region.wanted, h1g]
  have w2 : ∀ y, Region.wanted o2 y = true := fun y => by simp [Region.wanted, h2g]
  unfold wpOps
  show (if Region.wanted o1 _ = true then _ else _)
  rw [w1, if_pos rfl]
  left
  show o1.wp P a w _ Q
  unfold Oper.wp
  rw [e1]
  show wpOps P #[o1, o2] Q [1] (a.put o1.dst _) w
  rw [h1d]
  unfold wpOps
  show (if Region.wanted o2 _ = true then _ else _)
  rw [w2, if_pos rfl]
  left
  show o2.wp P _ w _ Q
  unfold Oper.wp
  rw [e2]
  show wpOps P #[o1, o2] Q [] (Act.put _ o2.dst undef) w
  rw [h2d]
  exact h

theorem Does.mk_defer {C : Ctx} {f : FuncId} {fn : Func} {A rest : Code} {id n g x t : Nat} {o1 o2 : Oper} {call : Call} {ds rs : List D} (hf : C.P.funcs[f]? = some fn) (hn1 : (fn.name == "runtime.NumGoroutine") = false)
    (hb : fn.body = some (.seq A (.seq (.region id #[o1, o2] false) rest))) (hn : fn.ntmps = n) (hle : ds.length ≤ n)
    (h1 : o1.op = .makeFunc (.func g) #[] #[.tmp x]) (h1g : o1.guard = none) (h1d : o1.dst = some t) (h2 : o2.op = .defer call) (h2g : o2.guard = none) (h2d : o2.dst = none) (hc : call.callee = .value (.tmp t)) (hca : call.args = #[]) (htn : t < n)
    (s : AS) (ρ : List (Nat × Nat)) (hA : wpC C n A (fun st' => LeD ρ st' s) (fun _ _ => False) (fun _ => False) (start ds)) (hx : look s.env x = some (.op 15 0 0)) (ht : emptyK s.env t = true)
    (h : wpC C n rest (endsD C g fn.results.toList rs) (fun _ _ => False) (endsD C g fn.results.toList rs) s) : Does C f ds rs := by
  refine ⟨⟨fn, hf, hn1, by simp [hb]⟩, fun w X vs hX hG hl hd => calls_of_wp_defers hf hb ?_⟩
  have hs := start_sim (n := n) (fn := fn) hn hle hX hG hl hd
  refine wp_seq (wpC_sound (fun _ _ h => by cases h) A _ _ _ (start ds) _ _ w _ hA hs ?_ (fun i st' α' a' w' hk => hk.elim) (fun st' α' a' w' hk => hk.elim))
  intro st' α' a' w' hle' hs'
  have hS := hle'.sim hs' (fun _ _ h => by cases h)
  have hnx := Nat.le_of_ble_eq_true hle'.nx
  generalize (fun k => α' (rho ρ k)) = α at hS
  have hrx := hS.env x _ hx
  have hva : a'.eval (.tmp x) = .pointer (some ⟨(α 15).blk, (α 15).off + 0 * (α 15).sz + 0, none⟩) := by
    show a'.tmps.getD x undef = _
    generalize a'.tmps.getD x undef = v at hrx
    cases hrx; rfl
  have ht' : ∀ j av, s.ss.env j = some av → j ≠ t := by
    rintro j av hj rfl
    have := emptyK_out ht
    simp only [AS.ss] at hj
    rw [this] at hj; cases hj
  refine wp_seq (wp_defer h1 h1g h1d h2 h2g h2d hc hca (by rw [hS.size]; exact htn) ?_)
  rw [hva]
  generalize hp : (Value.pointer (some ⟨(α 15).blk, (α 15).off + 0 * (α 15).sz + 0, none⟩)) = pv at *
  let dv : Deferred := ⟨.fn (.func g) #[pv], #[]⟩
  let F' : Fr := ⟨fun _ => False, fun k => if k = 15 then some (α 15) else none, [dv]⟩
  have hdef : a'.defers = [] := hS.defers
  have hS' : Sim C.G X F' w n (names s) α s.ss { (a'.put (some t) (.func (.func g) #[] #[pv])) with defers := dv :: a'.defers } w' := by
    refine { hS with size := by show (a'.put _ _).tmps.size = n; rw [put_size]; exact hS.size, defers := by show dv :: a'.defers = [dv]; rw [hdef], env := fun j av hj => ?_, gl := hS.gl, fix := fun k l hk => ?_ }
    · show RdA w' α _ av ((a'.put (some t) (.func (.func g) #[] #[pv])).tmps.getD j undef)
      rw [put_get_ne _ _ _ _ (fun e => ht' j av hj (Option.some.inj e).symm)]
      exact hS.env j av hj
    · simp only [F'] at hk
      split at hk
      · rename_i hk15; cases hk; subst hk15; exact ⟨rfl, by show 15 / 16 < s.nx; omega⟩
      · cases hk
  have fin : ∀ st1 α1 a1 w1, endsD C g fn.results.toList rs st1 → Sim C.G X F' w n (names st1) α1 st1.ss a1 w1 →
      Leaves C.P fn a1.tmps (fun e w' => ∃ v, e = Ending.returned v ∧ RdA w' (fun _ => ⟨0, 0, 0, false, .bool false⟩) X (retAV rs) v ∧ Below w.heap.size w w') a1.defers .returning w1 := by
    intro st1 α1 a1 w1 hk hs1
    obtain ⟨out, upd, rd, hk, ⟨gn, hgf, hg1, hg2⟩, _, hpt⟩ := callh_point (CA := CallsW C.P g) (fun h hr => CallsW.mono h hr) hk
    obtain ⟨st2, hk, hss, hnx2⟩ := consK_out hk
    replace hk := bumpK_out hk
    have h15 := (hs1.fix 15 (α 15) (by simp [F'])).1
    have := hpt n X F' w (names st1) α1 st1.ss a1 w1 hs1 (fun k _ e he => he) (fun k hf hk => by simp only [fam, names] at hf hk; omega) #[pv] rfl (fun j av v hj hv => by
      cases j with
      | zero =>
        simp at hj hv
        subst hj hv
        rw [← hp, ← h15]; exact .op 15 0 0
      | succ j => simp at hj) none (fun d hd => by cases hd)
    have hd1 : a1.defers = [dv] := hs1.defers
    rw [hd1]
    refine leaves_cons (f := g) (args := #[pv]) (by simp) ?_ ((this.2 .returning).mono ?_)
    · have := enters_fn hgf hg1 hg2 w1 #[pv]
      simp [invoke, this]
    · rintro e u' w2 ⟨rfl, v, rfl, α2, hs2⟩
      simp only [settle]
      have hs3 : Sim C.G X F' w n (names ⟨st2.env, st2.own, st2.nx + 1⟩) α2 (AS.ss ⟨st2.env, st2.own, st2.nx + 1⟩) a1 w2 := by
        have e3 : (AS.ss ⟨st2.env, st2.own, st2.nx + 1⟩) = st2.ss := rfl
        rw [e3, hss]
        refine hs2.mono fun k hk => ?_
        simp only [names, fam] at hk ⊢
        omega
      obtain ⟨outs, rfl, hrun⟩ := rvsK_out (n := n) hk
      obtain ⟨us, hus, hlen, hrd⟩ := hrun hs3
      obtain ⟨v, hv, he1, he2⟩ := results_run hus
      exact ⟨v, hv, v, rfl, ret_reads hlen hrd he1 he2, ⟨hs3.os, hs3.tape, hs3.output, hs3.grow, fun b hb => hs3.fr b hb fun h => h⟩⟩
  refine wpC_sound (F := F') (fun k l hk => by simp only [F'] at hk; split at hk; omega; cases hk) rest _ _ _ s α _ w' _ h hS' ?_ ?_ ?_
  · intro st' α' a' w' hk hs'; exact fin st' α' a' w' hk hs'
  · intro i st' α' a' w' hk; exact hk.elim
  · intro st' α' a' w' hk hs'; exact fin st' α' a' w' hk hs'

end Go.Eng

/-
  Small helpers of the proofs by reckoning.
-/
namespace Go.Eng

theorem wrap_u8 {e : Int} (h1 : 0 ≤ e) (h2 : e ≤ 255) : IntKind.u8.wrap e = e := by
  simp only [IntKind.wrap, IntKind.bits, IntKind.signed]
  simp
  omega
theorem ar8 {e : Int} {K : Int → Prop} (h : 0 ≤ e ∧ e ≤ 255) (h1 : K e) : ArK .u8 e K := ar_is e (wrap_u8 h.1 h.2) h1
theorem wrap_u64 {e : Int} (h1 : 0 ≤ e) (h2 : e ≤ 18446744073709551615) : IntKind.u64.wrap e = e := by
  simp only [IntKind.wrap, IntKind.bits, IntKind.signed]
  simp
  omega
theorem aru {e : Int} {K : Int → Prop} (h : 0 ≤ e ∧ e ≤ 18446744073709551615) (h1 : K e) : ArK .u64 e K := ar_is e (wrap_u64 h.1 h.2) h1
theorem wrap_u32 {e : Int} (h1 : 0 ≤ e) (h2 : e ≤ 4294967295) : IntKind.u32.wrap e = e := by
  simp only [IntKind.wrap, IntKind.bits, IntKind.signed]
  simp
  omega
theorem aru32 {e : Int} {K : Int → Prop} (h : 0 ≤ e ∧ e ≤ 4294967295) (h1 : K e) : ArK .u32 e K := ar_is e (wrap_u32 h.1 h.2) h1

def ints (l : List Int) : D := .sl 1 (l.map (.i .i64))
theorem getInts {l : List Int} {i : Nat} (h : i < l.length) : (l.map (D.i .i64))[i]? = some (.i .i64 (l.getD i 0)) := by
  simp [h]
def I64 (n : Int) : Prop := -9223372036854775808 ≤ n ∧ n ≤ 9223372036854775807
theorem drop_at {β : Type} {l : List β} {i : Nat} (d : β) (h : i < l.length) : l.drop i = l.getD i d :: l.drop (i + 1) := by
  rw [List.drop_eq_getElem_cons h]; simp [h]
theorem get_d {β : Type} {l : List β} {i : Nat} (d : β) (h : i < l.length) : l[i]? = some (l.getD i d) := by simp [h]

end Go.Eng

