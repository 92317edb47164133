/-
  Bodies and functions: the reckoning of a body speaks true; a function's contract out of its body's reckoning.
-/
import Derived.Test.YtpogmmcfkdofhaaDoorEngR
import Derived.Deep.LoopGhost
namespace Go.Eng
open Go.RowKit (Below)

structure CutK {ι : Type} (inv : ι → Prop) (s : ι → AS) (st' : AS) : Prop where
  out : ∃ (y : ι) (ρ : List (Nat × Nat)), inv y ∧ LeK ρ st' (s y)
structure SeqK (A : (AS → Prop) → AS → Prop) (B : AS → Prop) (st : AS) : Prop where
  out : A B st ∨ ∃ (ι : Type) (inv : ι → Prop) (s : ι → AS), A (CutK inv s) st ∧ ∀ y, inv y → B (s y)
structure AgainK {ι : Type} (inv : ι → Prop) (s : ι → AS) (μ : ι → Nat) (x : ι) (st' : AS) : Prop where
  out : ∃ (y : ι) (ρ : List (Nat × Nat)), inv y ∧ μ y < μ x ∧ LeK ρ st' (s y)
structure LoopK (A : (AS → Prop) → AS → Prop) (st : AS) : Prop where
  out : ∃ (ι : Type) (inv : ι → Prop) (s : ι → AS) (μ : ι → Nat) (x0 : ι) (ρ : List (Nat × Nat)), inv x0 ∧ LeK ρ st (s x0) ∧ ∀ x, inv x → A (AgainK inv s μ x) (s x)

theorem seq_on {A : (AS → Prop) → AS → Prop} {B : AS → Prop} {st : AS} (h : A B st) : SeqK A B st := ⟨.inl h⟩
/-- A cut with what holds there. -/
theorem seq_inv {A : (AS → Prop) → AS → Prop} {B : AS → Prop} {st : AS} {ι : Type} (inv : ι → Prop) (s : ι → AS) (h : A (CutK inv s) st) (h1 : ∀ y, inv y → B (s y)) : SeqK A B st :=
  ⟨.inr ⟨ι, inv, s, h, h1⟩⟩
theorem cut_inv {ι : Type} {inv : ι → Prop} {s : ι → AS} {st' : AS} (y : ι) (ρ : List (Nat × Nat)) (hi : inv y) (h : LeK ρ st' (s y)) : CutK inv s st' := ⟨y, ρ, hi, h⟩
theorem loop_inv {A : (AS → Prop) → AS → Prop} {st : AS} {ι : Type} (inv : ι → Prop) (s : ι → AS) (μ : ι → Nat) (x0 : ι) (h0 : inv x0) (ρ : List (Nat × Nat)) (h : LeK ρ st (s x0))
    (h1 : ∀ x, inv x → A (AgainK inv s μ x) (s x)) : LoopK A st := ⟨ι, inv, s, μ, x0, ρ, h0, h, h1⟩
theorem again {ι : Type} {inv : ι → Prop} {s : ι → AS} {μ : ι → Nat} {x : ι} {st' : AS} (y : ι) (ρ : List (Nat × Nat)) (hi : inv y) (h : μ y < μ x) (h1 : LeK ρ st' (s y)) :
    AgainK inv s μ x st' := ⟨y, ρ, hi, h, h1⟩

def isBig : Code → Bool
  | .cond .. | .block .. | .loop .. => true
  | .seq a b => isBig a || isBig b
  | _ => false

def WP : Type := (AS → Prop) → (Nat → AS → Prop) → (AS → Prop) → AS → Prop

def seqStep (big : Bool) (A B : WP) (Kn : AS → Prop) (Ke : Nat → AS → Prop) (Kr : AS → Prop) (st : AS) : Prop :=
  match big with
  | false => A (fun s => B Kn Ke Kr s) Ke Kr st
  | true => SeqK (fun K s => A K Ke Kr s) (fun s => B Kn Ke Kr s) st
def condStep (c : Operand) (A B : WP) (Kn : AS → Prop) (Ke : Nat → AS → Prop) (Kr : AS → Prop) (st : AS) : Prop := evK st c fun v => boolK v fun t => BIf t (A Kn Ke Kr st) (B Kn Ke Kr st)
def blockStep (id : Nat) (A : WP) (Kn : AS → Prop) (Ke : Nat → AS → Prop) (Kr : AS → Prop) (st : AS) : Prop := A Kn (fun i s => match Nat.beq i id with | true => Kn s | false => Ke i s) Kr st
def loopStep (A : WP) (_ : AS → Prop) (Ke : Nat → AS → Prop) (Kr : AS → Prop) (st : AS) : Prop := LoopK (fun K s => A K Ke Kr s) st

/-- What is left to show at a view, ahead of a piece of code. (By the recursor itself: see opsK.) -/
noncomputable def wpC (C : Ctx) (n : Nat) (c : Code) : WP :=
  Code.rec (motive := fun _ => WP)
    (fun Kn _ _ st => Kn st)
    (fun _ ops draw Kn _ _ st => regK C n ops draw st Kn)
    (fun a _ A B => seqStep (isBig a) A B)
    (fun c _ _ A B => condStep c A B)
    (fun id _ A => blockStep id A)
    (fun _ A => loopStep A)
    (fun _ _ _ _ _ _ => fun _ _ _ _ => False)
    (fun id _ Ke _ st => Ke id st)
    (fun _ _ _ _ _ _ => False)
    (fun _ Kn _ _ st => Kn st)
    (fun _ _ _ _ _ => False)
    (fun _ _ Kr st => Kr st)
    (fun _ _ _ _ _ => False) c

theorem wpC_seq (C : Ctx) (n : Nat) (a b : Code) (Kn : AS → Prop) (Ke : Nat → AS → Prop) (Kr : AS → Prop) (st : AS) : wpC C n (.seq a b) Kn Ke Kr st = (match isBig a with
    | false => wpC C n a (fun s => wpC C n b Kn Ke Kr s) Ke Kr st
    | true => SeqK (fun K s => wpC C n a K Ke Kr s) (fun s => wpC C n b Kn Ke Kr s) st) := rfl
theorem wpC_cond (C : Ctx) (n : Nat) (c : Operand) (a b : Code) (Kn : AS → Prop) (Ke : Nat → AS → Prop) (Kr : AS → Prop) (st : AS) :
    wpC C n (.cond c a b) Kn Ke Kr st = evK st c fun v => boolK v fun t => BIf t (wpC C n a Kn Ke Kr st) (wpC C n b Kn Ke Kr st) := rfl
theorem wpC_block (C : Ctx) (n : Nat) (id : Nat) (b : Code) (Kn : AS → Prop) (Ke : Nat → AS → Prop) (Kr : AS → Prop) (st : AS) :
    wpC C n (.block id b) Kn Ke Kr st = wpC C n b Kn (fun i s => match Nat.beq i id with | true => Kn s | false => Ke i s) Kr st := rfl
theorem wpC_loop (C : Ctx) (n : Nat) (b : Code) (Kn : AS → Prop) (Ke : Nat → AS → Prop) (Kr : AS → Prop) (st : AS) :
    wpC C n (.loop b) Kn Ke Kr st = LoopK (fun K s => wpC C n b K Ke Kr s) st := rfl

theorem wpC_sound {C : Ctx} {n : Nat} {X0 : Nat → Prop} {F : Fr} {w0 : World} (hF : ∀ k l, F.fix k = some l → k < 16) : ∀ (c : Code) (Kn : AS → Prop) (Ke : Nat → AS → Prop) (Kr : AS → Prop) (st : AS) (α : Nat → Loc) (a : Act) (w : World) (Q : Exit → Act → World → Prop),
    wpC C n c Kn Ke Kr st → Sim C.G X0 F w0 n (names st) α st.ss a w →
    (∀ st' α' a' w', Kn st' → Sim C.G X0 F w0 n (names st') α' st'.ss a' w' → Q .normal a' w') →
    (∀ i st' α' a' w', Ke i st' → Sim C.G X0 F w0 n (names st') α' st'.ss a' w' → Q (.exit i) a' w') →
    (∀ st' α' a' w', Kr st' → Sim C.G X0 F w0 n (names st') α' st'.ss a' w' → Q .ret a' w') → c.wp C.P Q a w := by
  intro c
  induction c with
  | skip => intro Kn Ke Kr st α a w Q h hs hn _ _; exact wp_skip (hn st α a w h hs)
  | region id ops draw => intro Kn Ke Kr st α a w Q h hs hn _ _; exact regK_sound hs h hn
  | seq x y ihx ihy =>
    intro Kn Ke Kr st α a w Q h hs hn he hr
    have hon : ∀ (B : AS → Prop), (∀ st' α' a' w', B st' → Sim C.G X0 F w0 n (names st') α' st'.ss a' w' → y.wp C.P Q a' w') → wpC C n x B Ke Kr st → (Code.seq x y).wp C.P Q a w := by
      intro B hB h
      refine wp_seq (ihx B Ke Kr st α a w _ h hs ?_ ?_ ?_)
      · intro st' α' a' w' hk hs'; exact hB st' α' a' w' hk hs'
      · intro i st' α' a' w' hk hs'; exact he i st' α' a' w' hk hs'
      · intro st' α' a' w' hk hs'; exact hr st' α' a' w' hk hs'
    have hy : ∀ st' α' a' w', wpC C n y Kn Ke Kr st' → Sim C.G X0 F w0 n (names st') α' st'.ss a' w' → y.wp C.P Q a' w' := fun st' α' a' w' hk hs' => ihy Kn Ke Kr st' α' a' w' Q hk hs' hn he hr
    rw [wpC_seq] at h
    split at h
    · exact hon _ hy h
    · rcases h.out with h | ⟨ι, inv, s, h, h1⟩
      · exact hon _ hy h
      · refine hon _ (fun st' α' a' w' hk hs' => ?_) h
        obtain ⟨z, ρ, hz, hle⟩ := hk.out
        have hs'' := hle.sim hs' hF
        exact hy _ _ a' w' (h1 z hz) hs''
  | cond c x y ihx ihy =>
    intro Kn Ke Kr st α a w Q h hs hn he hr
    rw [wpC_cond] at h
    replace h := evK_out h; obtain ⟨av, h1, h⟩ := h
    unfold boolK at h
    split at h
    · rename_i t
      have hc := (h1.read hs).dinv.binv
      refine wp_cond hc ?_
      rcases h.out with ⟨rfl, h⟩ | ⟨rfl, h⟩
      · exact ihx Kn Ke Kr st α a w Q h hs hn he hr
      · exact ihy Kn Ke Kr st α a w Q h hs hn he hr
    · cases h
  | block id b ih =>
    intro Kn Ke Kr st α a w Q h hs hn he hr
    rw [wpC_block] at h
    refine wp_block (ih _ _ _ st α a w _ h hs ?_ ?_ ?_)
    · intro st' α' a' w' hk hs'; exact hn st' α' a' w' hk hs'
    · intro i st' α' a' w' hk hs'
      simp only [Exit.inBlock]
      cases hb : Nat.beq i id with
      | true =>
        simp only [hb] at hk
        rw [if_pos (Nat.eq_of_beq_eq_true hb)]
        exact hn st' α' a' w' hk hs'
      | false =>
        simp only [hb] at hk
        rw [if_neg (fun e => by subst e; simp at hb)]
        exact he i st' α' a' w' hk hs'
    · intro st' α' a' w' hk hs'; exact hr st' α' a' w' hk hs'
  | loop b ih =>
    intro Kn Ke Kr st α a w Q h hs hn he hr
    rw [wpC_loop] at h
    obtain ⟨ι, inv, s, μ, x0, ρ, h0, hle, h⟩ := h.out
    refine wp_loop_ghost (fun m a w => ∃ x α, inv x ∧ μ x = m ∧ Sim C.G X0 F w0 n (names (s x)) α (s x).ss a w) (μ x0) ?_ ?_
    · have hs' := hle.sim hs hF
      exact ⟨x0, _, h0, rfl, hs'⟩
    · rintro m a w ⟨x, α, hx, rfl, hsx⟩
      refine ih _ Ke Kr (s x) α a w _ (h x hx) hsx ?_ ?_ ?_
      · rintro st' α' a' w' ⟨y, ρ, hy, hlt, hle⟩ hs'
        have hs'' := hle.sim hs' hF
        exact ⟨μ y, hlt, y, _, hy, rfl, hs''⟩
      · intro i st' α' a' w' hk hs'; exact he i st' α' a' w' hk hs'
      · intro st' α' a' w' hk hs'; exact hr st' α' a' w' hk hs'
  | exit id => intro Kn Ke Kr st α a w Q h hs _ he _; exact wp_exit (he id st α a w h hs)
  | label l => intro Kn Ke Kr st α a w Q h hs hn _ _; exact wp_label (hn st α a w h hs)
  | ret => intro Kn Ke Kr st α a w Q h hs _ _ hr; exact wp_ret (hr st α a w h hs)
  | rangeFunc f ps x y _ _ => intro Kn Ke Kr st α a w Q h; exact h.elim
  | scope b _ => intro Kn Ke Kr st α a w Q h; exact h.elim
  | goto l => intro Kn Ke Kr st α a w Q h; exact h.elim
  | refuse s => intro Kn Ke Kr st α a w Q h; exact h.elim

/-! ### Functions -/

def rvK (C : Ctx) (st : AS) (r : ResultVar) (K : D → Prop) : Prop :=
  match r with
  | .tmp t => lookK st.env t fun a => toDK st a fun d _ => K d
  | .cell t T => lookK st.env t fun p => loadK C st T p fun a _ => toDK st a fun d _ => K d

def rvsK (C : Ctx) (st : AS) : List ResultVar → (List D → Prop) → Prop
  | [], K => K []
  | r :: l, K => rvK C st r fun d => rvsK C st l fun ds => K (d :: ds)

def rvRun (tmps : Array Value) : ResultVar → Sem Value
  | .tmp t => pure (tmps.getD t undef)
  | .cell a t => do loadVar t (← asAddr (tmps.getD a undef))

theorem rvK_out {C : Ctx} {n : Nat} {st : AS} {r : ResultVar} {K : D → Prop} (h : rvK C st r K) :
    ∃ d, K d ∧ ∀ {X0 F w0 α a w}, Sim C.G X0 F w0 n (names st) α st.ss a w → ∃ v, (rvRun a.tmps r).run C.P w = .ok v w ∧ Rd w X0 d v := by
  have fin : ∀ {av : AV} {K : D → Prop}, (toDK st av fun d _ => K d) → ∃ d, K d ∧ ∀ {X0 F w0 α a w v}, Sim C.G X0 F w0 n (names st) α st.ss a w → RdA w α (XX α st.ss.own X0) av v → Rd w X0 d v := by
    intro av K h
    obtain ⟨d, us, h, ht⟩ := toDK_out h
    refine ⟨d, h, fun {X0 F w0 α a w v} hs hr => ht.rd w α _ X0 v hr (fun k _ e he => hs.own k e he) (fun b hb => .inr hb) fun k hk hnil hx => ?_⟩
    obtain ⟨e, he⟩ := ht.ent k hk
    exact (hs.mine k e he hnil).2 hx
  cases r with
  | tmp t =>
    simp only [rvK] at h
    replace h := lookK_out h; obtain ⟨av, hl, h⟩ := h
    obtain ⟨d, hk, hr⟩ := fin h
    exact ⟨d, hk, fun {X0 F w0 α a w} hs => ⟨_, rfl, hr hs (hs.env t av hl)⟩⟩
  | cell t T =>
    simp only [rvK] at h
    replace h := lookK_out h; obtain ⟨p, hl, h⟩ := h
    obtain ⟨av, rd, h, hrun⟩ := load_core (n := n) h
    obtain ⟨d, hk, hr⟩ := fin h
    refine ⟨d, hk, fun {X0 F w0 α a w} hs => ?_⟩
    obtain ⟨v, ⟨b, hb, hv⟩, hrv, _⟩ := hrun hs (fun k _ e he => he) (hs.env t p hl)
    refine ⟨v, ?_, hr hs hrv⟩
    simp [rvRun, hb, asAddr, hv]

theorem rvsK_out {C : Ctx} {n : Nat} {st : AS} {rs : List ResultVar} {K : List D → Prop} (h : rvsK C st rs K) :
    ∃ ds, K ds ∧ ∀ {X0 F w0 α a w}, Sim C.G X0 F w0 n (names st) α st.ss a w → ∃ vs, (rs.mapM (rvRun a.tmps)).run C.P w = .ok vs w ∧ ds.length = vs.length ∧
      ∀ (j : Nat) (d : D) (v : Value), ds[j]? = some d → vs[j]? = some v → Rd w X0 d v := by
  induction rs generalizing K with
  | nil => exact ⟨[], h, fun {X0 F w0 α a w} hs => ⟨[], by simp, rfl, by simp⟩⟩
  | cons r l ih =>
    simp only [rvsK] at h
    obtain ⟨d, h, hr⟩ := rvK_out (n := n) h
    obtain ⟨ds, h, hrs⟩ := ih h
    refine ⟨d :: ds, h, fun {X0 F w0 α a w} hs => ?_⟩
    obtain ⟨v, hv, hd⟩ := hr hs
    obtain ⟨vs, hvs, hl, hds⟩ := hrs hs
    refine ⟨v :: vs, ?_, by simp [hl], fun j d' v' h1 h2 => ?_⟩
    · simp [List.mapM_cons, hv, hvs]
    · cases j with
      | zero => simp at h1 h2; subst h1 h2; exact hd
      | succ j => exact hds j d' v' (by simpa using h1) (by simpa using h2)

theorem results_run {P : Program} {fn : Func} {tmps : Array Value} {w : World} {vs : List Value} (h : (fn.results.toList.mapM (rvRun tmps)).run P w = .ok vs w) :
    ∃ v, (results fn tmps).run P w = .ok v w ∧ (∀ x, vs = [x] → v = x) ∧ (vs.length ≠ 1 → v = .tuple vs.toArray) := by
  have e : (results fn tmps) = (do let vs ← (fn.results.mapM (rvRun tmps)); pure (if h : vs.size = 1 then vs[0] else .tuple vs)) := by
    unfold results
    congr 1
  rw [Array.mapM_eq_mapM_toList] at e
  rw [e]
  by_cases hl : vs.length = 1
  · obtain ⟨x, rfl⟩ : ∃ x, vs = [x] := by
      match vs, hl with
      | [x], _ => exact ⟨x, rfl⟩
    exact ⟨x, by simp [h], fun y hy => by cases hy; rfl, fun hn => absurd rfl hn⟩
  · exact ⟨.tuple vs.toArray, by simp [h, hl], fun y hy => by subst hy; simp at hl, fun _ => rfl⟩

def argEnv : Nat → List D → List (Nat × AV)
  | _, [] => []
  | i, d :: ds => (i, .d d) :: argEnv (i + 1) ds

theorem argEnv_look : ∀ (ds : List D) (i t : Nat) (av : AV), look (argEnv i ds) t = some av → ∃ d, i ≤ t ∧ ds[t - i]? = some d ∧ av = .d d
  | [], i, t, av, h => by simp [argEnv, look] at h
  | d :: ds, i, t, av, h => by
    simp only [argEnv, look] at h
    split at h
    · rename_i hb
      have := Nat.eq_of_beq_eq_true hb
      subst this
      cases h
      exact ⟨d, Nat.le_refl _, by simp, rfl⟩
    · obtain ⟨d', h1, h2, h3⟩ := argEnv_look ds (i + 1) t av h
      refine ⟨d', by omega, ?_, h3⟩
      rw [show t - i = (t - (i + 1)) + 1 by omega]
      simpa using h2

def start (ds : List D) : AS := ⟨argEnv 0 ds, [], 1⟩

def ends (C : Ctx) (rs : List ResultVar) (out : List D) (st : AS) : Prop := rvsK C st rs fun ds => ds = out

/-- A function's contract out of its body's reckoning. -/
theorem Does.mk {C : Ctx} {f : FuncId} {fn : Func} {body : Code} {n : Nat} {ds rs : List D} (hf : C.P.funcs[f]? = some fn) (h1 : (fn.name == "runtime.NumGoroutine") = false)
    (hb : fn.body = some body) (hn : fn.ntmps = n) (hle : ds.length ≤ n)
    (h : wpC C n body (ends C fn.results.toList rs) (fun _ _ => False) (ends C fn.results.toList rs) (start ds)) : Does C f ds rs := by
  refine ⟨⟨fn, hf, h1, by simp [hb]⟩, fun w X vs hX hG hl hd => calls_of_wp hf hb ?_⟩
  have hs : Sim C.G X ⟨fun _ => False, fun _ => none⟩ w n (names (start ds)) (fun _ => ⟨0, 0, 0, false, .bool false⟩) (start ds).ss { tmps := vs ++ Array.replicate (fn.ntmps - vs.size) undef, defers := [] } w := by
    refine ⟨by simp [hn]; omega, rfl, fun t av ht => ?_, fun t av ht => ?_, fun k e hk => ?_, fun k e hk => ?_, fun k e k' e' hk => ?_, fun k e hk => ?_, hX, fun _ _ _ => rfl, Nat.le_refl _, rfl, rfl, rfl, fun x hx => ?_, fun k l hk => by cases hk⟩
    · obtain ⟨d, _, h2, rfl⟩ := argEnv_look ds 0 t av ht
      simp only [Nat.sub_zero] at h2
      have hlt : t < vs.size := by rw [← hl]; exact (List.getElem?_eq_some_iff.1 h2).1
      refine .d d _ ((hd t d ((vs ++ Array.replicate (fn.ntmps - vs.size) undef).getD t undef) h2 ?_).mono fun b o hb hn => ⟨hb, ?_⟩)
      · simp [Array.getD_eq_getD_getElem?, Array.getElem?_append, hlt]
      · rintro (⟨k, e, hk, _⟩ | hx)
        · simp [start, AS.ss, look] at hk
        · exact hn hx
    · obtain ⟨d, _, h2, rfl⟩ := argEnv_look ds 0 t av ht
      exact .d d
    · simp [start, AS.ss, look] at hk
    · simp [start, AS.ss, look] at hk
    · simp [start, AS.ss, look] at hk
    · simp [start, AS.ss, look] at hk
    · obtain ⟨h1, h2, h3⟩ := hG x hx
      refine ⟨h1, id, h2, ?_⟩
      obtain ⟨arr, T, fz, h4, hsz, h5, h6⟩ := h3
      refine ⟨arr, T, fz, h4, hsz, h5, fun j m d c hj hm => ?_⟩
      obtain ⟨v, hv, hr⟩ := h6 j m d c hj hm
      exact ⟨v, hv, hr.mono fun b o hb hn => ⟨hb, fun h => hn (h.elim id False.elim)⟩⟩
  have fin : ∀ st' α' a' w', ends C fn.results.toList rs st' → Sim C.G X ⟨fun _ => False, fun _ => none⟩ w n (names st') α' st'.ss a' w' →
      a'.defers = [] ∧ ∃ v, (results fn a'.tmps).run C.P w' = .ok v w' ∧ ∃ v', Ending.returned v = .returned v' ∧ RdA w' (fun _ => ⟨0, 0, 0, false, .bool false⟩) X (retAV rs) v' ∧ Below w.heap.size w w' := by
    intro st' α' a' w' hk hs'
    obtain ⟨out, rfl, hrun⟩ := rvsK_out (n := n) hk
    obtain ⟨us, hus, hlen, hrd⟩ := hrun hs'
    obtain ⟨v, hv, he1, he2⟩ := results_run hus
    refine ⟨hs'.defers, v, hv, v, rfl, ?_, ?_⟩
    · unfold retAV
      split
      · rename_i r
        obtain ⟨u, rfl⟩ : ∃ u, us = [u] := by
          match us, hlen with
          | [x], _ => exact ⟨x, rfl⟩
        rw [he1 u rfl]
        exact .d r u (hrd 0 r u rfl rfl)
      · rename_i hne
        have : us.length ≠ 1 := by
          intro h
          rw [← hlen] at h
          match out, h with
          | [x], _ => exact hne x rfl
        rw [he2 this]
        refine .tup _ _ (by simp [hlen]) fun j c v h1 h2 => ?_
        simp only [List.getElem?_map, Option.map_eq_some_iff] at h1
        obtain ⟨d, h1, rfl⟩ := h1
        exact .d d v (hrd j d v h1 (by simpa using h2))
    · exact ⟨hs'.os, hs'.tape, hs'.output, hs'.grow, fun b hb => hs'.fr b hb id⟩
  refine wpC_sound (fun _ _ h => by cases h) body _ _ _ (start ds) _ _ w _ h hs ?_ ?_ ?_
  · intro st' α' a' w' hk hs'; exact fin st' α' a' w' hk hs'
  · intro i st' α' a' w' hk; exact hk.elim
  · intro st' α' a' w' hk hs'; exact fin st' α' a' w' hk hs'


end Go.Eng
