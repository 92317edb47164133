/-
  The contract of a function that is lent rows, out of its body's reckoning.
-/
import Derived.Test.YtpogmmcfkdofhaaDoorEngS
namespace Go.Eng
open Go.RowKit (Below)

def rvAK (C : Ctx) (st : AS) (r : ResultVar) (K : AV → Prop) : Prop :=
  match r with
  | .tmp t => lookK st.env t K
  | .cell t T => lookK st.env t fun p => loadK C st T p fun a _ => K a

def rvsAK (C : Ctx) (st : AS) : List ResultVar → (List AV → Prop) → Prop
  | [], K => K []
  | r :: l, K => rvAK C st r fun a => rvsAK C st l fun as => K (a :: as)

theorem rvAK_out {C : Ctx} {n : Nat} {st : AS} {r : ResultVar} {K : AV → Prop} (h : rvAK C st r K) :
    ∃ av, K av ∧ ∀ {X0 F w0 α a w}, Sim C.G X0 F w0 n (names st) α st.ss a w → ∃ v, (rvRun a.tmps r).run C.P w = .ok v w ∧ RdA w α (XX α st.ss.own X0) av v ∧ av.ok (names st) := by
  cases r with
  | tmp t =>
    simp only [rvAK] at h
    replace h := lookK_out h; obtain ⟨av, hl, h⟩ := h
    exact ⟨av, h, fun {X0 F w0 α a w} hs => ⟨_, rfl, hs.env t av hl, hs.ok t av hl⟩⟩
  | cell t T =>
    simp only [rvAK] at h
    replace h := lookK_out h; obtain ⟨p, hl, h⟩ := h
    obtain ⟨av, rd, h, hrun⟩ := load_core (n := n) h
    refine ⟨av, h, fun {X0 F w0 α a w} hs => ?_⟩
    obtain ⟨v, ⟨b, hb, hv⟩, hrv, hok⟩ := hrun hs (fun k _ e he => he) (hs.env t p hl)
    exact ⟨v, by simp [rvRun, hb, asAddr, hv], hrv, hok⟩

theorem rvsAK_out {C : Ctx} {n : Nat} {st : AS} {rs : List ResultVar} {K : List AV → Prop} (h : rvsAK C st rs K) :
    ∃ as, K as ∧ as.length = rs.length ∧ ∀ {X0 F w0 α a w}, Sim C.G X0 F w0 n (names st) α st.ss a w → ∃ vs, (rs.mapM (rvRun a.tmps)).run C.P w = .ok vs w ∧ as.length = vs.length ∧
      ∀ (j : Nat) (d : AV) (v : Value), as[j]? = some d → vs[j]? = some v → RdA w α (XX α st.ss.own X0) d v ∧ d.ok (names st) := by
  induction rs generalizing K with
  | nil => exact ⟨[], h, rfl, fun {X0 F w0 α a w} hs => ⟨[], by simp, rfl, by simp⟩⟩
  | cons r l ih =>
    simp only [rvsAK] at h
    obtain ⟨d, h, hr⟩ := rvAK_out (n := n) h
    obtain ⟨ds, h, hlr, hrs⟩ := ih h
    refine ⟨d :: ds, h, by simp [hlr], fun {X0 F w0 α a w} hs => ?_⟩
    obtain ⟨v, hv, hd⟩ := hr hs
    obtain ⟨vs, hvs, hl, hds⟩ := hrs hs
    refine ⟨v :: vs, ?_, by simp [hl], fun j d' v' h1 h2 => ?_⟩
    · simp [List.mapM_cons, hv, hvs]
    · cases j with
      | zero => simp at h1 h2; subst h1 h2; exact hd
      | succ j => exact hds j d' v' (by simpa using h1) (by simpa using h2)

structure EndK (rs : List AV) (own' : List (Nat × Option Ent)) (st' : AS) (as : List AV) : Prop where
  out : ∃ ρ, LeK ρ ⟨argA 0 as, st'.own, st'.nx⟩ ⟨argA 0 rs, own', 2⟩
theorem end_ok {rs : List AV} {own' : List (Nat × Option Ent)} {st' : AS} {as : List AV} (ρ : List (Nat × Nat)) (h : LeK ρ ⟨argA 0 as, st'.own, st'.nx⟩ ⟨argA 0 rs, own', 2⟩) : EndK rs own' st' as := ⟨ρ, h⟩

def endsH (C : Ctx) (vars : List ResultVar) (rs : List AV) (own' : List (Nat × Option Ent)) (st : AS) : Prop := rvsAK C st vars fun as => EndK rs own' st as

theorem retOf_run {vs : List Value} {v : Value} (h1 : ∀ x, vs = [x] → v = x) (h2 : vs.length ≠ 1 → v = .tuple vs.toArray) : v = retOf vs.toArray := by
  unfold retOf
  by_cases hl : vs.length = 1
  · obtain ⟨x, rfl⟩ : ∃ x, vs = [x] := by
      match vs, hl with
      | [x], _ => exact ⟨x, rfl⟩
    simp [h1 x rfl]
  · simp [hl, h2 hl]

theorem DoesH.mk {C : Ctx} {f : FuncId} {fn : Func} {body : Code} {n : Nat} {bs : List AV} {own : List (Nat × Option Ent)} {rs : List AV} {own' : List (Nat × Option Ent)} (hf : C.P.funcs[f]? = some fn) (h1 : (fn.name == "runtime.NumGoroutine") = false)
    (hb : fn.body = some body) (hn : fn.ntmps = n) (hle : bs.length ≤ n) (hrl : rs.length = fn.results.size)
    (h : wpC C n body (endsH C fn.results.toList rs own') (fun _ _ => False) (endsH C fn.results.toList rs own') ⟨argA 0 bs, own, 1⟩) : DoesH C f bs own rs own' := by
  refine ⟨⟨fn, hf, h1, by simp [hb]⟩, fun w X F α vs hF hs0 => calls_of_wp hf hb ?_⟩
  have hvs := hs0.size
  simp only at hvs
  have hs : Sim C.G X F w n (names ⟨argA 0 bs, own, 1⟩) α (AS.ss ⟨argA 0 bs, own, 1⟩) { tmps := vs ++ Array.replicate (fn.ntmps - vs.size) undef, defers := [] } w := by
    refine { hs0 with size := by simp [hn]; omega, defers := rfl, env := fun t av ht => ?_ }
    have := hs0.env t av ht
    obtain ⟨_, h2⟩ := argA_look bs 0 t av ht
    simp only [Nat.sub_zero] at h2
    have hlt : t < vs.size := by rw [hvs]; exact (List.getElem?_eq_some_iff.1 h2).1
    have e : (vs ++ Array.replicate (fn.ntmps - vs.size) undef).getD t undef = vs.getD t undef := by
      simp [Array.getD_eq_getD_getElem?, Array.getElem?_append, hlt]
    simp only [e]; exact this
  have fin : ∀ st' α' a' w', endsH C fn.results.toList rs own' st' → Sim C.G X F w n (names st') α' st'.ss a' w' →
      a'.defers = [] ∧ ∃ v, (results fn a'.tmps).run C.P w' = .ok v w' ∧ ∃ α' us, Ending.returned v = .returned (retOf us) ∧
        Sim C.G X F w rs.length (names ⟨argA 0 rs, own', 2⟩) α' (AS.ss ⟨argA 0 rs, own', 2⟩) ⟨us, []⟩ w' := by
    intro st' α' a' w' hk hs'
    obtain ⟨as, ⟨ρ, hle⟩, hal, hrun⟩ := rvsAK_out (n := n) hk
    obtain ⟨us, hus, hlen, hrd⟩ := hrun hs'
    obtain ⟨v, hv, he1, he2⟩ := results_run hus
    have hul : us.length = fn.results.size := by rw [← hlen, hal]; simp
    have hS : Sim C.G X F w rs.length (names ⟨argA 0 as, st'.own, st'.nx⟩) α' (AS.ss ⟨argA 0 as, st'.own, st'.nx⟩) ⟨us.toArray, []⟩ w' := by
      have hget : ∀ t av, look (argA 0 as) t = some av → as[t]? = some av ∧ us[t]? = some (us.toArray.getD t undef) := by
        intro t av ht
        obtain ⟨_, h2⟩ := argA_look as 0 t av ht
        simp only [Nat.sub_zero] at h2
        have hlt : t < us.length := by rw [← hlen]; exact (List.getElem?_eq_some_iff.1 h2).1
        exact ⟨h2, by simp [hlt]⟩
      refine { hs' with size := by simp [hul, hrl], defers := rfl, env := fun t av ht => ?_, ok := fun t av ht => ?_ }
      · obtain ⟨g1, g2⟩ := hget t av ht
        exact (hrd t av _ g1 g2).1
      · obtain ⟨g1, g2⟩ := hget t av ht
        exact (hrd t av _ g1 g2).2
    exact ⟨hs'.defers, v, hv, _, us.toArray, by rw [retOf_run he1 he2], hle.sim hS hF⟩
  refine wpC_sound hF body _ _ _ _ _ _ w _ h hs ?_ ?_ ?_
  · intro st' α' a' w' hk hs'; exact fin st' α' a' w' hk hs'
  · intro i st' α' a' w' hk; exact hk.elim
  · intro st' α' a' w' hk hs'; exact fin st' α' a' w' hk hs'

end Go.Eng
