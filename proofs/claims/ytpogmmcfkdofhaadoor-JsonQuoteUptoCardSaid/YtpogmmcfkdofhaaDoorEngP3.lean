/-
  Calls: their reckonings speak true.
-/
import Derived.Test.YtpogmmcfkdofhaaDoorEngP2
namespace Go.Eng
open Go.RowKit (Below)

section
variable {C : Ctx} {n : Nat} {o : Oper} {nm : Nat} {st : AS} {K : KO}

/-- What operation o does: it calls f at what reads as as. -/
def Enters (C : Ctx) (n : Nat) (o : Oper) (st : AS) (f : FuncId) (as : List AV) : Prop :=
  HasBody C f → ∀ (X0 : Nat → Prop) (F : Fr) (w0 : World) (p : Nat → Prop) (α : Nat → Loc) (S : SS) (a : Act) (w : World), Sim C.G X0 F w0 n p α S a w →
    (∀ t, Operand.tmp t ∈ o.op.operands → ∀ av, st.ss.env t = some av → S.env t = some av) →
    ∃ vs : Array Value, as.length = vs.size ∧ (∀ (j : Nat) (av : AV) (v : Value), as[j]? = some av → vs[j]? = some v → RdA w α (XX α S.own X0) av v) ∧
      ∀ (next : Act → World → Prop) (Q : Exit → Act → World → Prop), Calls C.P f vs w (fun e w' => ∃ v, e = .returned v ∧ next (a.put o.dst v) w') → o.wp C.P a w next Q

theorem call_core {f : FuncId} {as : List AV} (hE : Enters C n o st f as) (h : argsK st as fun ds us => ∃ rs, Does C f ds rs ∧ retK rs us K) :
    ∃ out upd rd, K out upd rd ∧ VOp C n o nm st rd out upd := by
  replace h := argsK_out h; obtain ⟨ds, us, h, h2, h3, h4⟩ := h
  obtain ⟨rs, ⟨hbody, hP⟩, h⟩ := h
  have main : ∀ (kills : List Nat), (∀ k, k ∈ kills → k ∈ us) → (kills = us ∨ ∀ d, d ∈ rs → d.flat = true) → VOp C n o nm st us (retAV rs) (kills.map fun k => (k, none)) := by
    intro kills hku hor
    have hlk : ∀ k oe, look (kills.map fun k => (k, (none : Option Ent))) k = some oe → k ∈ kills ∧ oe = none := by
      intro k oe hl
      rcases look_kills (β := Ent) kills k with h | ⟨h, hm⟩
      · rw [h] at hl; cases hl
      · rw [h] at hl; cases hl; exact ⟨hm, rfl⟩
    have hin : ∀ k, k ∈ kills → look (kills.map fun k => (k, (none : Option Ent))) k = some none := by
      intro k hk
      clear hku hor hlk
      induction kills with
      | nil => cases hk
      | cons x l ih =>
        simp only [List.map_cons, look]
        split
        · rfl
        · rename_i hb
          rcases List.mem_cons.1 hk with rfl | hk
          · simp at hb
          · exact ih hk
    refine ⟨fun k oe hl => .inl (hku k (hlk k oe hl).1), fun X0 F w0 p α S a w Q next hs he ho' _ hd hn => ?_⟩
    obtain ⟨vs, hvl, hvr, hrun⟩ := hE hbody X0 F w0 p α S a w hs he
    let X1 : Nat → Prop := fun b => XX α S.own X0 b ∧ ∀ k, k ∈ us → (α k).nil = false → (α k).blk ≠ b
    have hX1 : ∀ b, X1 b → XX α S.own X0 b := fun b h => h.1
    have hXlt : ∀ b, XX α S.own X0 b → b < w.heap.size := by
      rintro b (⟨k, e, hk, hnil, rfl⟩ | hx)
      · exact (hs.own k e hk).lt hnil
      · exact Nat.lt_of_lt_of_le (hs.x0 b hx) hs.grow
    refine hrun _ _ ?_
    refine (hP w X1 vs (fun b hb => hXlt b (hX1 b hb)) (fun x hx => ?_) (by omega) ?_).mono ?_
    · obtain ⟨hg1, _⟩ := hs.gl x hx
      obtain ⟨arr, T, fz, hh, hX, hsz, hw, hr⟩ := gl_at hs hx
      refine ⟨Nat.lt_of_lt_of_le hg1 hs.grow, fun h => hX (hX1 _ h), arr, T, fz, hh, hsz, hw, fun j m d c hj hm => ?_⟩
      obtain ⟨v, hv, hr'⟩ := hr j m d c hj hm
      exact ⟨v, hv, hr'.mono fun b o hb hn => ⟨hb, fun h => hn (hX1 b h)⟩⟩
    · intro j d v hj hv
      obtain ⟨av, hav⟩ : ∃ av, as[j]? = some av := by
        have : j < as.length := by rw [← h2]; exact (List.getElem?_eq_some_iff.1 hj).1
        exact ⟨as[j], by simp [this]⟩
      obtain ⟨vs', h5, h6⟩ := h4 j av d hav hj
      refine h5.rd w α (XX α S.own X0) X1 _ (hvr j av v hav hv) (fun k hk e hke => hs.own k e (ho' k (h6 k hk) e hke)) hX1 fun k hk hnil hb => ?_
      exact hb.2 k (h6 k hk) hnil rfl
    · rintro e w' ⟨v, rfl, hr, hB⟩
      refine ⟨v, rfl, hn α v w' ?_⟩
      refine hs.upd _ (fun k hk => .inl hk) α w' o.dst hd (retAV rs) _ v (fun _ _ => rfl) hB.size hB.os hB.tape hB.output (fun b hb _ => hB.block b hb) ?_ ?_ ?_ ?_ ?_ retAV_ok
      · intro k e hl; cases (hlk k _ hl).2
      · intro k e hl; cases (hlk k _ hl).2
      · intro k e k' e' hl; cases (hlk k _ hl).2
      · intro _ k e hl; cases (hlk k _ hl).2
      · intro hw
        refine retAV_inv hr fun d u hd' hru => ?_
        rcases hor with rfl | hflat
        · refine hru.mono fun b ob hb hnx => ⟨hb, fun hX' => hnx ?_⟩
          rcases hX' with ⟨k, e, hk, hnil, rfl⟩ | hx
          · have hkn : k ∉ kills ∧ S.own k = some e := by
              simp only [SS.upd] at hk
              rcases look_kills (β := Ent) kills k with h | ⟨h, hm⟩
              · rw [h] at hk
                refine ⟨fun hm => ?_, hk⟩
                rw [hin k hm] at h; cases h
              · rw [h] at hk; cases hk
            refine ⟨.inl ⟨k, e, hkn.2, hnil, rfl⟩, fun k' hk' hnil' hbb => ?_⟩
            obtain ⟨e', he'⟩ := h3 k' hk'
            have := hs.inj k' e' k e (ho' k' hk' e' he') hkn.2 hnil' hnil hbb
            subst this; exact hkn.1 hk'
          · refine ⟨.inr hx, fun k' hk' hnil' hbb => ?_⟩
            obtain ⟨e', he'⟩ := h3 k' hk'
            have := (hs.mine k' e' (ho' k' hk' e' he') hnil').2
            rw [hbb] at this; exact this hx
        · exact hru.flat (hflat d hd')
  unfold retK at h
  split at h
  · have := main [] (fun k hk => by cases hk) (.inl rfl)
    split at h
    · exact ⟨_, _, _, h, this⟩
    · exact ⟨_, _, _, h, this⟩
  · split at h
    · split at h
      · rename_i hfl
        exact ⟨_, _, _, h, main [] (fun k hk => by cases hk) (.inr fun d hd => by simp at hd; subst hd; exact hfl)⟩
      · exact ⟨_, _, _, h, main _ (fun k hk => hk) (.inl rfl)⟩
    · exact ⟨_, _, _, h, main _ (fun k hk => hk) (.inl rfl)⟩

theorem look_append' {β : Type} (l m : List (Nat × β)) (k : Nat) : look (l ++ m) k = match look l k with | some v => some v | none => look m k := by
  induction l with
  | nil => rfl
  | cons x l ih =>
    simp only [List.cons_append, look]
    split
    · rfl
    · exact ih

theorem look_pref {β : Type} {l m : List (Nat × β)} {k : Nat} {v : β} (h : look (l ++ m) k = some v) : look l k = some v ∨ (look l k = none ∧ look m k = some v) := by
  rw [look_append'] at h
  cases hl : look l k with
  | none => rw [hl] at h; exact .inr ⟨rfl, h⟩
  | some u => rw [hl] at h; exact .inl h

theorem look_mem_some {β : Type} {l : List (Nat × β)} {k : Nat} {v : β} (h : (k, v) ∈ l) : (look l k).isSome = true := by
  induction l with
  | nil => cases h
  | cons x l ih =>
    obtain ⟨y, u⟩ := x
    simp only [look]
    split
    · rfl
    · rename_i hb
      rcases List.mem_cons.1 h with he | h
      · cases he; simp at hb
      · exact ih h

theorem look_rn {ρ : List (Nat × Nat)} {nm : Nat} {k : Nat} {oe : Option Ent} : ∀ {l : List (Nat × Option Ent)}, (∀ k oe, (k, oe) ∈ l → ∃ e, oe = some e) → look (l.map (rnEnt ρ nm)) k = some oe →
    ∃ k' e', look l k' = some (some e') ∧ (k', some e') ∈ l ∧ k = rn ρ nm k' ∧ oe = some (e'.rn ρ nm)
  | [], _, h => by simp [look] at h
  | (y, oy) :: l, hall, h => by
    obtain ⟨ey, rfl⟩ := hall y oy List.mem_cons_self
    simp only [List.map_cons, rnEnt, look, Option.map_some] at h
    split at h
    · rename_i hb
      cases h
      exact ⟨y, ey, by simp [look], List.mem_cons_self, Nat.eq_of_beq_eq_true hb, rfl⟩
    · rename_i hb
      obtain ⟨k', e', h1, h2, h3, h4⟩ := look_rn (fun k oe hk => hall k oe (List.mem_cons_of_mem _ hk)) h
      refine ⟨k', e', ?_, List.mem_cons_of_mem _ h2, h3, h4⟩
      simp only [look]
      split
      · rename_i hb2
        have := Nat.eq_of_beq_eq_true hb2
        subst this
        rw [h3] at hb; simp at hb
      · exact h1

theorem ren_own {keys : List Nat} {ρ : List (Nat × Nat)} {nm : Nat} {w : World} {α α' : Nat → Loc} {X X' : Nat → Prop} {k : Nat} {e : Ent} (h : Own w α' X k e) (hren : ∀ a, a ∈ e.vars → Ren keys ρ nm a)
    (hX : ∀ b, (∃ o, w.heap[b]? = some o) → X' b → X b) (hk : α (rn ρ nm k) = α' k) (hα : ∀ k, KN keys k → α (rn ρ nm k) = α' k) : Own w α X' (rn ρ nm k) (e.rn ρ nm) := by
  have hm : ∀ {x : D} {u : Value}, Rd w X x u → Rd w X' x u := fun h => h.mono fun b o hb hn => ⟨hb, fun h => hn (hX b ⟨o, hb⟩ h)⟩
  rcases h with ⟨h1, ⟨sz, rfl⟩, h3⟩ | ⟨h1, arr, T, fz, cap, hB⟩
  · exact .inl ⟨by rw [hk]; exact h1, ⟨sz, rfl⟩, by rw [hk]; exact h3⟩
  · refine .inr ⟨by rw [hk]; exact h1, arr, T, fz, cap, ?_⟩
    rw [hk]
    cases e with
    | box cs =>
      have hl : (Ent.rn ρ nm (.box cs)).sz = (Ent.box cs).sz := by simp [Ent.rn, Ent.sz]
      refine ⟨hB.heap, by rw [hl]; exact hB.hsz, hB.len, by rw [hl]; exact hB.bnd, by rw [hl]; exact hB.nf, ?_, fun j m c hc => ?_, (fun sz xs he => by cases he), hB.hone⟩
      · intro c hc
        obtain ⟨a, ha, rfl⟩ := List.mem_map.1 (show c ∈ cs.map (AV.rn ρ nm) from hc)
        rw [(hren a ha).one]; exact hB.wid a ha
      · rw [hl]
        simp only [Ent.rn, Ent.cell] at hc
        split at hc
        · rename_i hj
          subst hj
          simp only [List.getElem?_map, Option.map_eq_some_iff] at hc
          obtain ⟨a, ha, rfl⟩ := hc
          obtain ⟨u, h7, h8⟩ := hB.rd 0 m a (by simp [Ent.cell, ha])
          exact ⟨u, h7, (hren a (List.mem_of_getElem? ha)).rd w α α' X X' u h8 hX hα⟩
        · cases hc
    | arr s xs =>
      refine ⟨hB.heap, hB.hsz, hB.len, hB.bnd, hB.nf, hB.wid, fun j m c hc => ?_, hB.hv, hB.hone⟩
      obtain ⟨u, h7, h8⟩ := hB.rd j m c hc
      simp only [Ent.rn, Ent.cell, Option.bind_eq_some_iff, Option.map_eq_some_iff] at hc
      obtain ⟨x, _, y, _, rfl⟩ := hc
      exact ⟨u, h7, .d _ _ (hm h8.dinv)⟩
    | buf s xs =>
      refine ⟨hB.heap, hB.hsz, hB.len, hB.bnd, hB.nf, hB.wid, fun j m c hc => ?_, hB.hv, hB.hone⟩
      obtain ⟨u, h7, h8⟩ := hB.rd j m c hc
      simp only [Ent.rn, Ent.cell, Option.bind_eq_some_iff, Option.map_eq_some_iff] at hc
      obtain ⟨x, _, y, _, rfl⟩ := hc
      exact ⟨u, h7, .d _ _ (hm h8.dinv)⟩

theorem callh_core {f : FuncId} {as : List AV} (hE : Enters C n o st f as) (h : CallHK C st nm f as K) : ∃ out upd rd, K out upd rd ∧ VOp C n o nm st rd out upd := by
  obtain ⟨bs, own, rs, own', ρ, us, ⟨hbody, hP⟩, ⟨hargs, hrows, hinj, hoff⟩, h⟩ := h
  obtain ⟨h, hupd⟩ := updHK_out h
  obtain ⟨h, hren⟩ := rcsK_out h
  replace h := outK_out h
  rw [keysOf_eq] at hupd hren
  rw [keptN_eq] at hoff
  generalize hkeys : own.map (·.1) = keys at hupd hren
  refine ⟨_, _, _, h, ?_⟩
  clear h
  rw [nones_eq, appN_eq, keptN_eq]
  generalize hU : own'.map (rnEnt ρ nm) ++ (keptOf ρ own ++ us).map (fun k => (k, (none : Option Ent))) = U
  have hoff' : ∀ k, k ∈ us → k ∉ keptOf ρ own := fun k hk => no_meet (by simpa [offB] using hoff) hk
  have hown : ∀ k oe, look own k = some oe → ∃ e' e, oe = some e' ∧ k < 16 ∧ st.ss.own (rho ρ k) = some e ∧ entLe st (chkH us) ρ 1 e e' := by
    intro k oe hl
    obtain ⟨e', e, h1, h2, h3, h4⟩ := ownLe_get hrows k oe hl
    exact ⟨e', e, h1, by omega, h3, h4⟩
  have hkey : ∀ k, k ∈ keys → ∃ oe, look own k = some oe := by
    intro k hk
    rw [← hkeys] at hk
    obtain ⟨⟨k', oe⟩, hm, rfl⟩ := List.mem_map.1 hk
    have := look_mem_some hm
    cases hl : look own k' with
    | none => rw [hl] at this; cases this
    | some v => exact ⟨v, rfl⟩
  have hall' : ∀ k oe, (k, oe) ∈ own' → ∃ e, oe = some e := fun k oe hk => ⟨_, (hupd k oe hk).2.choose_spec.1⟩
  have hUe : ∀ k oe, look U k = some oe → (∃ k' e', look own' k' = some (some e') ∧ (k', some e') ∈ own' ∧ k = rn ρ nm k' ∧ oe = some (e'.rn ρ nm)) ∨ (oe = none ∧ (k ∈ keptOf ρ own ∨ k ∈ us)) := by
    intro k oe hl
    rw [← hU] at hl
    rcases look_pref hl with hl | ⟨_, hl⟩
    · exact .inl (look_rn hall' hl)
    · rcases look_kills (β := Ent) (keptOf ρ own ++ us) k with h | ⟨h, hm⟩
      · rw [h] at hl; cases hl
      · rw [h] at hl; cases hl; exact .inr ⟨rfl, List.mem_append.1 hm⟩
  have hUk : ∀ k, k ∈ keptOf ρ own ∨ k ∈ us → (look U k).isSome = true := by
    intro k hk
    rw [← hU]
    exact look_mem_some (List.mem_append_right _ (List.mem_map.2 ⟨k, List.mem_append.2 hk, rfl⟩))
  have hrnlt : ∀ k, k < 16 → rn ρ nm k = rho ρ k := by
    intro k hk
    unfold rn
    rw [show Nat.blt k 16 = true by simp [Nat.blt]; omega]
  have hrnge : ∀ k, 16 ≤ k → rn ρ nm k = 16 * nm + (k - 16) := by
    intro k hk
    unfold rn
    rw [show Nat.blt k 16 = false from Bool.eq_false_iff.2 fun h => by have := blt_lt h; omega]
  refine ⟨fun k oe hl => ?_, fun X0 F w0 p α S a w Q next hs he ho' hp hd hn => ?_⟩
  · rcases hUe k oe hl with ⟨k', e', _, hm, rfl, _⟩ | ⟨_, hk⟩
    · rcases (hupd k' _ hm).1 with ⟨hlt, hk⟩ | ⟨h1, h2⟩
      · obtain ⟨oe2, hl2⟩ := hkey k' hk
        rw [hrnlt k' hlt]
        exact .inl (List.mem_append_left _ (mem_kept hl2))
      · rw [hrnge k' h1]
        exact .inr (fam_mk nm _ (by omega))
    · exact .inl (List.mem_append.2 hk)
  obtain ⟨vs, hvl, hvr, hrun⟩ := hE hbody X0 F w0 p α S a w hs he
  have hSk : ∀ k oe, look own k = some oe → ∃ e' e, oe = some e' ∧ k < 16 ∧ S.own (rho ρ k) = some e ∧ entLe st (chkH us) ρ 1 e e' := by
    intro k oe hl
    obtain ⟨e', e, h1, h2, h3, h4⟩ := hown k oe hl
    exact ⟨e', e, h1, h2, ho' _ (List.mem_append_left _ (mem_kept hl)) e h3, h4⟩
  have hSu : ∀ k, k ∈ us → ∀ e, st.ss.own k = some e → S.own k = some e := fun k hk e he' => ho' k (List.mem_append_right _ hk) e he'
  let lent : Nat → Prop := fun b => ∃ k oe, look own k = some oe ∧ (α (rho ρ k)).nil = false ∧ (α (rho ρ k)).blk = b
  let X1 : Nat → Prop := fun b => XX α S.own X0 b ∧ ¬ lent b ∧ ∀ k, k ∈ us → (∃ e, st.ss.own k = some e) → (α k).nil = false → (α k).blk ≠ b
  let α1 : Nat → Loc := fun k => α (rho ρ k)
  have hlentX : ∀ b, lent b → XX α S.own X0 b := by
    rintro b ⟨k, oe, hl, hnil, rfl⟩
    obtain ⟨e', e, _, _, h3, _⟩ := hSk k oe hl
    exact .inl ⟨_, e, h3, hnil, rfl⟩
  have hXlt : ∀ b, XX α S.own X0 b → b < w.heap.size := by
    rintro b (⟨k, e, hk, hnil, rfl⟩ | hx)
    · exact (hs.own k e hk).lt hnil
    · exact Nat.lt_of_lt_of_le (hs.x0 b hx) hs.grow
  let F1 : Fr := ⟨lent, fun k => if k < 16 then some (α1 k) else none⟩
  have hXA : ∀ b, XX α1 (AS.ss ⟨argA 0 bs, own, 1⟩).own X1 b → lent b ∨ X1 b := by
    rintro b (⟨k, e, hk, hnil, rfl⟩ | hx)
    · exact .inl ⟨k, _, own_look hk, hnil, rfl⟩
    · exact .inr hx
  have hlinj : ∀ b, lent b → ∀ k e, S.own k = some e → (α k).nil = false → (α k).blk = b → k ∈ keptOf ρ own := by
    rintro b ⟨k', oe, hl, hnil', rfl⟩ k e hk hnil hb
    obtain ⟨e', e2, _, _, h3, _⟩ := hSk k' oe hl
    have := hs.inj _ _ _ _ hk h3 hnil hnil' hb
    rw [this]; exact mem_kept hl
  have hl0 : ∀ b, lent b → ¬ X0 b := by
    rintro b ⟨k', oe, hl, hnil', rfl⟩
    obtain ⟨e', e2, _, _, h3, _⟩ := hSk k' oe hl
    exact (hs.mine _ _ h3 hnil').2
  have hW : LeW st (chkH us) w α (XX α S.own X0) (XX α1 (AS.ss ⟨argA 0 bs, own, 1⟩).own X1) := by
    refine ⟨fun b hb => (hXA b hb).elim (hlentX b) fun h => h.1, fun vs' hvs k hk e he' => hs.own k e (hSu k (subN_get hvs k hk) e he'), fun vs' hvs k hk e he' hnil hb => ?_⟩
    have hku := subN_get hvs k hk
    rcases hXA _ hb with hb | hb
    · exact hoff' k hku (hlinj _ hb k e (hSu k hku e he') hnil rfl)
    · exact hb.2.2 k hku ⟨e, he'⟩ hnil rfl
  obtain ⟨hargl, hargg⟩ := leArgs_get hargs
  have hsz : vs.size = bs.length := by omega
  have hArg : ∀ t av, look (argA 0 bs) t = some av → RdA w α1 (XX α1 (AS.ss ⟨argA 0 bs, own, 1⟩).own X1) av (vs.getD t undef) ∧ av.ok (fun k => k / 16 < 1) := by
    intro t av ht
    obtain ⟨_, hb⟩ := argA_look bs 0 t av ht
    simp only [Nat.sub_zero] at hb
    have hlt : t < bs.length := (List.getElem?_eq_some_iff.1 hb).1
    have h1 : as[t]? = some (as[t]'(by omega)) := by simp [show t < as.length by omega]
    have h2 : vs[t]? = some (vs.getD t undef) := by simp [Array.getD, show t < vs.size by omega]
    exact avLe_read hW (hargg t _ _ h1 hb) (hvr t _ _ h1 h2)
  have hSim1 : Sim C.G X1 F1 w bs.length (names ⟨argA 0 bs, own, 1⟩) α1 (AS.ss ⟨argA 0 bs, own, 1⟩) ⟨vs, []⟩ w := by
    refine ⟨hsz, rfl, fun t av ht => (hArg t av ht).1, fun t av ht => (hArg t av ht).2, fun k e' hk => ?_, fun k e' hk => ?_, fun k e k' e' hk hk' hn hn' hb => ?_, fun k e' hk hn => ?_, fun b hb => hXlt b hb.1, fun _ _ _ => rfl, Nat.le_refl _, rfl, rfl, rfl, fun x hx => ?_, fun k l hk => ?_⟩
    · obtain ⟨e2, e, h1, h2, h3, h4⟩ := hSk k _ (own_look hk)
      cases h1
      exact (entLe_own hW h4 (hs.own _ e h3)).1
    · obtain ⟨e2, e, h1, h2, h3, h4⟩ := hSk k _ (own_look hk)
      cases h1
      exact ⟨by show k / 16 < 1; omega, (entLe_own hW h4 (hs.own _ e h3)).2⟩
    · obtain ⟨e2, e3, h1, h2, h3, h4⟩ := hSk k _ (own_look hk)
      obtain ⟨e4, e5, h5, h6, h7, h8⟩ := hSk k' _ (own_look hk')
      exact injN_get hinj k k' _ _ (own_look hk) (own_look hk') (hs.inj _ _ _ _ h3 h7 hn hn' hb)
    · exact ⟨.inr ⟨k, _, own_look hk, hn, rfl⟩, fun h => h.2.1 ⟨k, _, own_look hk, hn, rfl⟩⟩
    · obtain ⟨hg1, _⟩ := hs.gl x hx
      obtain ⟨arr, T, fz, hh, hX, hsz', hw, hr⟩ := gl_at hs hx
      refine ⟨Nat.lt_of_lt_of_le hg1 hs.grow, fun h => hX (hlentX _ h), fun h => hX h.1, arr, T, fz, hh, hsz', hw, fun j m d c hj hm => ?_⟩
      obtain ⟨v, hv, hr'⟩ := hr j m d c hj hm
      exact ⟨v, hv, hr'.mono fun b o hb hn => ⟨hb, fun h => hn (h.elim (fun h => h.1) (hlentX b))⟩⟩
    · simp only [F1] at hk
      split at hk
      · rename_i hlt
        cases hk
        exact ⟨rfl, by show k / 16 < 1; omega⟩
      · cases hk
  refine hrun next Q ?_
  refine (hP w X1 F1 α1 vs (fun k l hk => ?_) hSim1).mono ?_
  · simp only [F1] at hk
    split at hk
    · assumption
    · cases hk
  rintro e w' ⟨α', us', rfl, hb⟩
  let α2 : Nat → Loc := fun k => if k / 16 = nm then α' (16 + k % 16) else α k
  have hα2 : ∀ k, p k → α2 k = α k := by
    intro k hk
    have : ¬ k / 16 = nm := fun h => hp k h hk
    simp [α2, this]
  have hrn : ∀ k, KN keys k → α2 (rn ρ nm k) = α' k ∧ (p (rn ρ nm k) ∨ fam nm (rn ρ nm k)) := by
    rintro k (⟨hlt, hk⟩ | ⟨h1, h2⟩)
    · obtain ⟨oe, hl⟩ := hkey k hk
      obtain ⟨e2, e, _, _, h3, _⟩ := hSk k oe hl
      have hpk := (hs.oko _ e h3).1
      rw [hrnlt k hlt]
      refine ⟨?_, .inl hpk⟩
      rw [hα2 _ hpk]
      exact (hb.fix k (α1 k) (by simp [F1, hlt])).1.symm
    · rw [hrnge k h1]
      refine ⟨?_, .inr (fam_mk nm _ (by omega))⟩
      have e1 : (16 * nm + (k - 16)) / 16 = nm := by omega
      have e2 : 16 + (16 * nm + (k - 16)) % 16 = k := by omega
      simp only [α2, e1, if_true, e2]
  have hBo : ∀ k e, look own' k = some (some e) → (AS.ss ⟨argA 0 rs, own', 2⟩).own k = some e := by
    intro k e hl; simp only [AS.ss, hl]
  have hXC : ∀ out, ∀ b, (∃ o, w'.heap[b]? = some o) → XX α2 (S.upd o.dst out U).own X0 b → XX α' (AS.ss ⟨argA 0 rs, own', 2⟩).own X1 b := by
    rintro out b _ (⟨k, e, hk, hnil, rfl⟩ | hx)
    · simp only [SS.upd] at hk
      cases hl : look U k with
      | some oe =>
        simp only [hl] at hk
        subst hk
        rcases hUe k _ hl with ⟨k', e', h1, h2, rfl, _⟩ | ⟨h, _⟩
        · have h3 := (hrn k' (hupd k' _ h2).1).1
          rw [h3] at hnil ⊢
          exact .inl ⟨k', e', hBo k' e' h1, hnil, rfl⟩
        · cases h
      | none =>
        simp only [hl] at hk
        have hnk : k ∉ keptOf ρ own ∧ k ∉ us := by
          constructor
          · intro h; have := hUk k (.inl h); rw [hl] at this; cases this
          · intro h; have := hUk k (.inr h); rw [hl] at this; cases this
        rw [hα2 k (hs.oko k e hk).1] at hnil ⊢
        refine .inr ⟨.inl ⟨k, e, hk, hnil, rfl⟩, fun h => hnk.1 (hlinj _ h k e hk hnil rfl), fun k2 hk2 ⟨e2, he2⟩ hnil2 hbb => ?_⟩
        have := hs.inj _ _ _ _ (hSu k2 hk2 e2 he2) hk hnil2 hnil hbb
        exact hnk.2 (this ▸ hk2)
    · refine .inr ⟨.inr hx, fun h => hl0 b h hx, fun k2 hk2 ⟨e2, he2⟩ hnil2 hbb => ?_⟩
      exact (hs.mine _ _ (hSu k2 hk2 e2 he2) hnil2).2 (hbb ▸ hx)
  refine ⟨_, rfl, hn α2 _ w' ?_⟩
  refine hs.upd _ (fun k hk => .inl hk) α2 w' o.dst hd (outAV (rs.map (AV.rn ρ nm))) U _ hα2 hb.grow hb.os hb.tape hb.output ?_ ?_ ?_ ?_ ?_ ?_ ?_
  · intro b hblt hno
    refine hb.fr b hblt ?_
    rintro ⟨k, oe, hl, hnil, rfl⟩
    obtain ⟨e2, e, _, _, h3, _⟩ := hSk k oe hl
    exact hno _ e h3 (hUk _ (.inl (mem_kept hl))) hnil rfl
  · intro k e hl
    rcases hUe k _ hl with ⟨k', e', h1, h2, rfl, _⟩ | ⟨h, _⟩
    · exact (hrn k' (hupd k' _ h2).1).2
    · cases h
  · intro k e hl hnil
    rcases hUe k _ hl with ⟨k', e', h1, h2, rfl, _⟩ | ⟨h, _⟩
    · have h3 := (hrn k' (hupd k' _ h2).1).1
      rw [h3] at hnil ⊢
      rcases (hb.mine k' e' (hBo k' e' h1) hnil).1 with hge | ⟨k0, oe, hl0', hnil0, hb0⟩
      · exact .inl hge
      · obtain ⟨e2, e3, _, _, h5, _⟩ := hSk k0 oe hl0'
        exact .inr ⟨_, e3, h5, hUk _ (.inl (mem_kept hl0')), hnil0, hb0⟩
    · cases h
  · intro k e k2 e2 hl hl2 hnil hnil2 hbb
    rcases hUe k _ hl with ⟨k', e', h1, h2, rfl, _⟩ | ⟨h, _⟩
    · rcases hUe k2 _ hl2 with ⟨k2', e2', h3, h4, rfl, _⟩ | ⟨h, _⟩
      · rw [(hrn k' (hupd k' _ h2).1).1] at hnil hbb
        rw [(hrn k2' (hupd k2' _ h4).1).1] at hnil2 hbb
        rw [hb.inj _ _ _ _ (hBo k' e' h1) (hBo k2' e2' h3) hnil hnil2 hbb]
      · cases h
    · cases h
  · intro _ k e hl
    rcases hUe k _ hl with ⟨k', e', h1, h2, rfl, he'⟩ | ⟨h, _⟩
    · cases he'
      obtain ⟨hkn, e3, h5, h6⟩ := hupd k' _ h2
      cases h5
      refine ⟨ren_own (hb.own k' e' (hBo k' e' h1)) h6 (fun b hbo hx => hXC _ b hbo hx) (hrn k' hkn).1 fun k hk => (hrn k hk).1, fun x hx => ?_⟩
      cases e' with
      | box cs =>
        obtain ⟨a, ha, rfl⟩ := List.mem_map.1 (show x ∈ cs.map (AV.rn ρ nm) from hx)
        exact (h6 a ha).okr _ fun k hk => (hrn k hk).2
      | arr => cases hx
      | buf => cases hx
    · cases h
  · intro _
    have hrs : ∀ (j : Nat) (r : AV), rs[j]? = some r → RdA w' α2 (XX α2 (S.upd o.dst (outAV (rs.map (AV.rn ρ nm))) U).own X0) (r.rn ρ nm) (us'.getD j undef) := by
      intro j r hj
      have := hb.env j r (by have := argA_get rs 0 j r hj; simpa [AS.ss] using this)
      exact (hren r (List.mem_of_getElem? hj)).rd w' α2 α' _ _ _ this (fun b hbo hx => hXC _ b hbo hx) fun k hk => (hrn k hk).1
    have hsz' := hb.size
    simp only at hsz'
    unfold outAV
    split
    · rename_i r1 hr1
      obtain ⟨r, rfl⟩ : ∃ r, rs = [r] := by
        match rs, hr1 with
        | [r], _ => exact ⟨r, rfl⟩
      simp at hr1; subst hr1
      have := hrs 0 r rfl
      have h1 : us'.size = 1 := by simpa using hsz'
      have e1 : retOf us' = us'.getD 0 undef := by simp [retOf, h1, Array.getD]
      rw [e1]; exact this
    · rename_i hne
      have h1 : us'.size ≠ 1 := by
        intro h
        rw [hsz'] at h
        match rs, h, hne with
        | [r], _, hne => exact hne _ rfl
      have e1 : retOf us' = .tuple us' := by simp [retOf, h1]
      rw [e1]
      refine .tup _ _ (by simp [hsz']) fun j c v hc hv => ?_
      simp only [List.getElem?_map, Option.map_eq_some_iff] at hc
      obtain ⟨r, hr, rfl⟩ := hc
      have := hrs j r hr
      have e2 : us'.getD j undef = v := by simp [Array.getD_eq_getD_getElem?, hv]
      rw [e2] at this; exact this
  · have hok : ∀ r, r ∈ rs → (r.rn ρ nm).ok fun k => p k ∨ fam nm k := fun r hr => (hren r hr).okr _ fun k hk => (hrn k hk).2
    unfold outAV
    split
    · rename_i r1 hr1
      obtain ⟨r, rfl⟩ : ∃ r, rs = [r] := by
        match rs, hr1 with
        | [r], _ => exact ⟨r, rfl⟩
      simp at hr1; subst hr1
      exact hok r (by simp)
    · refine .tup _ fun c hc => ?_
      obtain ⟨r, hr, rfl⟩ := List.mem_map.1 hc
      exact hok r hr

theorem lookK_mono {β : Type} {l : List (Nat × β)} {x : Nat} {K K' : β → Prop} (hk : ∀ v, K v → K' v) (h : lookK l x K) : lookK l x K' := by
  induction l with
  | nil => cases h
  | cons y l ih =>
    obtain ⟨y, u⟩ := y
    simp only [lookK] at h ⊢
    cases hb : Nat.beq x y <;> simp only [hb] at h ⊢
    · exact ih h
    · exact hk _ h

theorem cdK_mono {a : AV} {K K' : D → List Nat → Prop} (hk : ∀ d us, K d us → K' d us) (h : cdK st a K) : cdK st a K' := by
  unfold cdK at h ⊢
  split at h
  · exact hk _ _ h
  · exact hk _ _ h
  · refine lookK_mono (fun oe h => ?_) h
    cases oe with
    | none => cases h
    | some e =>
      cases e with
      | buf s xs => exact hk _ _ h
      | _ => cases h
  · cases h

theorem cdsK_mono {l : List AV} {K K' : List D → List Nat → Prop} (hk : ∀ d us, K d us → K' d us) (h : cdsK st l K) : cdsK st l K' := by
  induction l generalizing K K' with
  | nil => exact hk _ _ h
  | cons a l ih =>
    refine cdK_mono (fun d us h => ih (fun ds vs h => ?_) h) h
    split at h <;> exact hk _ _ h

theorem toDK_mono {a : AV} {K K' : D → List Nat → Prop} (hk : ∀ d us, K d us → K' d us) (h : toDK st a K) : toDK st a K' := by
  unfold toDK at h ⊢
  split at h
  · exact cdsK_mono (fun _ _ h => hk _ _ h) h
  · exact cdK_mono hk h

theorem argsK_mono {l : List AV} {K K' : List D → List Nat → Prop} (hk : ∀ d us, K d us → K' d us) (h : argsK st l K) : argsK st l K' := by
  induction l generalizing K K' with
  | nil => exact hk _ _ h
  | cons a l ih =>
    refine toDK_mono (fun d us h => ih (fun ds vs h => ?_) h) h
    split at h <;> exact hk _ _ h

theorem goK_out {f : FuncId} {as : List AV} (hE : Enters C n o st f as) (h : goK C st nm f as K) : ∃ out upd rd, K out upd rd ∧ VOp C n o nm st rd out upd := by
  unfold goK at h
  split at h
  · by_cases hc : CallHK C st nm f as K
    · exact callh_core hE hc
    · refine call_core (nm := nm) hE ?_
      refine argsK_mono (fun ds us hk => ?_) h
      rcases hk.out with h | h
      · exact h
      · exact absurd h hc
  · exact callh_core hE h

/-! #### What a call enters -/

theorem enters_fn {f : FuncId} {fn : Func} (hf : C.P.funcs[f]? = some fn) (h1 : (fn.name == "runtime.NumGoroutine") = false) (h2 : fn.body.isNone = false) (w : World) (args : Array Value) : (callFunc f args).run C.P w = .ok (.enter f args) w := by
  have h1' : ¬ fn.name = "runtime.NumGoroutine" := by
    intro h; rw [h] at h1; simp at h1
  have h2' : ¬ fn.body = none := by
    intro h; rw [h] at h2; simp at h2
  simp [callFunc, hf, h1', h2']

/-- The value of a call's callee. -/
def fnK (st : AS) (x : Operand) (K : FuncId → List AV → List AV → Prop) : Prop :=
  evK st x fun a => match a with | .fn g pre post => (match g with | .func f => K f pre post | _ => False) | _ => False

def app2K (l m : List AV) (K : List AV → Prop) : Prop := match l with | [] => K m | x :: r => app2K r m fun r => K (x :: r)
theorem app2K_out {l m : List AV} {K : List AV → Prop} (h : app2K l m K) : K (l ++ m) := by
  induction l generalizing K with
  | nil => exact h
  | cons x l ih => exact ih (K := fun r => K (x :: r)) h

def pre2 (pre as post : List AV) (K : List AV → Prop) : Prop :=
  match pre, post with
  | [], [] => K as
  | pre, post => app2K as post fun r => app2K pre r K

theorem pre2_out {pre as post : List AV} {K : List AV → Prop} (h : pre2 pre as post K) : K (pre ++ as ++ post) := by
  unfold pre2 at h
  split at h
  · simpa using h
  · have := app2K_out (app2K_out h)
    rw [List.append_assoc]; exact this

theorem call_out {c : Call} {x : Operand} (ho : o.op = .call c) (hc : c.callee = .value x) (h : fnK st x fun f pre post => evsK st c.args.toList fun as => pre2 pre as post fun as => goK C st nm f as K) :
    ∃ out upd rd, K out upd rd ∧ VOp C n o nm st rd out upd := by
  unfold fnK at h
  replace h := evK_out h; obtain ⟨va, h1, h⟩ := h
  split at h
  · rename_i g pre post
    split at h
    · rename_i f
      replace h := evsK_out h; obtain ⟨as, h2, h⟩ := h
      replace h := pre2_out h
      refine goK_out ?_ h
      rintro ⟨fn, hf, hf1, hf2⟩ X0 F w0 p α S a w hs he
      have hm1 : x ∈ o.op.operands := by rw [ho]; simp [Op.operands, Call.operands, hc]
      have hmem : ∀ y, y ∈ c.args.toList → y ∈ o.op.operands := by
        intro y hy
        rw [ho]
        simp [Op.operands, Call.operands, hc] at hy ⊢
        exact .inr hy
      have hr := (h1.to hm1 he).read hs
      generalize hx : a.eval x = v at hr
      cases hr with
      | fn _ _ _ va vb l1 l2 c1 c2 =>
        refine ⟨va ++ c.args.map a.eval ++ vb, ?_, fun j av v hj hv => ?_, fun next Q hcalls => ?_⟩
        · have := h2.length; simp only [Array.length_toList] at this; simp; omega
        · have h2l := h2.length
          simp only [Array.length_toList] at h2l
          rw [Array.getElem?_append] at hv
          rw [List.getElem?_append] at hj
          simp only [Array.size_append, Array.size_map, List.length_append] at hv hj
          split at hj
          · rename_i hlt
            rw [if_pos (by omega)] at hv
            rw [Array.getElem?_append] at hv
            rw [List.getElem?_append] at hj
            split at hj
            · rename_i hlt2
              rw [if_pos (by omega)] at hv
              exact c1 j av v hj hv
            · rename_i hlt2
              rw [if_neg (by omega)] at hv
              obtain ⟨y, hy, hye⟩ := h2.get _ av hj
              simp only [Array.getElem?_map, Option.map_eq_some_iff] at hv
              obtain ⟨y', hy', rfl⟩ := hv
              rw [Array.getElem?_toList, l1] at hy
              rw [hy] at hy'; cases hy'
              exact (hye.to (hmem y (List.mem_of_getElem? (by rw [Array.getElem?_toList]; exact hy))) he).read hs
          · rename_i hlt
            rw [if_neg (by omega)] at hv
            refine c2 _ av v hj ?_
            rw [← hv]; congr 1; omega
        · have hrun : (execOp a.eval o).run C.P w = .ok (.enter f (va ++ c.args.map a.eval ++ vb)) w := by
            simp [execOp, ho, resolve, hc, hx, Deferred.ofValue, invoke, enters_fn hf hf1 hf2]
          unfold Oper.wp
          rw [hrun]
          exact hcalls.mono fun e w' ⟨v, he, hn⟩ => by subst he; exact hn
    · cases h
  · cases h

/-! #### Function values -/

theorem mkfn_out {fn : Fn} {first captured : Array Operand} (ho : o.op = .makeFunc fn first captured) (h : evsK st first.toList fun as => evsK st captured.toList fun bs => K (.fn fn as bs) [] []) :
    ∃ out upd rd, K out upd rd ∧ VOp C n o nm st rd out upd := by
  replace h := evsK_out h; obtain ⟨as, h1, h⟩ := h
  replace h := evsK_out h; obtain ⟨bs, h2, h⟩ := h
  refine ⟨_, _, _, h, VOp.pure fun X0 F w0 p α S a w hs he _ => ?_⟩
  have key : ∀ (ops : Array Operand) (as : List AV), Evs st.ss.env ops.toList as → (∀ y, y ∈ ops.toList → y ∈ o.op.operands) →
      as.length = (ops.map a.eval).size ∧ (∀ (j : Nat) (c : AV) (v : Value), as[j]? = some c → (ops.map a.eval)[j]? = some v → RdA w α (XX α S.own X0) c v) ∧ ∀ c, c ∈ as → c.ok p := by
    intro ops as h1 hmem
    refine ⟨by have := h1.length; simpa using this, fun j c v hj hv => ?_, fun c hc => ?_⟩
    · obtain ⟨y, hy, hye⟩ := h1.get j c hj
      simp only [Array.getElem?_map, Option.map_eq_some_iff] at hv
      obtain ⟨y', hy', rfl⟩ := hv
      rw [Array.getElem?_toList] at hy
      rw [hy] at hy'; cases hy'
      exact (hye.to (hmem y (List.mem_of_getElem? (by rw [Array.getElem?_toList]; exact hy))) he).read hs
    · obtain ⟨j, hj⟩ := List.mem_iff_getElem?.1 hc
      obtain ⟨y, hy, hye⟩ := h1.get j c hj
      exact (hye.to (hmem y (List.mem_of_getElem? hy)) he).ok hs
  have m1 : ∀ y, y ∈ first.toList → y ∈ o.op.operands := fun y hy => by rw [ho]; simp only [Op.operands, Array.mem_append]; exact .inl (by simpa using hy)
  have m2 : ∀ y, y ∈ captured.toList → y ∈ o.op.operands := fun y hy => by rw [ho]; simp only [Op.operands, Array.mem_append]; exact .inr (by simpa using hy)
  obtain ⟨l1, r1, k1⟩ := key first as h1 m1
  obtain ⟨l2, r2, k2⟩ := key captured bs h2 m2
  exact ⟨.func fn (first.map a.eval) (captured.map a.eval), by simp [execOp, ho, Instr.makeFunc], .fn _ _ _ _ _ l1 l2 r1 r2, .fn _ _ _ k1 k2⟩

end
end Go.Eng
