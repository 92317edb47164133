/-
  Operations that make a block, write one, or hand one on: the two general steps.
-/
import Derived.Test.YtpogmmcfkdofhaaDoorEngG
namespace Go.Eng

theorem fam_mk (nm c : Nat) (h : c < 16) : fam nm (16 * nm + c) := by unfold fam; omega

def updLoc (α : Nat → Loc) (k : Nat) (l : Loc) : Nat → Loc := fun j => if j = k then l else α j

theorem look_kills {β : Type} (kills : List Nat) (k : Nat) : look (kills.map fun k => (k, (none : Option β))) k = none ∨ (look (kills.map fun k => (k, (none : Option β))) k = some none ∧ k ∈ kills) := by
  induction kills with
  | nil => exact .inl rfl
  | cons x l ih =>
    simp only [List.map_cons, look]
    split
    · rename_i hb; exact .inr ⟨rfl, by rw [Nat.eq_of_beq_eq_true hb]; exact List.mem_cons_self⟩
    · rcases ih with h | ⟨h, hm⟩
      · exact .inl h
      · exact .inr ⟨h, List.mem_cons_of_mem _ hm⟩

/-- What must be shown of a block that is made. -/
structure Made (w w' : World) (α : Nat → Loc) (X : Nat → Prop) (p : Nat → Prop) (e : Ent) (hv : Value) (arr : Array Value) (T : TypeId) (fz : Nat × Nat) (cap : Nat) : Prop where
  heap : w'.heap = w.heap.push (.cells arr T fz)
  os : w'.os = w.os
  tape : w'.tape = w.tape
  output : w'.output = w.output
  len : e.len ≤ cap
  bnd : cap * e.sz ≤ arr.size
  nf : ∀ o, o < cap * e.sz → ¬ (fz.1 ≤ o ∧ o < fz.2)
  wid : e.wide
  rd : ∀ (j m : Nat) (c : AV), e.cell j m = some c → ∃ u, arr[j * e.sz + m]? = some u ∧ RdA w α X c u
  vars : ∀ x, x ∈ e.vars → x.ok p
  hvb : ∀ sz xs, e = .buf sz xs → hv = .slice (some ⟨w.heap.size, 0, none⟩) xs.length cap
  hone : hv.oneCell' = true

def makeUpd (nm : Nat) (e : Ent) (kills : List Nat) : List (Nat × Option Ent) := (16 * nm, some e) :: kills.map fun k => (k, none)

theorem makeUpd_look {nm : Nat} {e : Ent} {kills : List Nat} : ∀ k oe, look (makeUpd nm e kills) k = some oe → (k = 16 * nm ∧ oe = some e) ∨ (k ∈ kills ∧ oe = none) := by
    unfold makeUpd
    intro k oe hl
    simp only [look] at hl
    split at hl
    · rename_i hb
      exact .inl ⟨Nat.eq_of_beq_eq_true hb, by cases hl; rfl⟩
    · rcases look_kills (β := Ent) kills k with h | ⟨h, hm⟩
      · rw [h] at hl; cases hl
      · rw [h] at hl; cases hl; exact .inr ⟨hm, rfl⟩

theorem Sim.make {G : List Gl} {X0 : Nat → Prop} {F : Fr} {w0 : World} {n nm : Nat} {p : Nat → Prop} {α : Nat → Loc} {S : SS} {a : Act} {w w' : World} {e : Ent} {hv : Value} {arr : Array Value} {T : TypeId} {fz : Nat × Nat} {cap : Nat}
    (hs : Sim G X0 F w0 n p α S a w) (hp : ∀ k, fam nm k → ¬ p k) (hM : Made w w' α (XX α S.own X0) p e hv arr T fz cap) (kills : List Nat) (dst : Option Nat) (hd : ∀ d, dst = some d → d < n) (out : AV)
    (hout : out = .os (16 * nm) ∨ out = .op (16 * nm) 0 0) :
    ∃ α', Sim G X0 F w0 n (fun k => p k ∨ fam nm k) α' (S.upd dst out (makeUpd nm e kills)) (a.put dst (match out with | .os _ => hv | _ => .pointer (some ⟨w.heap.size, 0, none⟩))) w' := by
  have hlk := makeUpd_look (nm := nm) (e := e) (kills := kills)
  have hpn : ¬ p (16 * nm) := hp _ (fam_mk nm 0 (by omega))
  let L : Loc := ⟨w.heap.size, 0, e.sz, false, hv⟩
  have hLk : updLoc α (16 * nm) L (16 * nm) = L := by simp [updLoc]
  have hα : ∀ k, p k → updLoc α (16 * nm) L k = α k := by
    intro k hk
    have : k ≠ 16 * nm := fun h => hpn (h ▸ hk)
    simp [updLoc, this]
  refine ⟨updLoc α (16 * nm) L, hs.upd _ (fun k hk => .inl hk) _ w' dst hd out _ _ hα (by rw [hM.heap]; simp) hM.os hM.tape hM.output ?_ ?_ ?_ ?_ ?_ ?_ ?_⟩
  · intro b hb _
    rw [hM.heap, Array.getElem?_push_lt hb]; simp [hb]
  · intro k e' hl
    rcases hlk k _ hl with ⟨rfl, _⟩ | ⟨_, h⟩
    · exact .inr (fam_mk nm 0 (by omega))
    · cases h
  · intro k e' hl hnil
    rcases hlk k _ hl with ⟨rfl, h⟩ | ⟨_, h⟩
    · rw [hLk]; exact .inl (Nat.le_refl _)
    · cases h
  · intro k e1 k' e2 hl hl' _ _ _
    rcases hlk k _ hl with ⟨rfl, _⟩ | ⟨_, h⟩ <;> rcases hlk k' _ hl' with ⟨rfl, _⟩ | ⟨_, h'⟩
    · rfl
    · cases h'
    · cases h
    · cases h
  · intro hw k e' hl
    rcases hlk k _ hl with ⟨rfl, h⟩ | ⟨_, h⟩
    · cases h
      refine ⟨.inr ⟨by rw [hLk], arr, T, fz, cap, ?_⟩, fun x hx => (hM.vars x hx).mono fun k hk => .inl hk⟩
      rw [hLk]
      refine ⟨?_, rfl, hM.len, ?_, fun o _ h2 => hM.nf o (by simpa [L] using h2), hM.wid, fun j m c hc => ?_, fun sz xs h => hM.hvb sz xs h, hM.hone⟩
      · rw [hM.heap]; simp [L]
      · have := hM.bnd; simpa [L] using this
      · obtain ⟨u, h1, h2⟩ := hM.rd j m c hc
        exact ⟨u, by simpa [L] using h1, h2.mono hw hα (Ent.cell_ok hM.vars hc)⟩
    · cases h
  · intro hw
    rcases hout with rfl | rfl
    · have := RdA.os (w := w') (α := updLoc α (16 * nm) L) (X := XX (updLoc α (16 * nm) L) (S.upd dst (.os (16 * nm)) (makeUpd nm e kills)).own X0) (16 * nm) (by rw [hLk]; exact hM.hone)
      rw [hLk] at this
      exact this
    · have := RdA.op (w := w') (α := updLoc α (16 * nm) L) (X := XX (updLoc α (16 * nm) L) (S.upd dst (.op (16 * nm) 0 0) (makeUpd nm e kills)).own X0) (16 * nm) 0 0
      rw [hLk] at this
      simpa [L] using this
  · rcases hout with rfl | rfl
    · exact .os _ (.inr (fam_mk nm 0 (by omega)))
    · exact .op _ _ _ (.inr (fam_mk nm 0 (by omega)))


theorem VOp.make {C : Ctx} {n : Nat} {o : Oper} {nm : Nat} {st : AS} {rd kills : List Nat} {out : AV} {e : Ent} (hkr : ∀ k, k ∈ kills → k ∈ rd)
    (hout : out = .os (16 * nm) ∨ out = .op (16 * nm) 0 0)
    (H : ∀ (X0 : Nat → Prop) (F : Fr) (w0 : World) (p : Nat → Prop) (α : Nat → Loc) (S : SS) (a : Act) (w : World), Sim C.G X0 F w0 n p α S a w →
      (∀ t, Operand.tmp t ∈ o.op.operands → ∀ av, st.ss.env t = some av → S.env t = some av) → (∀ k, k ∈ rd → ∀ e, st.ss.own k = some e → S.own k = some e) →
      ∃ w' hv arr T fz cap, Made w w' α (XX α S.own X0) p e hv arr T fz cap ∧
        (execOp a.eval o).run C.P w = .ok (.value (match out with | .os _ => hv | _ => .pointer (some ⟨w.heap.size, 0, none⟩))) w') :
    VOp C n o nm st rd out (makeUpd nm e kills) := by
  have hlk := makeUpd_look (nm := nm) (e := e) (kills := kills)
  refine ⟨fun k oe hl => ?_, fun X0 F w0 p α S a w Q next hs he ho hp hd hn => ?_⟩
  · rcases hlk k oe hl with ⟨rfl, _⟩ | ⟨hk, _⟩
    · exact .inr (fam_mk nm 0 (by omega))
    · exact .inl (hkr k hk)
  obtain ⟨w', hv, arr, T, fz, cap, hM, hrun⟩ := H X0 F w0 p α S a w hs he ho
  obtain ⟨α', h⟩ := hs.make hp hM kills o.dst hd out hout
  exact wp_value hrun (hn α' _ w' h)

/-- An empty row without a block. -/
theorem Sim.nilrow {G : List Gl} {X0 : Nat → Prop} {F : Fr} {w0 : World} {n nm : Nat} {p : Nat → Prop} {α : Nat → Loc} {S : SS} {a : Act} {w : World} (hs : Sim G X0 F w0 n p α S a w) (hp : ∀ k, fam nm k → ¬ p k)
    (sz : Nat) (kills : List Nat) (dst : Option Nat) (hd : ∀ d, dst = some d → d < n) :
    ∃ α', Sim G X0 F w0 n (fun k => p k ∨ fam nm k) α' (S.upd dst (.os (16 * nm)) (makeUpd nm (.buf sz []) kills)) (a.put dst (.slice none 0 0)) w := by
  have hlk := makeUpd_look (nm := nm) (e := Ent.buf sz []) (kills := kills)
  let L : Loc := ⟨0, 0, sz, true, .slice none 0 0⟩
  have hpn : ¬ p (16 * nm) := hp _ (fam_mk nm 0 (by omega))
  have hLk : updLoc α (16 * nm) L (16 * nm) = L := by simp [updLoc]
  have hα : ∀ k, p k → updLoc α (16 * nm) L k = α k := by
    intro k hk
    have : k ≠ 16 * nm := fun h => hpn (h ▸ hk)
    simp [updLoc, this]
  refine ⟨updLoc α (16 * nm) L, hs.upd _ (fun k hk => .inl hk) _ w dst hd (.os (16 * nm)) _ _ hα (Nat.le_refl _) rfl rfl rfl (fun _ _ _ => rfl) ?_ ?_ ?_ ?_ ?_ (.os _ (.inr (fam_mk nm 0 (by omega))))⟩
  · intro k e hl
    rcases hlk k _ hl with ⟨rfl, _⟩ | ⟨_, h⟩
    · exact .inr (fam_mk nm 0 (by omega))
    · cases h
  · intro k e hl hnil
    rcases hlk k _ hl with ⟨rfl, _⟩ | ⟨_, h⟩
    · rw [hLk] at hnil; cases hnil
    · cases h
  · intro k e k' e' hl hl' _ _ _
    rcases hlk k _ hl with ⟨rfl, _⟩ | ⟨_, h⟩ <;> rcases hlk k' _ hl' with ⟨rfl, _⟩ | ⟨_, h'⟩
    · rfl
    · cases h'
    · cases h
    · cases h
  · intro _ k e hl
    rcases hlk k _ hl with ⟨rfl, h2⟩ | ⟨_, h⟩
    · cases h2
      refine ⟨.inl ?_, fun x hx => by cases hx⟩
      rw [hLk]
      exact ⟨rfl, ⟨sz, rfl⟩, rfl⟩
    · cases h
  · intro _
    have := RdA.os (w := w) (α := updLoc α (16 * nm) L) (X := XX (updLoc α (16 * nm) L) (S.upd dst (.os (16 * nm)) (makeUpd nm (.buf sz []) kills)).own X0) (16 * nm) (by rw [hLk]; rfl)
    rw [hLk] at this
    exact this

/-- What must be shown of a block that is written: it held entry e0 of name k, it holds e. -/
structure Wrote (w w' : World) (α : Nat → Loc) (X : Nat → Prop) (p : Nat → Prop) (l : Loc) (e : Ent) (hv : Value) (arr : Array Value) (T : TypeId) (fz : Nat × Nat) (cap : Nat) : Prop where
  heap : w'.heap[l.blk]? = some (.cells arr T fz)
  other : ∀ b, b ≠ l.blk → w'.heap[b]? = w.heap[b]?
  size : w'.heap.size = w.heap.size
  os : w'.os = w.os
  tape : w'.tape = w.tape
  output : w'.output = w.output
  hsz : l.sz = e.sz
  len : e.len ≤ cap
  bnd : l.off + cap * e.sz ≤ arr.size
  nf : ∀ o, l.off ≤ o → o < l.off + cap * e.sz → ¬ (fz.1 ≤ o ∧ o < fz.2)
  wid : e.wide
  rd : ∀ (j m : Nat) (c : AV), e.cell j m = some c → ∃ u, arr[l.off + j * e.sz + m]? = some u ∧ RdA w α X c u
  vars : ∀ x, x ∈ e.vars → x.ok p
  hvb : ∀ sz xs, e = .buf sz xs → hv = .slice (some ⟨l.blk, l.off, none⟩) xs.length cap
  hone : hv.oneCell' = true

def wrUpd (same : Bool) (k nm : Nat) (e : Ent) : List (Nat × Option Ent) := match same with | true => [(k, some e)] | false => [(16 * nm, some e), (k, none)]
def wrName (same : Bool) (k nm : Nat) : Nat := match same with | true => k | false => 16 * nm

theorem wrUpd_look {same : Bool} {k nm : Nat} {e : Ent} : (∀ j oe, look (wrUpd same k nm e) j = some oe → (j = wrName same k nm ∧ oe = some e) ∨ (same = false ∧ j = k ∧ oe = none)) ∧
    (look (wrUpd same k nm e) k).isSome = true := by
  have hlk : ∀ j oe, look (wrUpd same k nm e) j = some oe →
      (j = (wrName same k nm) ∧ oe = some e) ∨ (same = false ∧ j = k ∧ oe = none) := by
    intro j oe hl
    cases same <;> simp only [look, wrUpd] at hl
    · split at hl
      · rename_i hb; exact .inl ⟨Nat.eq_of_beq_eq_true hb, by cases hl; rfl⟩
      · split at hl
        · rename_i hb; exact .inr ⟨rfl, Nat.eq_of_beq_eq_true hb, by cases hl; rfl⟩
        · cases hl
    · split at hl
      · rename_i hb; exact .inl ⟨Nat.eq_of_beq_eq_true hb, by cases hl; rfl⟩
      · cases hl
  have hlk' : (look (wrUpd same k nm e) k).isSome = true := by
    cases same <;> simp [look, wrUpd]
    split <;> simp
  exact ⟨hlk, hlk'⟩

theorem Sim.write {G : List Gl} {X0 : Nat → Prop} {F : Fr} {w0 : World} {n nm : Nat} {p : Nat → Prop} {α : Nat → Loc} {S : SS} {a : Act} {w w' : World} {e0 e : Ent} {k : Nat} {hv : Value} {arr : Array Value} {T : TypeId} {fz : Nat × Nat} {cap : Nat}
    (hs : Sim G X0 F w0 n p α S a w) (hp : ∀ k, fam nm k → ¬ p k) (same : Bool) (hSk : S.own k = some e0) (hnil : (α k).nil = false) (hM : Wrote w w' α (XX α S.own X0) p (α k) e hv arr T fz cap)
    (hsm : same = true → hv = (α k).hv) (dst : Option Nat) (hd : ∀ d, dst = some d → d < n) (out : AV) (v : Value) (hout : out = .any ∨ (same = false ∧ out = .os (16 * nm))) (hvv : out = .any ∨ v = hv) :
    ∃ α', Sim G X0 F w0 n (fun k => p k ∨ fam nm k) α' (S.upd dst out (wrUpd same k nm e)) (a.put dst v) w' := by
  obtain ⟨hlk, hlk'⟩ := wrUpd_look (same := same) (k := k) (nm := nm) (e := e)
  have hpk : p k := (hs.oko k e0 hSk).1
  have hpn : ¬ p (16 * nm) := hp _ (fam_mk nm 0 (by omega))
  let α' : Nat → Loc := match same with | true => α | false => updLoc α (16 * nm) { α k with hv := hv }
  have hα : ∀ j, p j → α' j = α j := by
    intro j hj
    cases same with
    | true => rfl
    | false =>
      have : j ≠ 16 * nm := fun h => hpn (h ▸ hj)
      simp [α', updLoc, this]
  have hL : α' (wrName same k nm) = { α k with hv := hv } := by
    cases same with
    | true => simp only [α', wrName]; rw [hsm rfl]
    | false => simp [α', updLoc, wrName]
  refine ⟨α', hs.upd _ (fun k hk => .inl hk) _ w' dst hd out _ _ hα (by rw [hM.size]; exact Nat.le_refl _) hM.os hM.tape hM.output ?_ ?_ ?_ ?_ ?_ ?_ ?_⟩
  · intro b _ hb
    exact hM.other b fun h => hb k e0 hSk hlk' hnil h.symm
  · intro j e' hl
    rcases hlk j _ hl with ⟨rfl, _⟩ | ⟨_, _, h⟩
    · cases same
      · exact .inr (fam_mk nm 0 (by omega))
      · exact .inl hpk
    · cases h
  · intro j e' hl _
    rcases hlk j _ hl with ⟨rfl, _⟩ | ⟨_, _, h⟩
    · exact .inr ⟨k, e0, hSk, hlk', hnil, by rw [hL]⟩
    · cases h
  · intro j e1 j' e2 hl hl' _ _ _
    rcases hlk j _ hl with ⟨rfl, _⟩ | ⟨_, _, h⟩ <;> rcases hlk j' _ hl' with ⟨rfl, _⟩ | ⟨_, _, h'⟩
    · rfl
    · cases h'
    · cases h
    · cases h
  · intro hw j e' hl
    rcases hlk j _ hl with ⟨rfl, h⟩ | ⟨_, _, h⟩
    · cases h
      refine ⟨.inr ⟨by rw [hL]; exact hnil, arr, T, fz, cap, ?_⟩, fun x hx => (hM.vars x hx).mono fun k hk => .inl hk⟩
      rw [hL]
      refine ⟨hM.heap, hM.hsz, hM.len, hM.bnd, hM.nf, hM.wid, fun j m c hc => ?_, fun sz xs h => hM.hvb sz xs h, hM.hone⟩
      obtain ⟨u, h1, h2⟩ := hM.rd j m c hc
      exact ⟨u, h1, h2.mono hw hα (Ent.cell_ok hM.vars hc)⟩
    · cases h
  · intro hw
    rcases hout with rfl | ⟨hsf, rfl⟩
    · exact .any v
    · rcases hvv with h | rfl
      · cases h
      · subst hsf
        have := RdA.os (w := w') (α := α') (X := XX α' (S.upd dst (.os (16 * nm)) (wrUpd false k nm e)).own X0) (16 * nm) (by rw [show α' (16 * nm) = { α k with hv := v } from hL]; exact hM.hone)
        have hL' : α' (16 * nm) = { α k with hv := v } := hL
        rw [hL'] at this
        exact this
  · rcases hout with rfl | ⟨_, rfl⟩
    · exact .any
    · exact .os _ (.inr (fam_mk nm 0 (by omega)))

/-- The block of name k is written and keeps its name (same), or goes over to the name 16 * nm. -/
theorem VOp.write {C : Ctx} {n : Nat} {o : Oper} {nm : Nat} {st : AS} {rd : List Nat} {out : AV} {e0 e : Ent} {k : Nat} (same : Bool) (hkr : k ∈ rd) (h0 : st.ss.own k = some e0)
    (hout : out = .any ∨ (same = false ∧ out = .os (16 * nm)))
    (H : ∀ (X0 : Nat → Prop) (F : Fr) (w0 : World) (p : Nat → Prop) (α : Nat → Loc) (S : SS) (a : Act) (w : World), Sim C.G X0 F w0 n p α S a w →
      (∀ t, Operand.tmp t ∈ o.op.operands → ∀ av, st.ss.env t = some av → S.env t = some av) → (∀ k, k ∈ rd → ∀ e, st.ss.own k = some e → S.own k = some e) →
      (α k).nil = false ∧ ∃ w' hv arr T fz cap, Wrote w w' α (XX α S.own X0) p (α k) e hv arr T fz cap ∧ (same = true → hv = (α k).hv) ∧
        (∀ next Q, (∀ v, (out = .any ∨ v = hv) → next (a.put o.dst v) w') → o.wp C.P a w next Q)) :
    VOp C n o nm st rd out (wrUpd same k nm e) := by
  obtain ⟨hlk, hlk'⟩ := wrUpd_look (same := same) (k := k) (nm := nm) (e := e)
  refine ⟨fun j oe hl => ?_, fun X0 F w0 p α S a w Q next hs he ho hp hd hn => ?_⟩
  · rcases hlk j oe hl with ⟨rfl, _⟩ | ⟨_, rfl, _⟩
    · cases same
      · exact .inr (fam_mk nm 0 (by omega))
      · exact .inl hkr
    · exact .inl hkr
  obtain ⟨hnil, w', hv, arr, T, fz, cap, hM, hsm, hrun⟩ := H X0 F w0 p α S a w hs he ho
  have hSk : S.own k = some e0 := ho k hkr e0 h0
  refine hrun _ _ fun v hvv => ?_
  obtain ⟨α', h⟩ := hs.write hp same hSk hnil hM hsm o.dst hd out v hout hvv
  exact hn α' v w' h

end Go.Eng
