import Derived.Test.YtbfkfmpfdafogaaGreatDoorMe
namespace Go.Proofs.YtbfkfmpfdafogaaGreatDoor
variable {G : List Go.Eng.Gl}
open Go.Eng
attribute [local irreducible] Hold

/-! ### json.Number -/

def jnum (n : Int) : List UInt8 := if n < 0 then 45 :: digs 10 n.natAbs else digs 10 n.toNat

theorem tmod_neg (u : Nat) : (-(u : Int)).tmod 10 = -((u % 10 : Nat) : Int) := by
  rw [Int.neg_tmod]; rfl
theorem tdiv_neg (u : Nat) : (-(u : Int)).tdiv 10 = -((u / 10 : Nat) : Int) := by
  rw [Int.neg_tdiv]; rfl

theorem print_nat (b u : Nat) : printF b (u : Int) = digs b u := by
  unfold printF; rw [if_neg (by omega)]; rfl

theorem jnum_pos {n : Int} (h : ¬ n < 0) : jnum n = printF 10 n := by unfold jnum printF; rw [if_neg h, if_neg h]
theorem jnum_neg {u : Nat} (h : 1 ≤ u) : jnum (-(u : Int)) = 45 :: digs 10 u := by
  unfold jnum; rw [if_pos (by omega)]; simp

def quo (c : UInt8) : List UInt8 :=
  if c = 34 ∨ c = 92 then [92, c] else if 32 ≤ c.toNat ∧ c.toNat ≤ 126 then [c] else [92, 117, 48, 48, hexd (c.toNat / 16), hexd (c.toNat % 16)]
end Go.Proofs.YtbfkfmpfdafogaaGreatDoor

namespace Go.Proofs.YtbfkfmpfdafogaaGreatDoor
variable {G : List Go.Eng.Gl}
open Go.Eng
attribute [local irreducible] Hold

def hx (c : UInt8) : List UInt8 := [hexd (c.toNat / 16), hexd (c.toNat % 16)]
def hexT (l : List UInt8) : List UInt8 := (l.map hx).flatten
theorem hexT_len (l : List UInt8) : (hexT l).length = 2 * l.length := by
  induction l with
  | nil => rfl
  | cons c l ih =>
    have : hexT (c :: l) = hx c ++ hexT l := by simp [hexT]
    rw [this, List.length_append, ih]
    simp only [hx, List.length_cons, List.length_nil]; omega
theorem hexT_snoc (l : List UInt8) (c : UInt8) : hexT (l ++ [c]) = hexT l ++ hx c := by simp [hexT]
theorem take_snoc {l : List UInt8} {i : Nat} (h : i < l.length) : l.take (i + 1) = l.take i ++ [l.getD i 0] := by
  rw [List.take_add_one, List.getElem?_eq_getElem h]; simp [h]

def f85s (l : List UInt8) (i : Nat) : AS := ⟨[(0, .d (.sl 1 (encB l))), (3, .d (.s (hexT (l.take i)))), (4, .d (.i .i64 (i : Int)))], [], 1⟩

end Go.Proofs.YtbfkfmpfdafogaaGreatDoor

namespace Go.Proofs.YtbfkfmpfdafogaaGreatDoor
variable {G : List Go.Eng.Gl}
open Go.Eng
attribute [local irreducible] Hold

theorem eq_u8 {c d : UInt8} : ((c.toNat : Int) = (d.toNat : Int)) ↔ c = d := by
  constructor
  · intro h; exact UInt8.toNat_inj.1 (by omega)
  · rintro rfl; rfl
theorem quo_esc {c : UInt8} (h : (c.toNat : Int) = 34 ∨ (c.toNat : Int) = 92) : quo c = [92, c] := by
  unfold quo; rw [if_pos]
  rcases h with h | h
  · exact .inl (UInt8.toNat_inj.1 (by show c.toNat = 34; omega))
  · exact .inr (UInt8.toNat_inj.1 (by show c.toNat = 92; omega))
theorem quo_not {c : UInt8} (h1 : ¬ (c.toNat : Int) = 34) (h2 : ¬ (c.toNat : Int) = 92) : ¬ (c = 34 ∨ c = 92) := by
  rintro (rfl | rfl)
  · exact h1 rfl
  · exact h2 rfl

end Go.Proofs.YtbfkfmpfdafogaaGreatDoor

namespace Go.Proofs.YtbfkfmpfdafogaaGreatDoor
variable {G : List Go.Eng.Gl}
open Go.Eng
attribute [local irreducible] Hold

def quos (s : List UInt8) : List UInt8 := (s.map quo).flatten
def quoteF (s : List UInt8) : List UInt8 := (34 :: quos s) ++ [34]
theorem quos_snoc (l : List UInt8) (c : UInt8) : quos (l ++ [c]) = quos l ++ quo c := by simp [quos]
theorem quo_len (c : UInt8) : (quo c).length ≤ 6 := by
  unfold quo
  split
  · simp
  · split <;> simp
theorem quos_len (l : List UInt8) : (quos l).length ≤ 6 * l.length := by
  induction l with
  | nil => simp [quos]
  | cons c l ih =>
    have : quos (c :: l) = quo c ++ quos l := by simp [quos]
    have := quo_len c
    simp only [*, List.length_append, List.length_cons]; omega

def f37s (s : List UInt8) (i : Nat) : AS := ⟨[(0, .d (.s s)), (3, .d (.s (34 :: quos (s.take i)))), (4, .d (.i .i64 (i : Int)))], [], 1⟩

end Go.Proofs.YtbfkfmpfdafogaaGreatDoor

namespace Go.Proofs.YtbfkfmpfdafogaaGreatDoor
variable {G : List Go.Eng.Gl}
open Go.Eng
attribute [local irreducible] Hold

theorem short35 (l : List UInt8) (n : Nat) : Does (CG G) 27 [.sl 1 (encB l), .i .i64 (n : Int)] [.sl 1 (encB (l.take n))] := by
  refine Does.mk (n := 13) Tryz.func27 rfl rfl rfl (Nat.le_of_ble_eq_true rfl) ?_
  have hlen := encB_len l
  repeat refine seq_on ?_
  refine cmp_dec (fun h1 => ?_) (fun h1 => ?_)
  · repeat refine seq_on ?_
    refine bnd n rfl (by omega) ?_
    refine congrArg (fun x => [D.sl 1 x]) ?_
    simp [encB, List.map_take]
  · repeat refine seq_on ?_
    refine congrArg (fun x => [D.sl 1 x]) ?_
    rw [List.take_of_length_le (by omega)]

theorem within38 (x n : Int) (hn : 1 ≤ n ∧ n ≤ 4611686018427387904) : ∃ r : Nat, (r : Int) < n ∧ Does (CG G) 69 [.i .i64 x, .i .i64 n] [.i .i64 (r : Int)] := by
  have h1 : -n < x.tmod n := Int.lt_tmod_of_pos x (by omega)
  have h2 : x.tmod n < n := Int.tmod_lt_of_pos x (by omega)
  have h3 : 0 ≤ (x.tmod n + n).tmod n := Int.tmod_nonneg _ (by omega)
  have h4 : (x.tmod n + n).tmod n < n := Int.tmod_lt_of_pos _ (by omega)
  refine ⟨((x.tmod n + n).tmod n).toNat, by omega, ?_⟩
  rw [Int.toNat_of_nonneg h3]
  refine Does.mk (n := 12) Tryz.func69 rfl rfl rfl (Nat.le_of_ble_eq_true rfl) ?_
  refine div_ok (by omega) ?_
  refine ar ⟨by omega, by omega⟩ ?_
  refine div_ok (by omega) ?_
  exact rfl

theorem acc_le {base most : Int} (hb : 2 ≤ base) : ∀ (l : List UInt8) (n r : Int), 0 ≤ n → n ≤ most → acc base most l n = some r → 0 ≤ r ∧ r ≤ most
  | [], n, r, h0, h1, h => by simp only [acc, Option.some.injEq] at h; omega
  | c :: l, n, r, h0, h1, h => by
    have hd := dc_lo c
    simp only [acc] at h
    split at h
    · cases h
    · rename_i hn
      have hn1 : ¬ most < dc c := fun h => hn (.inl h)
      have hn2 : ¬ (most - dc c).tdiv base < n := fun h => hn (.inr h)
      have hm := div_mul hb (by omega) hn2
      have h0' : 0 ≤ n * base := Int.mul_nonneg h0 (by omega)
      exact acc_le hb l _ r (by omega) (by omega) h
theorem parse_le {base most : Int} {s : List UInt8} (hb : 2 ≤ base) (hm : 0 ≤ most) : 0 ≤ (parseF base most s).1 ∧ (parseF base most s).1 ≤ most := by
  unfold parseF
  split
  · exact ⟨Int.le_refl _, hm⟩
  · unfold parseR
    split
    · exact ⟨Int.le_refl _, hm⟩
    · rename_i r hr; exact acc_le hb s 0 r (Int.le_refl _) hm hr
end Go.Proofs.YtbfkfmpfdafogaaGreatDoor

namespace Go.Proofs.YtbfkfmpfdafogaaGreatDoor
variable {G : List Go.Eng.Gl}
open Go.Eng
attribute [local irreducible] Hold

noncomputable def byteOfF (s : List UInt8) : UInt8 :=
  if ¬ ((s.getD 0 0).toNat : Int) = 92 ∨ (s.length : Int) < 2 then s.getD 0 0
  else if ¬ ((s.getD 1 0).toNat : Int) = 117 ∨ (s.length : Int) < 6 then s.getD 1 0
  else UInt8.ofNat (parseF 16 255 ((s.take 6).drop 4)).1.toNat

end Go.Proofs.YtbfkfmpfdafogaaGreatDoor

namespace Go.Proofs.YtbfkfmpfdafogaaGreatDoor
variable {G : List Go.Eng.Gl}
open Go.Eng
attribute [local irreducible] Hold

end Go.Proofs.YtbfkfmpfdafogaaGreatDoor

namespace Go.Proofs.YtbfkfmpfdafogaaGreatDoor
variable {G : List Go.Eng.Gl}
open Go.Eng
attribute [local irreducible] Hold

theorem quo_spec (c : UInt8) (h : c = 34 ∨ c = 92) : quo c = [92, c] := by unfold quo; rw [if_pos h]
theorem quo_plain (c : UInt8) (h : ¬ (c = 34 ∨ c = 92)) (h1 : 32 ≤ c.toNat ∧ c.toNat ≤ 126) : quo c = [c] := by unfold quo; rw [if_neg h, if_pos h1]
theorem quo_hex (c : UInt8) (h : ¬ (c = 34 ∨ c = 92)) (h1 : ¬ (32 ≤ c.toNat ∧ c.toNat ≤ 126)) : quo c = [92, 117, 48, 48, hexd (c.toNat / 16), hexd (c.toNat % 16)] := by unfold quo; rw [if_neg h, if_neg h1]
theorem u8_eq {c : UInt8} {n : Nat} (h : (c.toNat : Int) = (n : Int)) : c = UInt8.ofNat n := by
  have : c.toNat = n := by omega
  rw [← this]; simp

theorem f34_row {s : List UInt8} {i : Nat} {t : List UInt8} (h : i < s.length) (ht : quo (s.getD i 0) = t) : encB (34 :: quos (s.take i) ++ t) = encB (34 :: quos (s.take (i + 1))) := by
  rw [take_snoc h, quos_snoc, ht]; rfl

end Go.Proofs.YtbfkfmpfdafogaaGreatDoor

namespace Go.Proofs.YtbfkfmpfdafogaaGreatDoor
open Go.Eng

theorem hexPair {a b : Nat} (ha : a < 16) (hb : b < 16) : parseF 16 255 [hexd a, hexd b] = (((16 * a + b : Nat) : Int), 0) := by
  have da := dc_hex ha
  have db := dc_hex hb
  rw [parseF_ok]
  · have h1 : (255 - dc (hexd b)).tdiv 16 = (255 - dc (hexd b)) / 16 := Int.tdiv_eq_ediv_of_nonneg (by omega)
    have h2 : (255 - dc (hexd a)).tdiv 16 = (255 - dc (hexd a)) / 16 := Int.tdiv_eq_ediv_of_nonneg (by omega)
    rw [acc_some (by omega) (by omega), acc_some (by omega) (by omega)]
    simp only [acc, parseR]
    rw [da, db]
    refine Prod.ext ?_ rfl
    show (0 * 16 + (a : Int)) * 16 + (b : Int) = _
    omega
  · rw [bad_cons, bad_cons, da, db]
    rintro (h | h | h)
    · omega
    · omega
    · exact bad_nil h
  · simp

theorem quo_cases (c : UInt8) : ((c = 34 ∨ c = 92) ∧ quo c = [92, c]) ∨ (c ≠ 34 ∧ c ≠ 92 ∧ quo c = [c]) ∨ (c ≠ 34 ∧ c ≠ 92 ∧ quo c = [92, 117, 48, 48, hexd (c.toNat / 16), hexd (c.toNat % 16)]) := by
  by_cases h : c = 34 ∨ c = 92
  · exact .inl ⟨h, quo_spec c h⟩
  · have h' := not_or.1 h
    by_cases h1 : 32 ≤ c.toNat ∧ c.toNat ≤ 126
    · exact .inr (.inl ⟨h'.1, h'.2, quo_plain c h h1⟩)
    · exact .inr (.inr ⟨h'.1, h'.2, quo_hex c h h1⟩)

theorem byteOf_quo (c : UInt8) (x : List UInt8) : byteOfF (quo c ++ x) = c := by
  have hc := c.toNat_lt
  unfold byteOfF
  rcases quo_cases c with ⟨h, e⟩ | ⟨h1, h2, e⟩ | ⟨h1, h2, e⟩
  · rw [e, if_neg (by simp; omega), if_pos]
    · simp
    · refine .inl ?_
      rcases h with rfl | rfl <;> simp
  · rw [e, if_pos]
    · simp
    · refine .inl ?_
      simp only [List.cons_append, List.getD_cons_zero]
      intro h; exact h2 (UInt8.toNat_inj.1 (by show c.toNat = 92; omega))
  · rw [e, if_neg (by simp; omega), if_neg (by simp; omega)]
    have : (([92, 117, 48, 48, hexd (c.toNat / 16), hexd (c.toNat % 16)] ++ x).take 6).drop 4 = [hexd (c.toNat / 16), hexd (c.toNat % 16)] := rfl
    rw [this, hexPair (by omega) (by omega)]
    show UInt8.ofNat (((16 * (c.toNat / 16) + c.toNat % 16 : Nat) : Int)).toNat = c
    rw [show (((16 * (c.toNat / 16) + c.toNat % 16 : Nat) : Int)).toNat = c.toNat by omega]
    simp

theorem quo_inj {c d : UInt8} {x y : List UInt8} (h : quo c ++ x = quo d ++ y) : c = d ∧ x = y := by
  have : c = d := by rw [← byteOf_quo c x, h, byteOf_quo]
  subst this
  exact ⟨rfl, List.append_cancel_left h⟩
theorem quo_ne (c : UInt8) : quo c ≠ [34] := by
  rcases quo_cases c with ⟨h, e⟩ | ⟨h1, h2, e⟩ | ⟨h1, h2, e⟩ <;> rw [e] <;> simp
  exact h1
theorem quo_pos (c : UInt8) : 1 ≤ (quo c).length := by
  rcases quo_cases c with ⟨h, e⟩ | ⟨h1, h2, e⟩ | ⟨h1, h2, e⟩ <;> rw [e] <;> simp
theorem quos_cons (c : UInt8) (l : List UInt8) : quos (c :: l) = quo c ++ quos l := by simp [quos]
theorem quo_head (c : UInt8) (x : List UInt8) : (quo c ++ x).head? ≠ some 34 := by
  rcases quo_cases c with ⟨h, e⟩ | ⟨h1, h2, e⟩ | ⟨h1, h2, e⟩ <;> rw [e] <;> simp
  exact h1
theorem quos_inj : ∀ {a b : List UInt8}, quos a ++ [34] = quos b ++ [34] → a = b
  | [], [], _ => rfl
  | [], c :: b, h => by
    exfalso
    rw [quos_cons, List.append_assoc] at h
    have := quo_head c (quos b ++ [34])
    rw [← h] at this
    exact this rfl
  | c :: a, [], h => by
    exfalso
    rw [quos_cons, List.append_assoc] at h
    have := quo_head c (quos a ++ [34])
    rw [h] at this
    exact this rfl
  | c :: a, d :: b, h => by
    rw [quos_cons, quos_cons, List.append_assoc, List.append_assoc] at h
    obtain ⟨rfl, h2⟩ := quo_inj h
    rw [quos_inj h2]
theorem quoteF_inj {a b : List UInt8} (h : quoteF a = quoteF b) : a = b := by
  unfold quoteF at h
  simp only [List.cons_append, List.cons.injEq, true_and] at h
  exact quos_inj h

noncomputable def unqF (s : List UInt8) : List UInt8 × Int :=
  open Classical in if h : ∃ o, quoteF o = s then (h.choose, 0) else ([], 2)
theorem unq_yes (o : List UInt8) : unqF (quoteF o) = (o, 0) := by
  have h : ∃ o', quoteF o' = quoteF o := ⟨o, rfl⟩
  unfold unqF
  rw [dif_pos h, quoteF_inj h.choose_spec]
theorem unq_no {s : List UInt8} (h : ∀ o, quoteF o ≠ s) : unqF s = ([], 2) := by
  unfold unqF
  rw [dif_neg]
  rintro ⟨o, ho⟩; exact h o ho

/-- What is left is what is left of a quoted text, if s is one. -/
def OnT (s out rest : List UInt8) : Prop := ∀ o, quoteF o = s → ∃ o', o = out ++ o' ∧ rest = quos o' ++ [34]

theorem on_more {s out rest : List UInt8} (h : OnT s out rest) (hl : 1 < rest.length) {o : List UInt8} (ho : quoteF o = s) : ∃ c o', o = out ++ c :: o' ∧ rest = quo c ++ (quos o' ++ [34]) := by
  obtain ⟨o', rfl, rfl⟩ := h o ho
  cases o' with
  | nil => simp [quos] at hl
  | cons c o' => exact ⟨c, o', rfl, by rw [quos_cons, List.append_assoc]⟩

theorem on_step {s out rest : List UInt8} (h : OnT s out rest) (hl : 1 < rest.length) (n : Nat) (c : UInt8) (hc : ∀ d x, rest = quo d ++ x → d = c ∧ (quo d).length = n) : OnT s (out ++ [c]) (rest.drop n) := by
  intro o ho
  obtain ⟨d, o', rfl, rfl⟩ := on_more h hl ho
  obtain ⟨rfl, hn⟩ := hc d _ rfl
  refine ⟨o', by simp, ?_⟩
  rw [← hn, List.drop_left]

theorem on_end {s out rest : List UInt8} (h : OnT s out rest) (hl : ¬ 1 < rest.length) (hne : quoteF out ≠ s) : unqF s = ([], 2) := by
  refine unq_no fun o ho => ?_
  obtain ⟨o', rfl, rfl⟩ := h o ho
  cases o' with
  | nil => rw [List.append_nil] at ho; exact hne ho
  | cons c o' =>
    have := quo_pos c
    rw [quos_cons] at hl
    simp only [List.length_append, List.length_cons, List.length_nil] at hl
    omega

theorem on_one {rest : List UInt8} (h0 : ¬ ((rest.getD 0 0).toNat : Int) = 92) (d : UInt8) (x : List UInt8) (h : rest = quo d ++ x) : d = rest.getD 0 0 ∧ (quo d).length = 1 := by
  subst h
  rcases quo_cases d with ⟨_, e⟩ | ⟨h1, h2, e⟩ | ⟨h1, h2, e⟩ <;> rw [e] at h0 ⊢
  · exact absurd rfl h0
  · exact ⟨rfl, rfl⟩
  · exact absurd rfl h0

theorem on_hex {rest : List UInt8} (h0 : rest.take 4 = [92, 117, 48, 48]) (d : UInt8) (x : List UInt8) (h : rest = quo d ++ x) :
    (quo d).length = 6 ∧ parseF 16 255 ((rest.take 6).drop 4) = ((d.toNat : Int), 0) := by
  subst h
  have hd := d.toNat_lt
  rcases quo_cases d with ⟨h1, e⟩ | ⟨h1, h2, e⟩ | ⟨h1, h2, e⟩ <;> rw [e] at h0 ⊢
  · exfalso
    have : d = 117 := by
      have := congrArg (fun l => l.getD 1 0) h0
      simpa using this
    subst this
    rcases h1 with h | h <;> cases h
  · exfalso
    have := congrArg (fun l => l.getD 0 0) h0
    exact h2 (by simpa using this)
  · refine ⟨rfl, ?_⟩
    have : (([92, 117, 48, 48, hexd (d.toNat / 16), hexd (d.toNat % 16)] ++ x).take 6).drop 4 = [hexd (d.toNat / 16), hexd (d.toNat % 16)] := rfl
    rw [this, hexPair (by omega) (by omega)]
    refine Prod.ext ?_ rfl
    show ((16 * (d.toNat / 16) + d.toNat % 16 : Nat) : Int) = _
    omega

theorem on_two {rest : List UInt8} (h0 : ((rest.getD 0 0).toNat : Int) = 92) (hx : rest.take 4 = [92, 117, 48, 48] → ¬ 6 < rest.length) (d : UInt8) (x : List UInt8) (h : rest = quo d ++ (x ++ [34])) : d = rest.getD 1 0 ∧ (quo d).length = 2 := by
  subst h
  rcases quo_cases d with ⟨_, e⟩ | ⟨h1, h2, e⟩ | ⟨h1, h2, e⟩ <;> rw [e] at h0 hx ⊢
  · exact ⟨rfl, rfl⟩
  · exfalso
    refine h2 (UInt8.toNat_inj.1 ?_)
    simp only [List.cons_append, List.getD_cons_zero] at h0
    show d.toNat = 92; omega
  · exact absurd (by simp) (hx rfl)

theorem on_two' {s out rest : List UInt8} (h : OnT s out rest) (hl : 1 < rest.length) (h0 : ((rest.getD 0 0).toNat : Int) = 92) (hx : rest.take 4 = [92, 117, 48, 48] → ¬ 6 < rest.length) : OnT s (out ++ [rest.getD 1 0]) (rest.drop 2) := by
  intro o ho
  obtain ⟨d, o', rfl, e⟩ := on_more h hl ho
  obtain ⟨h1, h2⟩ := on_two h0 hx d _ e
  refine ⟨o', by rw [← h1]; simp, ?_⟩
  rw [e, ← h2, List.drop_left]

theorem on_hex_bad {s out rest : List UInt8} (h : OnT s out rest) (hl : 1 < rest.length) (h0 : rest.take 4 = [92, 117, 48, 48]) (he : (parseF 16 255 ((rest.take 6).drop 4)).2 ≠ 0) : unqF s = ([], 2) := by
  refine unq_no fun o ho => ?_
  obtain ⟨d, o', rfl, e⟩ := on_more h hl ho
  rw [(on_hex h0 d _ e).2] at he
  exact he rfl
theorem on_hex' {s out rest : List UInt8} (h : OnT s out rest) (hl : 1 < rest.length) (h0 : rest.take 4 = [92, 117, 48, 48]) : OnT s (out ++ [UInt8.ofNat (parseF 16 255 ((rest.take 6).drop 4)).1.toNat]) (rest.drop 6) := by
  refine on_step h hl 6 _ fun d x e => ?_
  obtain ⟨h1, h2⟩ := on_hex h0 d x e
  refine ⟨?_, h1⟩
  rw [h2]
  simp
end Go.Proofs.YtbfkfmpfdafogaaGreatDoor

namespace Go.Proofs.YtbfkfmpfdafogaaGreatDoor
variable {G : List Go.Eng.Gl}
open Go.Eng
attribute [local irreducible] Hold

/-! ### Prefixes -/

def trimP (s p : List UInt8) : List UInt8 := if s.take p.length = p then s.drop p.length else s
theorem on_start (s : List UInt8) : OnT s [] (trimP s [34]) := by
  intro o ho
  subst ho
  refine ⟨o, rfl, ?_⟩
  unfold trimP quoteF
  rw [if_pos (by rfl)]
  rfl

def f36s (s : List UInt8) : List UInt8 × List UInt8 → AS
  | (out, rest) => ⟨[(0, .d (.s s)), (4, .os 16), (5, .d (.s rest))], [(16, some (.buf 1 (encB out)))], 50⟩
def f36i (s : List UInt8) : List UInt8 × List UInt8 → Prop
  | (out, rest) => OnT s out rest ∧ out.length + rest.length ≤ s.length

end Go.Proofs.YtbfkfmpfdafogaaGreatDoor

namespace Go.Proofs.YtbfkfmpfdafogaaGreatDoor
variable {G : List Go.Eng.Gl}
open Go.Eng
attribute [local irreducible] Hold

/-! ### The reference's Unquote -/

theorem unq_shape (o : List UInt8) : 2 ≤ (quoteF o).length ∧ (quoteF o).getD 0 0 = 34 ∧ (quoteF o).getD ((quoteF o).length - 1) 0 = 34 ∧ ((quoteF o).take ((quoteF o).length - 1)).drop 1 = quos o := by
  unfold quoteF
  refine ⟨by simp, rfl, ?_, ?_⟩
  · simp
  · simp

/-- What is left of the inner text. -/
def f39i (s : List UInt8) (n : Nat) : List UInt8 × List UInt8 → Prop
  | (out, rest) => s = 34 :: (quos out ++ rest) ++ [34] ∧ out.length + rest.length ≤ n
def f39s : List UInt8 × List UInt8 → AS
  | (out, rest) => ⟨[(0, .d (.s rest)), (4, .os 16)], [(16, some (.buf 1 (encB out)))], 80⟩

theorem unq_bad {s out rest : List UInt8} (hs : s = 34 :: (quos out ++ rest) ++ [34]) (hr : rest ≠ []) (hb : ¬ (rest.take (quo (byteOfF rest)).length = quo (byteOfF rest))) : unqF s = ([], 2) := by
  refine unq_no fun o ho => ?_
  rw [hs] at ho
  unfold quoteF at ho
  simp only [List.cons_append, List.cons.injEq, true_and] at ho
  have ho := List.append_cancel_right ho
  have key : ∀ (a b r : List UInt8), quos a = quos b ++ r → ∃ t, r = quos t := by
    intro a b
    induction b generalizing a with
    | nil => intro r h; exact ⟨a, by simpa [quos] using h.symm⟩
    | cons c b ih =>
      intro r h
      cases a with
      | nil =>
        exfalso
        have := congrArg List.length h
        have := quo_pos c
        rw [quos_cons] at *
        simp [quos] at *
        omega
      | cons d a =>
        rw [quos_cons, quos_cons, List.append_assoc] at h
        exact ih a r (quo_inj h).2
  obtain ⟨t, rfl⟩ := key _ _ _ ho
  cases t with
  | nil => exact hr rfl
  | cons c t =>
    rw [quos_cons, byteOf_quo] at hb
    exact hb (by simp)

end Go.Proofs.YtbfkfmpfdafogaaGreatDoor

