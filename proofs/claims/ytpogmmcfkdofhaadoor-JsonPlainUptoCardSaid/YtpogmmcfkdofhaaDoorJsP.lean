import Derived.Test.YtpogmmcfkdofhaaDoorJsH
namespace Go.Proofs.YtpogmmcfkdofhaaDoor
open Go.Eng

theorem hexPair {a b : Nat} (ha : a < 16) (hb : b < 16) : parseF 16 255 [hexd a, hexd b] = (((16 * a + b : Nat) : Int), 0) := by
  have da := dc_hex ha
  have db := dc_hex hb
  rw [parseF_ok]
  · have h1 : (255 - dc (hexd b)).tdiv 16 = (255 - dc (hexd b)) / 16 := Int.tdiv_eq_ediv_of_nonneg (by omega)
    have h2 : (255 - dc (hexd a)).tdiv 16 = (255 - dc (hexd a)) / 16 := Int.tdiv_eq_ediv_of_nonneg (by omega)
    rw [acc_some (by omega) (by omega), acc_some (by omega) (by omega)]
    simp only [acc, parseR]
    rw [da, db]
    refine Prod.ext ?_ rfl
    show (0 * 16 + (a : Int)) * 16 + (b : Int) = _
    omega
  · rw [bad_cons, bad_cons, da, db]
    rintro (h | h | h)
    · omega
    · omega
    · exact bad_nil h
  · simp

theorem quo_cases (c : UInt8) : ((c = 34 ∨ c = 92) ∧ quo c = [92, c]) ∨ (c ≠ 34 ∧ c ≠ 92 ∧ quo c = [c]) ∨ (c ≠ 34 ∧ c ≠ 92 ∧ quo c = [92, 117, 48, 48, hexd (c.toNat / 16), hexd (c.toNat % 16)]) := by
  by_cases h : c = 34 ∨ c = 92
  · exact .inl ⟨h, quo_spec c h⟩
  · have h' := not_or.1 h
    by_cases h1 : 32 ≤ c.toNat ∧ c.toNat ≤ 126
    · exact .inr (.inl ⟨h'.1, h'.2, quo_plain c h h1⟩)
    · exact .inr (.inr ⟨h'.1, h'.2, quo_hex c h h1⟩)

theorem byteOf_quo (c : UInt8) (x : List UInt8) : byteOfF (quo c ++ x) = c := by
  have hc := c.toNat_lt
  unfold byteOfF
  rcases quo_cases c with ⟨h, e⟩ | ⟨h1, h2, e⟩ | ⟨h1, h2, e⟩
  · rw [e, if_neg (by simp; omega), if_pos]
    · simp
    · refine .inl ?_
      rcases h with rfl | rfl <;> simp
  · rw [e, if_pos]
    · simp
    · refine .inl ?_
      simp only [List.cons_append, List.getD_cons_zero]
      intro h; exact h2 (UInt8.toNat_inj.1 (by show c.toNat = 92; omega))
  · rw [e, if_neg (by simp; omega), if_neg (by simp; omega)]
    have : (([92, 117, 48, 48, hexd (c.toNat / 16), hexd (c.toNat % 16)] ++ x).take 6).drop 4 = [hexd (c.toNat / 16), hexd (c.toNat % 16)] := rfl
    rw [this, hexPair (by omega) (by omega)]
    show UInt8.ofNat (((16 * (c.toNat / 16) + c.toNat % 16 : Nat) : Int)).toNat = c
    rw [show (((16 * (c.toNat / 16) + c.toNat % 16 : Nat) : Int)).toNat = c.toNat by omega]
    simp

theorem quo_inj {c d : UInt8} {x y : List UInt8} (h : quo c ++ x = quo d ++ y) : c = d ∧ x = y := by
  have : c = d := by rw [← byteOf_quo c x, h, byteOf_quo]
  subst this
  exact ⟨rfl, List.append_cancel_left h⟩
theorem quo_ne (c : UInt8) : quo c ≠ [34] := by
  rcases quo_cases c with ⟨h, e⟩ | ⟨h1, h2, e⟩ | ⟨h1, h2, e⟩ <;> rw [e] <;> simp
  exact h1
theorem quo_pos (c : UInt8) : 1 ≤ (quo c).length := by
  rcases quo_cases c with ⟨h, e⟩ | ⟨h1, h2, e⟩ | ⟨h1, h2, e⟩ <;> rw [e] <;> simp
theorem quos_cons (c : UInt8) (l : List UInt8) : quos (c :: l) = quo c ++ quos l := by simp [quos]
theorem quo_head (c : UInt8) (x : List UInt8) : (quo c ++ x).head? ≠ some 34 := by
  rcases quo_cases c with ⟨h, e⟩ | ⟨h1, h2, e⟩ | ⟨h1, h2, e⟩ <;> rw [e] <;> simp
  exact h1
theorem quos_inj : ∀ {a b : List UInt8}, quos a ++ [34] = quos b ++ [34] → a = b
  | [], [], _ => rfl
  | [], c :: b, h => by
    exfalso
    rw [quos_cons, List.append_assoc] at h
    have := quo_head c (quos b ++ [34])
    rw [← h] at this
    exact this rfl
  | c :: a, [], h => by
    exfalso
    rw [quos_cons, List.append_assoc] at h
    have := quo_head c (quos a ++ [34])
    rw [h] at this
    exact this rfl
  | c :: a, d :: b, h => by
    rw [quos_cons, quos_cons, List.append_assoc, List.append_assoc] at h
    obtain ⟨rfl, h2⟩ := quo_inj h
    rw [quos_inj h2]
theorem quoteF_inj {a b : List UInt8} (h : quoteF a = quoteF b) : a = b := by
  unfold quoteF at h
  simp only [List.cons_append, List.cons.injEq, true_and] at h
  exact quos_inj h

noncomputable def unqF (s : List UInt8) : List UInt8 × Int :=
  open Classical in if h : ∃ o, quoteF o = s then (h.choose, 0) else ([], 2)
theorem unq_yes (o : List UInt8) : unqF (quoteF o) = (o, 0) := by
  have h : ∃ o', quoteF o' = quoteF o := ⟨o, rfl⟩
  unfold unqF
  rw [dif_pos h, quoteF_inj h.choose_spec]
theorem unq_no {s : List UInt8} (h : ∀ o, quoteF o ≠ s) : unqF s = ([], 2) := by
  unfold unqF
  rw [dif_neg]
  rintro ⟨o, ho⟩; exact h o ho

/-- What is left is what is left of a quoted text, if s is one. -/
def OnT (s out rest : List UInt8) : Prop := ∀ o, quoteF o = s → ∃ o', o = out ++ o' ∧ rest = quos o' ++ [34]

theorem on_more {s out rest : List UInt8} (h : OnT s out rest) (hl : 1 < rest.length) {o : List UInt8} (ho : quoteF o = s) : ∃ c o', o = out ++ c :: o' ∧ rest = quo c ++ (quos o' ++ [34]) := by
  obtain ⟨o', rfl, rfl⟩ := h o ho
  cases o' with
  | nil => simp [quos] at hl
  | cons c o' => exact ⟨c, o', rfl, by rw [quos_cons, List.append_assoc]⟩

theorem on_step {s out rest : List UInt8} (h : OnT s out rest) (hl : 1 < rest.length) (n : Nat) (c : UInt8) (hc : ∀ d x, rest = quo d ++ x → d = c ∧ (quo d).length = n) : OnT s (out ++ [c]) (rest.drop n) := by
  intro o ho
  obtain ⟨d, o', rfl, rfl⟩ := on_more h hl ho
  obtain ⟨rfl, hn⟩ := hc d _ rfl
  refine ⟨o', by simp, ?_⟩
  rw [← hn, List.drop_left]

theorem on_end {s out rest : List UInt8} (h : OnT s out rest) (hl : ¬ 1 < rest.length) (hne : quoteF out ≠ s) : unqF s = ([], 2) := by
  refine unq_no fun o ho => ?_
  obtain ⟨o', rfl, rfl⟩ := h o ho
  cases o' with
  | nil => rw [List.append_nil] at ho; exact hne ho
  | cons c o' =>
    have := quo_pos c
    rw [quos_cons] at hl
    simp only [List.length_append, List.length_cons, List.length_nil] at hl
    omega

theorem on_one {rest : List UInt8} (h0 : ¬ ((rest.getD 0 0).toNat : Int) = 92) (d : UInt8) (x : List UInt8) (h : rest = quo d ++ x) : d = rest.getD 0 0 ∧ (quo d).length = 1 := by
  subst h
  rcases quo_cases d with ⟨_, e⟩ | ⟨h1, h2, e⟩ | ⟨h1, h2, e⟩ <;> rw [e] at h0 ⊢
  · exact absurd rfl h0
  · exact ⟨rfl, rfl⟩
  · exact absurd rfl h0

theorem on_hex {rest : List UInt8} (h0 : rest.take 4 = [92, 117, 48, 48]) (d : UInt8) (x : List UInt8) (h : rest = quo d ++ x) :
    (quo d).length = 6 ∧ parseF 16 255 ((rest.take 6).drop 4) = ((d.toNat : Int), 0) := by
  subst h
  have hd := d.toNat_lt
  rcases quo_cases d with ⟨h1, e⟩ | ⟨h1, h2, e⟩ | ⟨h1, h2, e⟩ <;> rw [e] at h0 ⊢
  · exfalso
    have : d = 117 := by
      have := congrArg (fun l => l.getD 1 0) h0
      simpa using this
    subst this
    rcases h1 with h | h <;> cases h
  · exfalso
    have := congrArg (fun l => l.getD 0 0) h0
    exact h2 (by simpa using this)
  · refine ⟨rfl, ?_⟩
    have : (([92, 117, 48, 48, hexd (d.toNat / 16), hexd (d.toNat % 16)] ++ x).take 6).drop 4 = [hexd (d.toNat / 16), hexd (d.toNat % 16)] := rfl
    rw [this, hexPair (by omega) (by omega)]
    refine Prod.ext ?_ rfl
    show ((16 * (d.toNat / 16) + d.toNat % 16 : Nat) : Int) = _
    omega

theorem on_two {rest : List UInt8} (h0 : ((rest.getD 0 0).toNat : Int) = 92) (hx : rest.take 4 = [92, 117, 48, 48] → ¬ 6 < rest.length) (d : UInt8) (x : List UInt8) (h : rest = quo d ++ (x ++ [34])) : d = rest.getD 1 0 ∧ (quo d).length = 2 := by
  subst h
  rcases quo_cases d with ⟨_, e⟩ | ⟨h1, h2, e⟩ | ⟨h1, h2, e⟩ <;> rw [e] at h0 hx ⊢
  · exact ⟨rfl, rfl⟩
  · exfalso
    refine h2 (UInt8.toNat_inj.1 ?_)
    simp only [List.cons_append, List.getD_cons_zero] at h0
    show d.toNat = 92; omega
  · exact absurd (by simp) (hx rfl)

theorem on_two' {s out rest : List UInt8} (h : OnT s out rest) (hl : 1 < rest.length) (h0 : ((rest.getD 0 0).toNat : Int) = 92) (hx : rest.take 4 = [92, 117, 48, 48] → ¬ 6 < rest.length) : OnT s (out ++ [rest.getD 1 0]) (rest.drop 2) := by
  intro o ho
  obtain ⟨d, o', rfl, e⟩ := on_more h hl ho
  obtain ⟨h1, h2⟩ := on_two h0 hx d _ e
  refine ⟨o', by rw [← h1]; simp, ?_⟩
  rw [e, ← h2, List.drop_left]

theorem on_hex_bad {s out rest : List UInt8} (h : OnT s out rest) (hl : 1 < rest.length) (h0 : rest.take 4 = [92, 117, 48, 48]) (he : (parseF 16 255 ((rest.take 6).drop 4)).2 ≠ 0) : unqF s = ([], 2) := by
  refine unq_no fun o ho => ?_
  obtain ⟨d, o', rfl, e⟩ := on_more h hl ho
  rw [(on_hex h0 d _ e).2] at he
  exact he rfl
theorem on_hex' {s out rest : List UInt8} (h : OnT s out rest) (hl : 1 < rest.length) (h0 : rest.take 4 = [92, 117, 48, 48]) : OnT s (out ++ [UInt8.ofNat (parseF 16 255 ((rest.take 6).drop 4)).1.toNat]) (rest.drop 6) := by
  refine on_step h hl 6 _ fun d x e => ?_
  obtain ⟨h1, h2⟩ := on_hex h0 d x e
  refine ⟨?_, h1⟩
  rw [h2]
  simp
end Go.Proofs.YtpogmmcfkdofhaaDoor
