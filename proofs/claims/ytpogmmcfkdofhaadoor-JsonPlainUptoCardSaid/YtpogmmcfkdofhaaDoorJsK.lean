import Derived.Test.YtpogmmcfkdofhaaDoorJsI
namespace Go.Proofs.YtpogmmcfkdofhaaDoor
open Go.Eng
attribute [local irreducible] Hold

/-! ### The reference's Unquote -/

theorem unq_shape (o : List UInt8) : 2 ≤ (quoteF o).length ∧ (quoteF o).getD 0 0 = 34 ∧ (quoteF o).getD ((quoteF o).length - 1) 0 = 34 ∧ ((quoteF o).take ((quoteF o).length - 1)).drop 1 = quos o := by
  unfold quoteF
  refine ⟨by simp, rfl, ?_, ?_⟩
  · simp
  · simp

/-- What is left of the inner text. -/
def f39i (s : List UInt8) (n : Nat) : List UInt8 × List UInt8 → Prop
  | (out, rest) => s = 34 :: (quos out ++ rest) ++ [34] ∧ out.length + rest.length ≤ n
def f39s : List UInt8 × List UInt8 → AS
  | (out, rest) => ⟨[(0, .d (.s rest)), (4, .os 16)], [(16, some (.buf 1 (encB out)))], 80⟩

theorem unq_bad {s out rest : List UInt8} (hs : s = 34 :: (quos out ++ rest) ++ [34]) (hr : rest ≠ []) (hb : ¬ (rest.take (quo (byteOfF rest)).length = quo (byteOfF rest))) : unqF s = ([], 2) := by
  refine unq_no fun o ho => ?_
  rw [hs] at ho
  unfold quoteF at ho
  simp only [List.cons_append, List.cons.injEq, true_and] at ho
  have ho := List.append_cancel_right ho
  have key : ∀ (a b r : List UInt8), quos a = quos b ++ r → ∃ t, r = quos t := by
    intro a b
    induction b generalizing a with
    | nil => intro r h; exact ⟨a, by simpa [quos] using h.symm⟩
    | cons c b ih =>
      intro r h
      cases a with
      | nil =>
        exfalso
        have := congrArg List.length h
        have := quo_pos c
        rw [quos_cons] at *
        simp [quos] at *
        omega
      | cons d a =>
        rw [quos_cons, quos_cons, List.append_assoc] at h
        exact ih a r (quo_inj h).2
  obtain ⟨t, rfl⟩ := key _ _ _ ho
  cases t with
  | nil => exact hr rfl
  | cons c t =>
    rw [quos_cons, byteOf_quo] at hb
    exact hb (by simp)

set_option maxRecDepth 100000 in
theorem unq39 (s : List UInt8) (h : s.length ≤ 1099511627) : Does C 39 [.s s] [.s (unqF s).1, .i .i64 (unqF s).2] := by
  refine Does.mk (n := 57) Tryd.func39 rfl rfl rfl (Nat.le_of_ble_eq_true rfl) ?_
  repeat refine seq_on ?_
  have no : ∀ h : ¬ (2 ≤ s.length ∧ s.getD 0 0 = 34 ∧ s.getD (s.length - 1) 0 = 34), unqF s = ([], 2) := fun h => unq_no fun o ho => by
    subst ho
    obtain ⟨h1, h2, h3, _⟩ := unq_shape o
    exact h ⟨h1, h2, h3⟩
  refine cmp_dec (fun h1 => ?_) (fun h1 => ?_)
  · repeat refine seq_on ?_
    rw [no (fun h => by omega)]; exact rfl
  refine Eng.get_at 0 rfl (get_d 0 (by omega)) ?_
  refine cmp_dec (fun h2 => ?_) (fun h2 => ?_)
  · repeat refine seq_on ?_
    rw [no (fun h => h2 (by rw [h.2.1]; rfl))]; exact rfl
  refine ar ⟨by omega, by omega⟩ ?_
  refine Eng.get_at (s.length - 1) (by omega) (get_d 0 (by omega)) ?_
  refine cmp_dec (fun h3 => ?_) (fun h3 => ?_)
  · repeat refine seq_on ?_
    rw [no (fun h => h3 (by rw [h.2.2]; rfl))]; exact rfl
  repeat refine seq_on ?_
  refine ar ⟨by omega, by omega⟩ ?_
  refine bnd (s.length - 1) (by omega) (by omega) ?_
  refine bnd 1 rfl (by omega) ?_
  repeat refine seq_on ?_
  have hin : s = 34 :: ((s.take (s.length - 1)).drop 1) ++ [34] := by
    have e1 : s.getD 0 0 = 34 := eq_u8.1 (Decidable.not_not.1 h2)
    have e2 : s.getD (s.length - 1) 0 = 34 := eq_u8.1 (Decidable.not_not.1 h3)
    have h4 : s = s.take (s.length - 1) ++ [s.getD (s.length - 1) 0] := by
      rw [← take_snoc (by omega), List.take_of_length_le (by omega)]
    have h5 : s.take (s.length - 1) = s.getD 0 0 :: (s.take (s.length - 1)).drop 1 := by
      have := drop_at (l := s.take (s.length - 1)) (i := 0) 0 (by rw [List.length_take]; omega)
      rw [List.drop_zero] at this
      have e : (s.take (s.length - 1)).getD 0 0 = s.getD 0 0 := by
        cases hs : s with
        | nil => rw [hs] at h1; simp at h1
        | cons x l => cases l with
          | nil => rw [hs] at h1; simp at h1
          | cons y l => simp
      rw [← e]; exact this
    rw [e2] at h4
    rw [e1] at h5
    rw [h5] at h4
    exact h4
  generalize hm : (s.take (s.length - 1)).drop 1 = mid at hin ⊢
  have hml : mid.length ≤ s.length := by rw [← hm, List.length_drop, List.length_take]; omega
  apply loop_inv (f39i s s.length) f39s (fun y => y.2.length) ([], mid) ⟨hin, by simpa using hml⟩ [(16, _)]
  · ((repeat' constructor) <;> refine hold ?_ <;> first | with_reducible rfl | (congr 1 <;> omega) | (congr 1 <;> simp; done) | (simp; done) | exact encB_snoc _ _ | skip)
  rintro ⟨out, rest⟩ ⟨hs, hlen⟩
  repeat refine seq_on ?_
  refine cmp_dec (fun h4 => ?_) (fun h4 => ?_)
  · have hne : rest ≠ [] := h4
    have hrl : 1 ≤ rest.length := by
      cases rest with
      | nil => exact absurd rfl hne
      | cons => simp
    have hbad := unq_bad hs hne
    refine call_by (byteOf64 rest hrl (by omega)) ?_
    repeat refine seq_on ?_
    refine call_by (quoted63 (byteOfF rest)) ?_
    repeat refine seq_on ?_
    have hq := quo_pos (byteOfF rest)
    have short : ∀ h : rest.length < (quo (byteOfF rest)).length, ¬ (rest.take (quo (byteOfF rest)).length = quo (byteOfF rest)) := by
      intro h e
      have := congrArg List.length e
      rw [List.length_take] at this; omega
    refine cmp_dec (fun h5 => ?_) (fun h5 => ?_)
    · repeat refine seq_on ?_
      rw [hbad (short (by omega))]; exact rfl
    refine bnd (quo (byteOfF rest)).length rfl (by omega) ?_
    refine cmp_dec (fun h6 => ?_) (fun h6 => ?_)
    · repeat refine seq_on ?_
      rw [hbad h6]; exact rfl
    have h6 := Decidable.not_not.1 h6
    repeat refine seq_on ?_
    refine app_ok (by simp only [encB_len, List.length_cons, List.length_nil]; omega) ?_
    refine bnd (quo (byteOfF rest)).length rfl (by omega) ?_
    have hd : rest = quo (byteOfF rest) ++ rest.drop (quo (byteOfF rest)).length := by
      conv => lhs; rw [← List.take_append_drop (quo (byteOfF rest)).length rest, h6]
    have hdl : (rest.drop (quo (byteOfF rest)).length).length = rest.length - (quo (byteOfF rest)).length := List.length_drop
    apply again (out ++ [byteOfF rest], rest.drop (quo (byteOfF rest)).length) [(16, _)] ⟨by
      rw [quos_snoc, List.append_assoc, ← hd]; exact hs, by simp only [List.length_append, List.length_cons, List.length_nil, hdl]; omega⟩ (by show (rest.drop _).length < rest.length; rw [hdl]; omega)
    ((repeat' constructor) <;> refine hold ?_ <;> first | with_reducible rfl | (congr 1 <;> omega) | (congr 1 <;> simp; done) | (simp; done) | exact encB_snoc _ _ | skip)
  · have h4 : rest = [] := Decidable.not_not.1 h4
    subst h4
    repeat refine seq_on ?_
    refine bytes_is out rfl ?_
    have : s = quoteF out := by rw [hs, List.append_nil]; rfl
    rw [this, unq_yes]; exact rfl
end Go.Proofs.YtpogmmcfkdofhaaDoor
