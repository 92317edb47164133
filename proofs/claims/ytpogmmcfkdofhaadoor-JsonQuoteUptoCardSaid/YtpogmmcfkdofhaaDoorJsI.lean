import Derived.Test.YtpogmmcfkdofhaaDoorJsP
namespace Go.Proofs.YtpogmmcfkdofhaaDoor
open Go.Eng
attribute [local irreducible] Hold

/-! ### Prefixes -/

theorem has84 (s p : List UInt8) : Does C 84 [.s s, .s p] [.b (decide (s.take p.length = p))] := by
  refine Does.mk (n := 18) Tryd.func84 rfl rfl rfl (Nat.le_of_ble_eq_true rfl) ?_
  repeat refine seq_on ?_
  refine cmp_dec (fun h1 => ?_) (fun h1 => ?_)
  · refine bnd p.length rfl (by omega) ?_
    exact cmp_keep rfl
  · refine congrArg (fun x => [D.b x]) ?_
    refine (decide_eq_false ?_).symm
    intro h
    have := congrArg List.length h
    rw [List.length_take] at this
    omega
theorem has62 (s p : List UInt8) : Does C 62 [.s s, .s p] [.b (decide (s.take p.length = p))] := by
  refine Does.mk (n := 8) Tryd.func62 rfl rfl rfl (Nat.le_of_ble_eq_true rfl) ?_
  repeat refine seq_on ?_
  refine call_by (has84 s p) ?_
  exact rfl
def trimP (s p : List UInt8) : List UInt8 := if s.take p.length = p then s.drop p.length else s
theorem trim83 (s p : List UInt8) : Does C 83 [.s s, .s p] [.s (trimP s p)] := by
  refine Does.mk (n := 13) Tryd.func83 rfl rfl rfl (Nat.le_of_ble_eq_true rfl) ?_
  repeat refine seq_on ?_
  refine call_by (has84 s p) ?_
  by_cases h : s.take p.length = p
  · rw [decide_eq_true h]
    repeat refine seq_on ?_
    have hle : p.length ≤ s.length := by
      have := congrArg List.length h
      rw [List.length_take] at this; omega
    refine bnd p.length rfl hle ?_
    unfold trimP; rw [if_pos h]; exact rfl
  · rw [decide_eq_false h]
    repeat refine seq_on ?_
    unfold trimP; rw [if_neg h]; exact rfl
theorem trim61 (s p : List UInt8) : Does C 61 [.s s, .s p] [.s (trimP s p)] := by
  refine Does.mk (n := 8) Tryd.func61 rfl rfl rfl (Nat.le_of_ble_eq_true rfl) ?_
  repeat refine seq_on ?_
  refine call_by (trim83 s p) ?_
  exact rfl

/-! ### json.Unquote -/

theorem on_start (s : List UInt8) : OnT s [] (trimP s [34]) := by
  intro o ho
  subst ho
  refine ⟨o, rfl, ?_⟩
  unfold trimP quoteF
  rw [if_pos (by rfl)]
  rfl

def f36s (s : List UInt8) : List UInt8 × List UInt8 → AS
  | (out, rest) => ⟨[(0, .d (.s s)), (4, .os 16), (5, .d (.s rest))], [(16, some (.buf 1 (encB out)))], 50⟩
def f36i (s : List UInt8) : List UInt8 × List UInt8 → Prop
  | (out, rest) => OnT s out rest ∧ out.length + rest.length ≤ s.length

set_option maxRecDepth 100000 in
theorem unq36 (s : List UInt8) (h : s.length ≤ 1099511627) : Does C 36 [.s s] [.s (unqF s).1, .i .i64 (unqF s).2] := by
  refine Does.mk (n := 61) Tryd.func36 rfl rfl rfl (Nat.le_of_ble_eq_true rfl) ?_
  repeat refine seq_on ?_
  refine call_by (trim61 s [34]) ?_
  repeat refine seq_on ?_
  apply loop_inv (f36i s) (f36s s) (fun y => y.2.length) ([], trimP s [34]) ⟨on_start s, by unfold trimP; split <;> simp⟩ [(16, _)]
  · ((repeat' constructor) <;> refine hold ?_ <;> first | with_reducible rfl | (congr 1 <;> omega) | (congr 1 <;> simp; done) | (simp; done) | exact encB_snoc _ _ | skip)
  rintro ⟨out, rest⟩ ⟨hon, hlen⟩
  repeat refine seq_on ?_
  refine cmp_dec (fun h1 => ?_) (fun h1 => ?_)
  · have hl : 1 < rest.length := by omega
    repeat refine seq_on ?_
    refine Eng.get_at 0 rfl (get_d 0 (by omega)) ?_
    have hr0 : ∀ n : Nat, (rest.drop n).length = rest.length - n := fun n => List.length_drop
    refine cmp_dec (fun h2 => ?_) (fun h2 => ?_)
    · repeat refine seq_on ?_
      refine Eng.get_at 0 rfl (get_d 0 (by omega)) ?_
      refine app_ok (by simp only [encB_len, List.length_cons, List.length_nil]; omega) ?_
      refine bnd 1 rfl (by omega) ?_
      refine And.intro (draw_ok (by kernel_rfl)) ?_
      apply again (out ++ [rest.getD 0 0], rest.drop 1) [(16, _)] ⟨on_step hon hl 1 _ (on_one h2), by simp only [List.length_append, List.length_cons, List.length_nil, hr0]; omega⟩ (by show (rest.drop 1).length < rest.length; rw [hr0]; omega)
      ((repeat' constructor) <;> refine hold ?_ <;> first | with_reducible rfl | (congr 1 <;> omega) | (congr 1 <;> simp; done) | (simp; done) | exact encB_snoc _ _ | skip)
    · have h2 : ((rest.getD 0 0).toNat : Int) = 92 := Decidable.not_not.1 h2
      repeat refine seq_on ?_
      refine cmp_dec (fun h3 => ?_) (fun h3 => ?_)
      · refine call_by (has62 rest [92, 117, 48, 48]) ?_
        by_cases h4 : rest.take 4 = [92, 117, 48, 48]
        · rw [show decide (rest.take ([92, 117, 48, 48] : List UInt8).length = [92, 117, 48, 48]) = true from decide_eq_true h4]
          repeat refine seq_on ?_
          refine bnd 6 rfl (by omega) ?_
          refine bnd 4 rfl (by omega) ?_
          have hp := parse_le (base := 16) (most := 255) (s := (rest.take 6).drop 4) (by omega) (by omega)
          refine call_by (parseHex21 _ 255 ⟨by decide, by decide⟩ (by simp only [List.length_drop, List.length_take]; omega)) ?_
          repeat refine seq_on ?_
          refine cmp_dec (fun h5 => ?_) (fun h5 => ?_)
          · repeat refine seq_on ?_
            rw [on_hex_bad hon hl h4 h5]; exact rfl
          · repeat refine seq_on ?_
            refine ar8 hp ?_
            refine app_ok (by simp only [encB_len, List.length_cons, List.length_nil]; omega) ?_
            refine bnd 6 rfl (by omega) ?_
            refine And.intro (draw_ok (by kernel_rfl)) ?_
            apply again (out ++ [UInt8.ofNat (parseF 16 255 ((rest.take 6).drop 4)).1.toNat], rest.drop 6) [(16, _)] ⟨on_hex' hon hl h4, by simp only [List.length_append, List.length_cons, List.length_nil, hr0]; omega⟩ (by show (rest.drop 6).length < rest.length; rw [hr0]; omega)
            ((repeat' constructor) <;> refine hold ?_ <;> first | with_reducible rfl | (congr 1 <;> omega) | (congr 1 <;> simp; done) | (simp; done) | exact encB_snoc _ _ | skip)
            rw [← encB_snoc]
            refine congrArg (fun x => encB out ++ [D.i .u8 x]) ?_
            rw [UInt8.toNat_ofNat']
            omega
        · rw [show decide (rest.take ([92, 117, 48, 48] : List UInt8).length = [92, 117, 48, 48]) = false from decide_eq_false h4]
          refine Eng.get_at 1 rfl (get_d 0 (by omega)) ?_
          refine app_ok (by simp only [encB_len, List.length_cons, List.length_nil]; omega) ?_
          refine bnd 2 rfl (by omega) ?_
          refine And.intro (draw_ok (by kernel_rfl)) ?_
          apply again (out ++ [rest.getD 1 0], rest.drop 2) [(16, _)] ⟨on_two' hon hl h2 (fun h => absurd h h4), by simp only [List.length_append, List.length_cons, List.length_nil, hr0]; omega⟩ (by show (rest.drop 2).length < rest.length; rw [hr0]; omega)
          ((repeat' constructor) <;> refine hold ?_ <;> first | with_reducible rfl | (congr 1 <;> omega) | (congr 1 <;> simp; done) | (simp; done) | exact encB_snoc _ _ | skip)
      · repeat refine seq_on ?_
        refine Eng.get_at 1 rfl (get_d 0 (by omega)) ?_
        refine app_ok (by simp only [encB_len, List.length_cons, List.length_nil]; omega) ?_
        refine bnd 2 rfl (by omega) ?_
        refine And.intro (draw_ok (by kernel_rfl)) ?_
        apply again (out ++ [rest.getD 1 0], rest.drop 2) [(16, _)] ⟨on_two' hon hl h2 (fun h => fun h' => h3 (by omega)), by simp only [List.length_append, List.length_cons, List.length_nil, hr0]; omega⟩ (by show (rest.drop 2).length < rest.length; rw [hr0]; omega)
        ((repeat' constructor) <;> refine hold ?_ <;> first | with_reducible rfl | (congr 1 <;> omega) | (congr 1 <;> simp; done) | (simp; done) | exact encB_snoc _ _ | skip)
  · repeat refine seq_on ?_
    refine bytes_is out rfl ?_
    refine call_by (quote34 out (by omega)) ?_
    refine cmp_dec (fun h2 => ?_) (fun h2 => ?_)
    · repeat refine seq_on ?_
      rw [on_end hon (by omega) h2]; exact rfl
    · have h2 : quoteF out = s := Decidable.not_not.1 h2
      repeat refine seq_on ?_
      refine bytes_is out rfl ?_
      rw [← h2, unq_yes]; exact rfl
end Go.Proofs.YtpogmmcfkdofhaaDoor
