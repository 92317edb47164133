import Derived.Test.YtpogmmcfkdofhaaDoorNumH
namespace Go.Proofs.YtpogmmcfkdofhaaDoor
open Go.Eng
attribute [local irreducible] Hold

def pos : List Int → Int
  | [] => 0
  | n :: l => max n 0 + pos l
theorem pos_lo (l : List Int) : 0 ≤ pos l := by
  induction l with
  | nil => exact Int.le_refl _
  | cons n l ih => simp only [pos]; omega
theorem addF_min (m : Int) (l : List Int) (s : Int) (h : 0 ≤ s ∧ s ≤ m) : addF m l s = min m (s + pos l) := by
  induction l generalizing s with
  | nil => simp only [addF, pos]; omega
  | cons n l ih =>
    simp only [addF, pos]
    rw [ih _ (by omega)]
    have := pos_lo l
    omega
theorem add_min (most : Int) (l : List Int) : addF (max most 0) l 0 = min (max most 0) (pos l) := by
  rw [addF_min _ _ _ (by omega)]; omega

theorem law6 (most : Int) (l : List Int) (h : I64 most) (hl : l.length ≤ 9223372036854775807) : Does C 6 [.i .i64 most, ints l] [.b true] := by
  have hp := pos_lo l
  refine Does.mk (n := 30) Tryd.func6 rfl rfl rfl (Nat.le_of_ble_eq_true rfl) ?_
  refine call_by (add25 most l h (by omega)) ?_
  refine call_by (add26 most l h hl) ?_
  rw [add_min]
  refine cmp_yes rfl ?_
  refine cmp_yes (by omega) ?_
  refine cmp_dec (fun h1 => ?_) (fun h1 => ?_)
  · refine call_by awake22 ?_
    exact rfl
  · refine cmp_yes (by omega) ?_
    refine call_by awake22 ?_
    exact rfl

set_option maxRecDepth 100000 in
theorem law7 (most a b c : Int) (h : I64 most) : Does C 7 [.i .i64 most, .i .i64 a, .i .i64 b, .i .i64 c] [.b true] := by
  refine Does.mk (n := 43) Tryd.func7 rfl rfl rfl (Nat.le_of_ble_eq_true rfl) ?_
  refine call_by (add25 most [a, b, c] h (by simp)) ?_
  refine call_by (add25 most [c, a, b] h (by simp)) ?_
  rw [add_min, add_min]
  refine cmp_yes (by simp only [pos]; omega) ?_
  refine call_by (add25 most [a, b] h (by simp)) ?_
  refine call_by (add25 most [addF (max most 0) [a, b] 0, c] h (by simp)) ?_
  refine call_by (add25 most [a, b, c] h (by simp)) ?_
  refine cmp_yes ?_ ?_
  · rw [add_min, add_min, add_min]; simp only [pos]; omega
  refine call_by awake22 ?_
  exact rfl

theorem digs_len (b : Nat) (hb : 2 ≤ b) (u : Nat) : (digs b u).length ≤ 2 + u / 2 := by
  induction u using Nat.strongRecOn with
  | _ u ih =>
    by_cases h : u < b
    · rw [digs_one h]; simp only [List.length_cons, List.length_nil]; omega
    · rw [digs_more hb h]
      have := ih (u / b) (Nat.div_lt_self (by omega) (by omega))
      have h2 : u / b ≤ u / 2 := Nat.div_le_div_left hb (by omega)
      simp only [List.length_append, List.length_cons, List.length_nil]
      omega
theorem print_len (b : Nat) (hb : 2 ≤ b) (n : Int) (h : n ≤ 9223372036854775807) : (printF b n).length ≤ 4611686018427387906 := by
  unfold printF
  split
  · simp
  · have := digs_len b hb n.toNat
    omega

theorem law3 (n : Int) (h : I64 n) : Does C 3 [.i .i64 n] [.b true] := by
  have hlen : ∀ b : Nat, b = 10 ∨ b = 16 → (printF b n).length ≤ 9223372036854775807 := by
    rintro b (rfl | rfl)
    · have := print_len 10 (by omega) n h.2; omega
    · have := print_len 16 (by omega) n h.2; omega
  refine Does.mk (n := 73) Tryd.func3 rfl rfl rfl (Nat.le_of_ble_eq_true rfl) ?_
  refine call_by (dec16 n h) ?_
  refine call_by (hex17 n h) ?_
  repeat refine seq_on ?_
  refine call_by (dec18 n h) ?_
  refine cmp_no (fun h => h rfl) ?_
  refine call_by (hex19 n h) ?_
  refine cmp_no (fun h => h rfl) ?_
  repeat refine seq_on ?_
  refine call_by (parseDec20 _ n h (hlen 10 (.inl rfl))) ?_
  refine call_by (parseHex21 _ n h (hlen 16 (.inr rfl))) ?_
  repeat refine seq_on ?_
  refine cmp_dec (fun h1 => ?_) (fun h1 => ?_)
  · have e : ∀ b : Nat, parseF b n (printF b n) = (0, 2) := fun b => parseF_bad (.inr (by unfold printF; rw [if_pos h1]))
    have e10 := e 10
    have e16 := e 16
    refine cmp_yes (by exact congrArg Prod.snd e10) ?_
    refine cmp_yes (by exact congrArg Prod.snd e16) ?_
    refine cmp_yes (by exact congrArg Prod.fst e10) ?_
    refine cmp_yes (by exact congrArg Prod.fst e16) ?_
    refine call_by awake22 ?_
    exact rfl
  · have e : ∀ b : Nat, 2 ≤ b ∧ b ≤ 16 → parseF b n (printF b n) = (n, 0) := by
      intro b hb
      obtain ⟨u, rfl⟩ : ∃ u : Nat, n = u := ⟨n.toNat, by omega⟩
      unfold printF; rw [if_neg h1]
      show parseF b u (digs b u) = _
      rw [parse_digs b hb u (by omega) u, if_pos (Int.le_refl _)]
    have e10 := e 10 (by omega)
    have e16 := e 16 (by omega)
    refine cmp_yes (by exact congrArg Prod.snd e10) ?_
    refine cmp_yes (by exact congrArg Prod.snd e16) ?_
    refine cmp_yes (by exact congrArg Prod.fst e10) ?_
    refine cmp_yes (by exact congrArg Prod.fst e16) ?_
    refine call_by awake22 ?_
    exact rfl

theorem and_i64 (x : Int) : 0 ≤ bitsOp .and .i64 x 4611686018427387903 ∧ bitsOp .and .i64 x 4611686018427387903 ≤ 4611686018427387903 := by
  have h : (BitVec.ofInt 64 x &&& BitVec.ofInt 64 4611686018427387903).toNat ≤ 4611686018427387903 := by
    rw [BitVec.toNat_and]
    exact Nat.and_le_right
  have e : bitsOp .and .i64 x 4611686018427387903 = IntKind.i64.wrap (((BitVec.ofInt 64 x &&& BitVec.ofInt 64 4611686018427387903).toNat : Nat) : Int) := rfl
  rw [e, wrap_id64 (by omega) (by omega)]
  omega

theorem two (b : Nat) (hb : b = 10 ∨ b = 16) (x m : Int) (hx : 0 ≤ x) (hm : 0 ≤ m) :
    parseF b m (printF b x) = (if x ≤ m then (x, 0) else (0, 3)) ∧ parseF b m (48 :: 48 :: printF b x) = (if x ≤ m then (x, 0) else (0, 3)) := by
  obtain ⟨u, rfl⟩ : ∃ u : Nat, x = u := ⟨x.toNat, by omega⟩
  unfold printF; rw [if_neg (by omega)]
  exact ⟨parse_digs b (by omega) m hm u, parse_zeros b (by omega) m hm u⟩

theorem law5x (x m : Int) (hx : 0 ≤ x ∧ x ≤ 4611686018427387903) (hm : 0 ≤ m ∧ m ≤ 4611686018427387903) : I64 x ∧ I64 m ∧ (printF 10 x).length ≤ 4611686018427387906 ∧ (printF 16 x).length ≤ 4611686018427387906 :=
  ⟨⟨by omega, by omega⟩, ⟨by omega, by omega⟩, print_len 10 (by omega) x (by omega), print_len 16 (by omega) x (by omega)⟩

set_option maxRecDepth 100000 in
theorem law5 (n most : Int) : Does C 5 [.i .i64 n, .i .i64 most] [.b true] := by
  refine Does.mk (n := 67) Tryd.func5 rfl rfl rfl (Nat.le_of_ble_eq_true rfl) ?_
  have hn := and_i64 n
  have hm := and_i64 most
  obtain ⟨ix, im, l10, l16⟩ := law5x _ _ hn hm
  have e10 := (two 10 (.inl rfl) _ _ hn.1 hm.1).2
  have e16 := (two 16 (.inr rfl) _ _ hn.1 hm.1).1
  refine call_by (dec16 _ ix) ?_
  refine len_ok (by simp only [List.length_cons, List.length_nil]; omega) ?_
  refine call_by (parseDec20 (48 :: 48 :: printF 10 (bitsOp .and .i64 n 4611686018427387903)) _ im (by simp only [List.length_cons]; omega)) ?_
  refine call_by (hex17 _ ix) ?_
  refine call_by (parseHex21 _ _ im (by omega)) ?_
  repeat refine seq_on ?_
  refine cmp_dec (fun h1 => ?_) (fun h1 => ?_)
  · rw [if_neg (by omega)] at e10 e16
    refine cmp_yes (by exact congrArg Prod.snd e10) ?_
    refine cmp_yes (by exact congrArg Prod.snd e16) ?_
    refine cmp_yes (by exact congrArg Prod.fst e10) ?_
    refine cmp_yes (by exact congrArg Prod.fst e16) ?_
    refine call_by awake22 ?_
    exact rfl
  · rw [if_pos (by omega)] at e10 e16
    refine cmp_yes (by exact congrArg Prod.snd e10) ?_
    refine cmp_yes (by exact congrArg Prod.snd e16) ?_
    refine cmp_yes (by exact congrArg Prod.fst e10) ?_
    refine cmp_yes (by exact congrArg Prod.fst e16) ?_
    refine call_by awake22 ?_
    exact rfl

def f4s (ds : List UInt8) (most : Int) : Nat × List UInt8 → AS
  | (i, t) => ⟨[(2, .d (.i .i64 most)), (1, .d (.sl 1 (encB ds))), (9, .os 16), (10, .d (.i .i64 (i : Int)))], [(16, some (.buf 1 (encB t)))], 50⟩
def f4i (ds : List UInt8) : Nat × List UInt8 → Prop
  | (i, t) => i ≤ ds.length ∧ i ≤ 24 ∧ t.length = i
theorem encB_get {l : List UInt8} {i : Nat} (h : i < l.length) : (encB l)[i]? = some (.i .u8 ((l.getD i 0).toNat : Int)) := by simp [encB, h]
theorem encB_snoc (l : List UInt8) (c : UInt8) : encB l ++ [.i .u8 (c.toNat : Int)] = encB (l ++ [c]) := by simp [encB]
theorem encB_len (l : List UInt8) : (encB l).length = l.length := by simp [encB]

theorem law4a (s ds : List UInt8) (most : Int) (wild : Bool) (h : I64 most) (hs : s.length ≤ 9223372036854775807) : Does C 4 [.s s, .sl 1 (encB ds), .i .i64 most, .b wild] [.b true] := by
  refine Does.mk (n := 87) Tryd.func4 rfl rfl rfl (Nat.le_of_ble_eq_true rfl) ?_
  refine seq_inv (fun s' : List UInt8 => s'.length ≤ 9223372036854775807) (fun s' => ⟨[(0, .d (.s s')), (2, .d (.i .i64 most))], [], 100⟩) ?_ ?_
  · cases wild
    · repeat refine seq_on ?_
      refine loop_inv (f4i ds) (f4s ds most) (fun y => 24 - y.1) (0, []) ⟨by omega, by omega, rfl⟩ [(16, 64)] ?_ ?_
      · ((repeat' constructor) <;> refine hold ?_ <;> first | with_reducible rfl | (congr 1 <;> omega) | (congr 1 <;> simp; done) | (simp; done) | exact encB_snoc _ _ | skip)
      rintro ⟨i, t⟩ ⟨hi, hi', ht⟩
      have hlen := encB_len ds
      repeat refine seq_on ?_
      refine cmp_dec (fun h1 => ?_) (fun h1 => ?_)
      · refine cmp_dec (fun h2 => ?_) (fun h2 => ?_)
        · repeat refine seq_on ?_
          have hlt : (ds.getD i 0).toNat % 23 < 23 := Nat.mod_lt _ (by decide)
          refine Eng.get_at i rfl (encB_get (by omega)) ?_
          refine div_ok (by decide) ?_
          obtain ⟨ch, hch⟩ : ∃ ch, (ByteArray.mk #[48, 49, 50, 51, 52, 53, 54, 55, 56, 57, 97, 98, 99, 100, 101, 102, 65, 66, 67, 68, 69, 70, 45]).data.toList[(ds.getD i 0).toNat % 23]? = some ch := ⟨_, get_d 0 hlt⟩
          refine Eng.get_at ((ds.getD i 0).toNat % 23) rfl hch ?_
          refine app_ok (by simp [encB_len]; omega) ?_
          refine ar ⟨by omega, by omega⟩ ?_
          refine again (i + 1, t ++ [ch]) [(16, 1056)] ⟨by omega, by omega, by simp [ht]⟩ (by show 24 - (i + 1) < 24 - i; omega) ?_
          ((repeat' constructor) <;> refine hold ?_ <;> first | with_reducible rfl | (congr 1 <;> omega) | (congr 1 <;> simp; done) | (simp; done) | exact encB_snoc _ _ | skip)
        · repeat refine seq_on ?_
          refine bytes_is t rfl ?_
          refine cut_inv t [] (by omega) ?_
          ((repeat' constructor) <;> refine hold ?_ <;> first | with_reducible rfl | (congr 1 <;> omega) | (congr 1 <;> simp; done) | (simp; done) | exact encB_snoc _ _ | skip)
      · repeat refine seq_on ?_
        refine bytes_is t rfl ?_
        refine cut_inv t [] (by omega) ?_
        ((repeat' constructor) <;> refine hold ?_ <;> first | with_reducible rfl | (congr 1 <;> omega) | (congr 1 <;> simp; done) | (simp; done) | exact encB_snoc _ _ | skip)
    · repeat refine seq_on ?_
      refine cut_inv s [] hs ?_
      ((repeat' constructor) <;> refine hold ?_ <;> first | with_reducible rfl | (congr 1 <;> omega) | (congr 1 <;> simp; done) | (simp; done) | exact encB_snoc _ _ | skip)
  intro s' hs'
  repeat refine seq_on ?_
  refine call_by (parseDec20 s' most h hs') ?_
  refine call_by (parseDec23 s' most h hs') ?_
  refine call_by (parseHex21 s' most h hs') ?_
  refine call_by (parseHex24 s' most h hs') ?_
  refine cmp_yes rfl ?_
  refine cmp_yes rfl ?_
  refine cmp_yes rfl ?_
  refine cmp_yes rfl ?_
  refine call_by awake22 ?_
  exact rfl
end Go.Proofs.YtpogmmcfkdofhaaDoor
