import Derived.Test.YtpogmmcfkdofhaaDoorMj
namespace Go.Proofs.YtpogmmcfkdofhaaDoor
open Go.Eng
attribute [local irreducible] Hold
set_option maxRecDepth 100000

/-- A record that the law made. -/
structure Good (x : Rec) : Prop where
  ser : 1 ≤ x.ser ∧ x.ser ≤ 1000000000
  exc : 0 ≤ x.exc ∧ x.exc < 50
  rea : 1 ≤ x.rea ∧ x.rea ≤ 7
  len : x.fl.length ≤ 2
  mem : ∀ y, y ∈ x.fl → y ∈ words3

structure Out where
  exc : Nat
  rea : Nat
  s : Bool
  b : Bool
  f : List (List UInt8)
  j : Nat
def Out.mk1 (o : Out) (ser : Int) : Rec := ⟨ser, o.exc, 1 + o.rea, o.s, o.b, o.f⟩

def stepM (l : List Int) (i : Nat) (o : Out) : Prop :=
  i < o.j ∧ o.j ≤ l.length ∧ o.exc < 50 ∧ o.rea < 7 ∧ o.f.length ≤ 2 ∧ (∀ x, x ∈ o.f → x ∈ words3) ∧
  DoesH C 67 [.op 0 0 0, .d (.i .i64 50)] (srcB l i) [.d (.i .i64 (o.exc : Int))] (srcB l (nxt l i)) ∧
  DoesH C 67 [.op 0 0 0, .d (.i .i64 7)] (srcB l (nxt l i)) [.d (.i .i64 (o.rea : Int))] (srcB l (nxt l (nxt l i))) ∧
  DoesH C 68 [.op 0 0 0] (srcB l (nxt l (nxt l i))) [.d (difD o.s o.b o.f)] (srcB l o.j)

theorem step_ex (l : List Int) (hl : l.length ≤ 1000000) (i : Nat) (hi : i < l.length) : ∃ o, stepM l i o := by
  obtain ⟨r1, h1, d1⟩ := next67 l i 50 (by omega) hl (by omega)
  have n1 := nxt_le l i (by omega)
  obtain ⟨r2, h2, d2⟩ := next67 l (nxt l i) 7 n1 hl (by omega)
  have n2 := nxt_le l _ n1
  obtain ⟨s, b, f, j, h3, h4, h5, h6, d3⟩ := diff68 l _ n2 hl
  have g1 : nxt l i = i + 1 := by unfold nxt; rw [if_pos hi]
  have g2 := nxt_ge l (nxt l i)
  exact ⟨⟨r1, r2, s, b, f, j⟩, by show i < j; omega, h4, by show r1 < 50; omega, by show r2 < 7; omega, h5, h6, d1, d2, d3⟩

def walkM (n : Nat) (cap : Int) (D : Nat → Out) : Nat → Nat → Int → List Rec → Int × List Rec
  | 0, _, ser, rs => (ser, rs)
  | k + 1, i, ser, rs => if i < n then walkM n cap D k (D i).j (serF ser) (lastF cap (rs ++ [(D i).mk1 (serF ser)])) else (ser, rs)

theorem walkM_ok (n : Nat) (cap : Int) (D : Nat → Out) (l : List Int) (hn : n = l.length) (hD : ∀ i, i < n → stepM l i (D i)) : ∀ (k i : Nat) (ser : Int) (rs : List Rec), 0 ≤ ser ∧ ser ≤ 1000000000 → (∀ x, x ∈ rs → Good x) →
    (0 ≤ (walkM n cap D k i ser rs).1 ∧ (walkM n cap D k i ser rs).1 ≤ 1000000000) ∧ (walkM n cap D k i ser rs).2.length ≤ rs.length + k ∧ ∀ x, x ∈ (walkM n cap D k i ser rs).2 → Good x
  | 0, i, ser, rs, h1, h3 => ⟨h1, Nat.le_refl _, h3⟩
  | k + 1, i, ser, rs, h1, h3 => by
    simp only [walkM]
    split
    · rename_i hi
      obtain ⟨g1, g2, g3, g4, g5, g6, _⟩ := hD i hi
      have hs : 1 ≤ serF ser ∧ serF ser ≤ 1000000000 := by unfold serF; split <;> omega
      obtain ⟨a1, a2, a3⟩ := walkM_ok n cap D l hn hD k (D i).j (serF ser) (lastF cap (rs ++ [(D i).mk1 (serF ser)])) (by omega) (fun x hx => by
        have := lastF_mem _ _ _ hx
        rcases List.mem_append.1 this with hx | hx
        · exact h3 x hx
        · simp at hx; subst hx
          exact ⟨hs, by show 0 ≤ ((D i).exc : Int) ∧ ((D i).exc : Int) < 50; omega, by show 1 ≤ 1 + ((D i).rea : Int) ∧ 1 + ((D i).rea : Int) ≤ 7; omega, g5, g6⟩)
      have hll := lastF_len cap (rs ++ [(D i).mk1 (serF ser)])
      simp at hll
      exact ⟨a1, by omega, a3⟩
    · exact ⟨h1, by simp only; omega, h3⟩

def f40s (l : List Int) (cap : Int) (x : Nat × Int × List Rec) : AS :=
  ⟨[(4, .op 16 0 0), (5, .op 17 0 0), (6, .op 18 0 0), (7, .op 19 0 0), (8, .op 20 0 0)],
   [(16, some (.box [.d (.i .i64 0), .d (.i .i64 0), .nl 6])), (17, some (.box [.d (.i .i64 0), .d (.i .i64 0), .nl 6])), (18, some (.box [.d (ints l), .d (.i .i64 (x.1 : Int))])),
    (19, some (.box [.d (.i .i64 cap), .d (.i .i64 x.2.1), .d (recs x.2.2)])), (20, some (.box [.d (.i .i64 cap), .d (.i .i64 x.2.1), .d (recs x.2.2)]))], 2⟩

theorem made40 (l : List Int) (most : Int) : ∃ (ser : Int) (rs : List Rec), (0 ≤ ser ∧ ser ≤ 1000000000) ∧ rs.length ≤ 120 ∧ (∀ x, x ∈ rs → Good x) ∧
    Does C 40 [ints l, .i .i64 most] [repD (capOf most) ser rs, repD (capOf most) ser rs] := by
  have h51 := cut51 l 120
  have ht : (l.take 120).length ≤ 120 := by rw [List.length_take]; omega
  generalize l.take 120 = m at ht h51
  obtain ⟨D, hD⟩ : ∃ D : Nat → Out, ∀ i, i < m.length → stepM m i (D i) :=
    ⟨fun i => if h : i < m.length then (step_ex m (by omega) i h).choose else ⟨0, 0, false, false, [], 0⟩, fun i h => by simp only [h, dif_pos]; exact (step_ex m (by omega) i h).choose_spec⟩
  have hcap : 0 ≤ capOf most ∧ capOf most ≤ 10000 := by unfold capOf; omega
  have hn1 := new50 most
  have hn2 := new65 most
  generalize capOf most = cap at hcap hn1 hn2 ⊢
  generalize hfin : walkM m.length cap D m.length 0 0 [] = fin
  obtain ⟨w1, w2, w3⟩ := walkM_ok m.length cap D m rfl hD m.length 0 0 [] (by omega) (fun x hx => by cases hx)
  rw [hfin] at w1 w2 w3
  refine ⟨fin.1, fin.2, w1, by simp at w2; omega, w3, ?_⟩
  refine Does.mk (n := 41) Tryd.func40 rfl rfl rfl (Nat.le_of_ble_eq_true rfl) ?_
  refine call_by h51 ?_
  refine call_by hn1 ?_
  refine call_by hn2 ?_
  repeat refine seq_on ?_
  apply loop_inv (fun x : Nat × Int × List Rec => x.1 ≤ m.length ∧ (0 ≤ x.2.1 ∧ x.2.1 ≤ 1000000000) ∧ x.2.2.length ≤ x.1 ∧ (∀ y, y ∈ x.2.2 → Good y) ∧ ∃ k, m.length ≤ k + x.1 ∧ walkM m.length cap D k x.1 x.2.1 x.2.2 = fin)
    (f40s m cap) (fun x => m.length - x.1) (0, 0, []) ⟨Nat.zero_le _, by simp only; omega, Nat.le_refl _, (fun y hy => by cases hy), m.length, by simp, hfin⟩ [(16, _), (17, _), (18, _), (19, _), (20, _)]
  · ((repeat' constructor) <;> refine hold ?_ <;> first | with_reducible rfl | (congr 1 <;> omega) | (congr 1 <;> simp; done) | (simp; done) | exact encB_snoc _ _ | skip)
  rintro ⟨i, ser, rs⟩ ⟨hi, hs, hrl, hg, k, hk, hw⟩
  simp only at hi hs hrl hg hk hw
  have hL := left66 m i
  repeat refine seq_on ?_
  by_cases hi' : i < m.length
  · rw [decide_eq_true (show (i : Int) < (m.length : Int) by omega)] at hL
    obtain ⟨g1, g2, g3, g4, g5, g6, d1, d2, d3⟩ := hD i hi'
    obtain ⟨k, rfl⟩ : ∃ k', k = k' + 1 := ⟨k - 1, by omega⟩
    simp only [walkM, if_pos hi'] at hw
    refine callh [(0, 18)] hL ?_ ?_
    · ((repeat' constructor) <;> refine hold ?_ <;> first | with_reducible rfl | (congr 1 <;> omega) | (congr 1 <;> simp; done) | (simp; done) | exact encB_snoc _ _ | skip)
    repeat refine seq_on ?_
    refine callh [(0, 18)] d1 ?_ ?_
    · ((repeat' constructor) <;> refine hold ?_ <;> first | with_reducible rfl | (congr 1 <;> omega) | (congr 1 <;> simp; done) | (simp; done) | exact encB_snoc _ _ | skip)
    repeat refine seq_on ?_
    refine callh [(0, 18)] d2 ?_ ?_
    · ((repeat' constructor) <;> refine hold ?_ <;> first | with_reducible rfl | (congr 1 <;> omega) | (congr 1 <;> simp; done) | (simp; done) | exact encB_snoc _ _ | skip)
    refine ar ⟨by omega, by omega⟩ ?_
    refine callh [(0, 18)] d3 ?_ ?_
    · ((repeat' constructor) <;> refine hold ?_ <;> first | with_reducible rfl | (congr 1 <;> omega) | (congr 1 <;> simp; done) | (simp; done) | exact encB_snoc _ _ | skip)
    repeat refine seq_on ?_
    refine call_by (add52 cap ser (D i).exc (1 + (D i).rea) (D i).s (D i).b (D i).f rs (by omega) ⟨by omega, by omega⟩ ⟨by omega, by omega⟩ (by omega) (fun x hx => by have := (hg x hx).len; omega)) ?_
    refine call_by (add43 cap ser (D i).exc (1 + (D i).rea) (D i).s (D i).b (D i).f rs (by omega) ⟨by omega, by omega⟩ ⟨by omega, by omega⟩) ?_
    refine ⟨draw_ok (by kernel_rfl), ?_⟩
    repeat refine seq_on ?_
    have hss : 1 ≤ serF ser ∧ serF ser ≤ 1000000000 := by unfold serF; split <;> omega
    have hll := lastF_len cap (rs ++ [(D i).mk1 (serF ser)])
    apply again ((D i).j, serF ser, lastF cap (rs ++ [(D i).mk1 (serF ser)])) [(16, _), (17, _), (18, _), (19, _), (20, _)] ⟨g2, by simp only; omega, by simp at hll ⊢; omega, fun y hy => by
      have := lastF_mem _ _ _ hy
      rcases List.mem_append.1 this with hy | hy
      · exact hg y hy
      · simp at hy; subst hy
        exact ⟨hss, by show 0 ≤ ((D i).exc : Int) ∧ ((D i).exc : Int) < 50; omega, by show 1 ≤ 1 + ((D i).rea : Int) ∧ 1 + ((D i).rea : Int) ≤ 7; omega, g5, g6⟩, k, by simp only; omega, hw⟩ (by simp only; omega)
    ((repeat' constructor) <;> refine hold ?_ <;> first | with_reducible rfl | (congr 1 <;> omega) | (congr 1 <;> simp; done) | (simp; done) | exact encB_snoc _ _ | skip)
  · rw [decide_eq_false (show ¬ (i : Int) < (m.length : Int) by omega)] at hL
    have hfe : fin = (ser, rs) := by
      rw [← hw]
      cases k with
      | zero => rfl
      | succ k => simp only [walkM, if_neg hi']
    refine callh [(0, 18)] hL ?_ ?_
    · ((repeat' constructor) <;> refine hold ?_ <;> first | with_reducible rfl | (congr 1 <;> omega) | (congr 1 <;> simp; done) | (simp; done) | exact encB_snoc _ _ | skip)
    repeat refine seq_on ?_
    refine ⟨draw_ok (by kernel_rfl), ?_⟩
    rw [hfe]
    rfl
end Go.Proofs.YtpogmmcfkdofhaaDoor

namespace Go.Proofs.YtpogmmcfkdofhaaDoor
open Go.Eng
attribute [local irreducible] Hold
set_option maxRecDepth 100000

def s87s (l : List (List UInt8)) (i : Nat) : AS := ⟨[(0, .d (strs l)), (1, .d (strs l)), (5, .d (.i .i64 (i : Int)))], [], 2⟩
theorem same87 (l : List (List UInt8)) (h : l.length ≤ 68719476736) : Does C 87 [strs l, strs l] [.b true] := by
  have hlen : (l.map D.s).length = l.length := by simp
  refine Does.mk (n := 26) Tryd.func87 rfl rfl rfl (Nat.le_of_ble_eq_true rfl) ?_
  repeat refine seq_on ?_
  refine cmp_no (fun h => h rfl) ?_
  repeat refine seq_on ?_
  apply loop_inv (fun i => i ≤ l.length) (s87s l) (fun i => l.length - i) 0 (Nat.zero_le _) []
  · ((repeat' constructor) <;> refine hold ?_ <;> first | with_reducible rfl | (congr 1 <;> omega) | (congr 1 <;> simp; done) | (simp; done) | exact encB_snoc _ _ | skip)
  intro i hi
  repeat refine seq_on ?_
  refine cmp_dec (fun h => ?_) (fun h => ?_)
  · have hi' : i < l.length := by omega
    repeat refine seq_on ?_
    refine Eng.get_at i rfl (x := .s l[i]) (by simp [hi']) ?_
    refine Eng.get_at i rfl (x := .s l[i]) (by simp [hi']) ?_
    refine cmp_no (fun h => h rfl) ?_
    refine ⟨draw_ok (by kernel_rfl), ?_⟩
    repeat refine seq_on ?_
    refine ar ⟨by omega, by omega⟩ ?_
    apply again (i + 1) [] (by omega) (by omega)
    ((repeat' constructor) <;> refine hold ?_ <;> first | with_reducible rfl | (congr 1 <;> omega) | (congr 1 <;> simp; done) | (simp; done) | exact encB_snoc _ _ | skip)
  · repeat refine seq_on ?_
    rfl

theorem same69 (s b : Bool) (f : List (List UInt8)) (h : f.length ≤ 68719476736) : Does C 69 [difD s b f, difD s b f] [.b true] := by
  refine Does.mk (n := 24) Tryd.func69 rfl rfl rfl (Nat.le_of_ble_eq_true rfl) ?_
  refine cmp_is true (by simp) ?_
  refine cmp_is true (by simp) ?_
  refine call_by (same87 f h) ?_
  rfl

def s41s (cap ser : Int) (l : List Rec) (i : Nat) : AS :=
  ⟨[(2, .op 16 0 0), (3, .op 17 0 0), (5, .d (.i .i64 (i : Int)))], [(16, some (.box [.d (.i .i64 cap), .d (.i .i64 ser), .d (recs l)])), (17, some (.box [.d (.i .i64 cap), .d (.i .i64 ser), .d (recs l)]))], 2⟩
theorem same41 (cap ser : Int) (l : List Rec) (h : l.length ≤ 68719476736) (hf : ∀ x, x ∈ l → x.fl.length ≤ 68719476736) : Does C 41 [repD cap ser l, repD cap ser l] [.b true] := by
  have hlen : (l.map recD).length = l.length := by simp
  refine Does.mk (n := 73) Tryd.func41 rfl rfl rfl (Nat.le_of_ble_eq_true rfl) ?_
  repeat refine seq_on ?_
  refine cmp_no (fun h => h rfl) ?_
  refine cmp_no (fun h => h rfl) ?_
  refine cmp_no (fun h => h rfl) ?_
  repeat refine seq_on ?_
  apply loop_inv (fun i => i ≤ l.length) (s41s cap ser l) (fun i => l.length - i) 0 (Nat.zero_le _) [(16, _), (17, _)]
  · ((repeat' constructor) <;> refine hold ?_ <;> first | with_reducible rfl | (congr 1 <;> omega) | (congr 1 <;> simp; done) | (simp; done) | exact encB_snoc _ _ | skip)
  intro i hi
  repeat refine seq_on ?_
  refine cmp_dec (fun h => ?_) (fun h => ?_)
  · have hi' : i < l.length := by omega
    repeat refine seq_on ?_
    refine Eng.get_at i rfl (x := recD l[i]) (by simp [hi']) ?_
    refine Eng.get_at i rfl (x := recD l[i]) (by simp [hi']) ?_
    refine ⟨draw_ok (by kernel_rfl), ?_⟩
    repeat refine seq_on ?_
    refine cmp_no (fun h => h rfl) ?_
    refine cmp_no (fun h => h rfl) ?_
    refine cmp_no (fun h => h rfl) ?_
    refine call_by (same69 l[i].st l[i].bo l[i].fl (hf _ (List.getElem_mem hi'))) ?_
    repeat refine seq_on ?_
    refine ar ⟨by omega, by omega⟩ ?_
    apply again (i + 1) [(16, _), (17, _)] (by omega) (by omega)
    ((repeat' constructor) <;> refine hold ?_ <;> first | with_reducible rfl | (congr 1 <;> omega) | (congr 1 <;> simp; done) | (simp; done) | exact encB_snoc _ _ | skip)
  · repeat refine seq_on ?_
    rfl

theorem law12 (l : List Int) (most : Int) (raw : Bool) : Does C 12 [ints l, .i .i64 most, .b raw] [.b true] := by
  obtain ⟨m, hm, h1⟩ := within38 most 8 (by omega)
  have fin : ∀ k : Int, ∃ ser rs, Does C 40 [ints l, .i .i64 k] [repD (capOf k) ser rs, repD (capOf k) ser rs] ∧ Does C 41 [repD (capOf k) ser rs, repD (capOf k) ser rs] [.b true] := by
    intro k
    obtain ⟨ser, rs, h2, h3, h4, h5⟩ := made40 l k
    exact ⟨ser, rs, h5, same41 _ _ rs (by omega) (fun x hx => by have := (h4 x hx).len; omega)⟩
  cases raw
  · obtain ⟨ser, rs, h2, h3⟩ := fin m
    refine Does.mk (n := 25) Tryd.func12 rfl rfl rfl (Nat.le_of_ble_eq_true rfl) ?_
    repeat refine seq_on ?_
    refine call_by h1 ?_
    repeat refine seq_on ?_
    refine call_by h2 ?_
    repeat refine seq_on ?_
    refine call_by h3 ?_
    refine call_by awake42 ?_
    rfl
  · obtain ⟨ser, rs, h2, h3⟩ := fin most
    refine Does.mk (n := 25) Tryd.func12 rfl rfl rfl (Nat.le_of_ble_eq_true rfl) ?_
    repeat refine seq_on ?_
    refine call_by h2 ?_
    repeat refine seq_on ?_
    refine call_by h3 ?_
    refine call_by awake42 ?_
    rfl
end Go.Proofs.YtpogmmcfkdofhaaDoor

