import Derived.Test.YtbfkfmpfdafogaaGreatDoorMdf2
namespace Go.Proofs.YtbfkfmpfdafogaaGreatDoor
variable {G : List Go.Eng.Gl}
open Go.Eng
attribute [local irreducible] Hold
set_option maxRecDepth 100000

/-! Compare. -/
def dfF (a b : List Fld) (n : Nm) : Bool := decide (fstV a n ≠ fstV b n)
def bodyF (a b : Sn) : Bool := decide (a.sz ≠ b.sz) || decide (a.sum ≠ b.sum)
def nmsDF (a b : List Fld) : List Nm := (distF (nmsF (a ++ b))).filter (dfF a b)
def cmpD (a b : Sn) : D := difD (decide (a.st ≠ b.st)) (bodyF a b) (nmsDF a.fs b.fs)
theorem filt_step {p : Nm → Bool} {l : List Nm} {i : Nat} (h : i < l.length) (hp : p l[i] = true) : (l.take (i + 1)).filter p = (l.take i).filter p ++ [l[i]] := by
  rw [List.take_succ_eq_append_getElem h, List.filter_append]
  simp [hp]
theorem filt_keep {p : Nm → Bool} {l : List Nm} {i : Nat} (h : i < l.length) (hp : p l[i] = false) : (l.take (i + 1)).filter p = (l.take i).filter p := by
  rw [List.take_succ_eq_append_getElem h, List.filter_append]
  simp [hp]
theorem dfF_of {a b : List Fld} {n x y : Nm} {u v : Bool} (h1 : fstV a n = (x, u)) (h2 : fstV b n = (y, v)) : dfF a b n = (decide (u ≠ v) || decide (x ≠ y)) := by
  unfold dfF
  rw [h1, h2]
  by_cases hu : u = v <;> by_cases hx : x = y <;> simp [hu, hx]
theorem map_step (l : List Nm) (n : Nm) : l.map D.s ++ [.s n] = (l ++ [n]).map D.s := by simp
def st23 (fa fb : List Fld) (sa za sb zb : Int) (ua ub : List UInt8) (bb : Bool) (z : List Nm) (i : Nat) : AS :=
  ⟨[(2, .op 16 0 0), (3, .op 17 0 0), (4, .op 18 0 0), (5, .op 19 0 0), (38, .d (.sl 1 (z.map .s))), (39, .d (.i .i64 (z.length : Int))), (40, .d (.i .i64 (i : Int)))],
   [(16, some (.box [.d (.i .i64 sa), .d (.sl 2 (fa.map fldD)), .d (.i .i64 za), .d (.sl 1 (encB ua))])), (17, some (.box [.d (.i .i64 sb), .d (.sl 2 (fb.map fldD)), .d (.i .i64 zb), .d (.sl 1 (encB ub))])),
    (18, some (.box [.d (.b false), .d (.b false), .nl 1])), (19, some (.box [.d (.b (decide (sa ≠ sb))), .d (.b bb), .os 20])), (20, some (.buf 1 (((z.take i).filter (dfF fa fb)).map .s)))], 2⟩
theorem compare23 (a b : Sn) (ha : a.fs.length ≤ 400000) (hb : b.fs.length ≤ 400000) (h1 : a.sum.length ≤ 9223372036854775807) (h2 : b.sum.length ≤ 9223372036854775807) : Does (CG G) 23 [snD a, snD b] [cmpD a b] := by
  obtain ⟨sa, fa, za, ua⟩ := a
  obtain ⟨sb, fb, zb, ub⟩ := b
  simp only at ha hb h1 h2
  have cz1 := sizes48 (G := G) sa fa za ua h1
  have cz2 := sizes48 (G := G) sb fb zb ub h2
  have cb := bytesEq49 (G := G) ua ub
  have cn := names49 (G := G) (fa ++ fb) (by simp; omega)
  have hdl := distF_len (nmsF (fa ++ fb))
  have hnl : (nmsF (fa ++ fb)).length ≤ 800000 := by unfold nmsF; rw [List.length_map, List.length_append]; omega
  have hva := fun n => value50 (G := G) fa n (by omega)
  have hvb := fun n => value50 (G := G) fb n (by omega)
  have hfa : (fa.map fldD).length = fa.length := by simp
  have hfb : (fb.map fldD).length = fb.length := by simp
  rw [List.map_append] at cn
  unfold cmpD nmsDF bodyF snD difD strs
  simp only
  generalize distF (nmsF (fa ++ fb)) = z at *
  have hzl : (z.map D.s).length = z.length := by simp
  have hfl := fun i => List.length_filter_le (dfF fa fb) (z.take i)
  have fin : ∀ t : Bool, t = (decide (za ≠ zb) || decide (ua ≠ ub)) → t = (decide (za ≠ zb) || decide (ua ≠ ub)) := fun _ h => h
  unfold strs at *
  unfold seenD at *
  refine Does.mk (n := 74) Tryz.func23 rfl rfl rfl (Nat.le_of_ble_eq_true rfl) ?_
  ((try refine And.intro (draw_ok (by kernel_rfl)) ?_); repeat refine seq_on ?_)
  refine cmp_is (decide (sa ≠ sb)) (by simp) ?_
  repeat refine seq_on ?_
  refine call_by cz1 ?_
  refine call_by cz2 ?_
  refine eq_agg (eqTwo za (ua.length : Int) zb (ub.length : Int)) ?_
  by_cases hz : za = zb ∧ (ua.length : Int) = (ub.length : Int)
  · refine cmp_is true (by simp [hz]) ?_
    repeat refine seq_on ?_
    by_cases hu : ua = ub
    · rw [decide_eq_true hu] at cb
      refine call_by cb ?_
      ((try refine And.intro (draw_ok (by kernel_rfl)) ?_); repeat refine seq_on ?_)
      have hbb : false = (decide (za ≠ zb) || decide (ua ≠ ub)) := (by simp [hz.1, hu])
      refine app_ok (by simp; omega) ?_
      refine app_ok (by simp; omega) ?_
      refine call_by cn ?_
      ((try refine And.intro (draw_ok (by kernel_rfl)) ?_); repeat refine seq_on ?_)
      apply loop_inv (fun i : Nat => i ≤ z.length) (st23 fa fb sa za sb zb ua ub false z) (fun i => z.length - i) 0 (Nat.zero_le _) [(16, _), (17, _), (18, _), (19, _), (20, 14)]
      · simp only [st23]
        ((repeat' constructor) <;> (first | refine hold ?_ | rfl) <;> first | with_reducible rfl | (congr 1 <;> omega) | (congr 1 <;> simp; done) | (simp; done) | exact encB_snoc _ _ | skip)
        all_goals first | rfl | (simp; done)
      · intro i hi
        simp only [st23]
        repeat refine seq_on ?_
        refine cmp_dec (fun h1 => ?_) (fun h1 => ?_)
        · have hi' : i < z.length := by omega
          have c1 := hva z[i]
          have c2 := hvb z[i]
          generalize hx : fstV fa z[i] = px at c1
          generalize hy : fstV fb z[i] = py at c2
          obtain ⟨x, u⟩ := px
          obtain ⟨y, v⟩ := py
          have hq0 := dfF_of hx hy
          simp only at c1 c2
          repeat refine seq_on ?_
          refine Eng.get_at i rfl (getStrs hi') ?_
          repeat refine seq_on ?_
          refine call_by c1 ?_
          repeat refine seq_on ?_
          refine call_by c2 ?_
          repeat refine seq_on ?_
          cases u <;> cases v
          · refine cmp_is false rfl ?_
            repeat refine seq_on ?_
            by_cases hxy : x = y
            · have hq : dfF fa fb z[i] = false := by rw [hq0]; simp [hxy]
              refine cmp_is false (by simp [hxy]) ?_
              repeat refine seq_on ?_
              refine ar ⟨by omega, by omega⟩ ?_
              apply again (i + 1) [(16, _), (17, _), (18, _), (19, _), (20, _)] (by omega) (by omega)
              simp only [st23, filt_keep hi' hq]
              ((repeat' constructor) <;> (first | refine hold ?_ | rfl) <;> first | with_reducible rfl | (congr 1 <;> omega) | (congr 1 <;> simp; done) | (simp; done) | exact encB_snoc _ _ | skip)
            · have hq : dfF fa fb z[i] = true := by rw [hq0]; simp [hxy]
              refine cmp_is true (by simp [hxy]) ?_
              repeat refine seq_on ?_
              refine app_ok (by have := hfl i; have := List.length_take_le i z; simp only [List.length_map, List.length_append, List.length_cons, List.length_nil]; omega) ?_
              repeat refine seq_on ?_
              refine ar ⟨by omega, by omega⟩ ?_
              apply again (i + 1) [(16, _), (17, _), (18, _), (19, _), (20, _)] (by omega) (by omega)
              simp only [st23, filt_step hi' hq]
              ((repeat' constructor) <;> (first | refine hold ?_ | rfl) <;> first | with_reducible rfl | (congr 1 <;> omega) | (congr 1 <;> simp; done) | (simp; done) | exact encB_snoc _ _ | skip)
              all_goals simp
          · have hq : dfF fa fb z[i] = true := by rw [hq0]; simp
            refine cmp_is true rfl ?_
            repeat refine seq_on ?_
            refine app_ok (by have := hfl i; have := List.length_take_le i z; simp only [List.length_map, List.length_append, List.length_cons, List.length_nil]; omega) ?_
            repeat refine seq_on ?_
            refine ar ⟨by omega, by omega⟩ ?_
            apply again (i + 1) [(16, _), (17, _), (18, _), (19, _), (20, _)] (by omega) (by omega)
            simp only [st23, filt_step hi' hq]
            ((repeat' constructor) <;> (first | refine hold ?_ | rfl) <;> first | with_reducible rfl | (congr 1 <;> omega) | (congr 1 <;> simp; done) | (simp; done) | exact encB_snoc _ _ | skip)
            all_goals simp
          · have hq : dfF fa fb z[i] = true := by rw [hq0]; simp
            refine cmp_is true rfl ?_
            repeat refine seq_on ?_
            refine app_ok (by have := hfl i; have := List.length_take_le i z; simp only [List.length_map, List.length_append, List.length_cons, List.length_nil]; omega) ?_
            repeat refine seq_on ?_
            refine ar ⟨by omega, by omega⟩ ?_
            apply again (i + 1) [(16, _), (17, _), (18, _), (19, _), (20, _)] (by omega) (by omega)
            simp only [st23, filt_step hi' hq]
            ((repeat' constructor) <;> (first | refine hold ?_ | rfl) <;> first | with_reducible rfl | (congr 1 <;> omega) | (congr 1 <;> simp; done) | (simp; done) | exact encB_snoc _ _ | skip)
            all_goals simp
          · refine cmp_is false rfl ?_
            repeat refine seq_on ?_
            by_cases hxy : x = y
            · have hq : dfF fa fb z[i] = false := by rw [hq0]; simp [hxy]
              refine cmp_is false (by simp [hxy]) ?_
              repeat refine seq_on ?_
              refine ar ⟨by omega, by omega⟩ ?_
              apply again (i + 1) [(16, _), (17, _), (18, _), (19, _), (20, _)] (by omega) (by omega)
              simp only [st23, filt_keep hi' hq]
              ((repeat' constructor) <;> (first | refine hold ?_ | rfl) <;> first | with_reducible rfl | (congr 1 <;> omega) | (congr 1 <;> simp; done) | (simp; done) | exact encB_snoc _ _ | skip)
            · have hq : dfF fa fb z[i] = true := by rw [hq0]; simp [hxy]
              refine cmp_is true (by simp [hxy]) ?_
              repeat refine seq_on ?_
              refine app_ok (by have := hfl i; have := List.length_take_le i z; simp only [List.length_map, List.length_append, List.length_cons, List.length_nil]; omega) ?_
              repeat refine seq_on ?_
              refine ar ⟨by omega, by omega⟩ ?_
              apply again (i + 1) [(16, _), (17, _), (18, _), (19, _), (20, _)] (by omega) (by omega)
              simp only [st23, filt_step hi' hq]
              ((repeat' constructor) <;> (first | refine hold ?_ | rfl) <;> first | with_reducible rfl | (congr 1 <;> omega) | (congr 1 <;> simp; done) | (simp; done) | exact encB_snoc _ _ | skip)
              all_goals simp
        · obtain rfl : i = z.length := by omega
          repeat refine seq_on ?_
          rw [List.take_length]
          refine fin_eqN ?_
          rw [← hbb]
    · rw [decide_eq_false hu] at cb
      refine call_by cb ?_
      ((try refine And.intro (draw_ok (by kernel_rfl)) ?_); repeat refine seq_on ?_)
      have hbb : true = (decide (za ≠ zb) || decide (ua ≠ ub)) := (by simp [hu])
      refine app_ok (by simp; omega) ?_
      refine app_ok (by simp; omega) ?_
      refine call_by cn ?_
      ((try refine And.intro (draw_ok (by kernel_rfl)) ?_); repeat refine seq_on ?_)
      apply loop_inv (fun i : Nat => i ≤ z.length) (st23 fa fb sa za sb zb ua ub true z) (fun i => z.length - i) 0 (Nat.zero_le _) [(16, _), (17, _), (18, _), (19, _), (20, 14)]
      · simp only [st23]
        ((repeat' constructor) <;> (first | refine hold ?_ | rfl) <;> first | with_reducible rfl | (congr 1 <;> omega) | (congr 1 <;> simp; done) | (simp; done) | exact encB_snoc _ _ | skip)
        all_goals first | rfl | (simp; done)
      · intro i hi
        simp only [st23]
        repeat refine seq_on ?_
        refine cmp_dec (fun h1 => ?_) (fun h1 => ?_)
        · have hi' : i < z.length := by omega
          have c1 := hva z[i]
          have c2 := hvb z[i]
          generalize hx : fstV fa z[i] = px at c1
          generalize hy : fstV fb z[i] = py at c2
          obtain ⟨x, u⟩ := px
          obtain ⟨y, v⟩ := py
          have hq0 := dfF_of hx hy
          simp only at c1 c2
          repeat refine seq_on ?_
          refine Eng.get_at i rfl (getStrs hi') ?_
          repeat refine seq_on ?_
          refine call_by c1 ?_
          repeat refine seq_on ?_
          refine call_by c2 ?_
          repeat refine seq_on ?_
          cases u <;> cases v
          · refine cmp_is false rfl ?_
            repeat refine seq_on ?_
            by_cases hxy : x = y
            · have hq : dfF fa fb z[i] = false := by rw [hq0]; simp [hxy]
              refine cmp_is false (by simp [hxy]) ?_
              repeat refine seq_on ?_
              refine ar ⟨by omega, by omega⟩ ?_
              apply again (i + 1) [(16, _), (17, _), (18, _), (19, _), (20, _)] (by omega) (by omega)
              simp only [st23, filt_keep hi' hq]
              ((repeat' constructor) <;> (first | refine hold ?_ | rfl) <;> first | with_reducible rfl | (congr 1 <;> omega) | (congr 1 <;> simp; done) | (simp; done) | exact encB_snoc _ _ | skip)
            · have hq : dfF fa fb z[i] = true := by rw [hq0]; simp [hxy]
              refine cmp_is true (by simp [hxy]) ?_
              repeat refine seq_on ?_
              refine app_ok (by have := hfl i; have := List.length_take_le i z; simp only [List.length_map, List.length_append, List.length_cons, List.length_nil]; omega) ?_
              repeat refine seq_on ?_
              refine ar ⟨by omega, by omega⟩ ?_
              apply again (i + 1) [(16, _), (17, _), (18, _), (19, _), (20, _)] (by omega) (by omega)
              simp only [st23, filt_step hi' hq]
              ((repeat' constructor) <;> (first | refine hold ?_ | rfl) <;> first | with_reducible rfl | (congr 1 <;> omega) | (congr 1 <;> simp; done) | (simp; done) | exact encB_snoc _ _ | skip)
              all_goals simp
          · have hq : dfF fa fb z[i] = true := by rw [hq0]; simp
            refine cmp_is true rfl ?_
            repeat refine seq_on ?_
            refine app_ok (by have := hfl i; have := List.length_take_le i z; simp only [List.length_map, List.length_append, List.length_cons, List.length_nil]; omega) ?_
            repeat refine seq_on ?_
            refine ar ⟨by omega, by omega⟩ ?_
            apply again (i + 1) [(16, _), (17, _), (18, _), (19, _), (20, _)] (by omega) (by omega)
            simp only [st23, filt_step hi' hq]
            ((repeat' constructor) <;> (first | refine hold ?_ | rfl) <;> first | with_reducible rfl | (congr 1 <;> omega) | (congr 1 <;> simp; done) | (simp; done) | exact encB_snoc _ _ | skip)
            all_goals simp
          · have hq : dfF fa fb z[i] = true := by rw [hq0]; simp
            refine cmp_is true rfl ?_
            repeat refine seq_on ?_
            refine app_ok (by have := hfl i; have := List.length_take_le i z; simp only [List.length_map, List.length_append, List.length_cons, List.length_nil]; omega) ?_
            repeat refine seq_on ?_
            refine ar ⟨by omega, by omega⟩ ?_
            apply again (i + 1) [(16, _), (17, _), (18, _), (19, _), (20, _)] (by omega) (by omega)
            simp only [st23, filt_step hi' hq]
            ((repeat' constructor) <;> (first | refine hold ?_ | rfl) <;> first | with_reducible rfl | (congr 1 <;> omega) | (congr 1 <;> simp; done) | (simp; done) | exact encB_snoc _ _ | skip)
            all_goals simp
          · refine cmp_is false rfl ?_
            repeat refine seq_on ?_
            by_cases hxy : x = y
            · have hq : dfF fa fb z[i] = false := by rw [hq0]; simp [hxy]
              refine cmp_is false (by simp [hxy]) ?_
              repeat refine seq_on ?_
              refine ar ⟨by omega, by omega⟩ ?_
              apply again (i + 1) [(16, _), (17, _), (18, _), (19, _), (20, _)] (by omega) (by omega)
              simp only [st23, filt_keep hi' hq]
              ((repeat' constructor) <;> (first | refine hold ?_ | rfl) <;> first | with_reducible rfl | (congr 1 <;> omega) | (congr 1 <;> simp; done) | (simp; done) | exact encB_snoc _ _ | skip)
            · have hq : dfF fa fb z[i] = true := by rw [hq0]; simp [hxy]
              refine cmp_is true (by simp [hxy]) ?_
              repeat refine seq_on ?_
              refine app_ok (by have := hfl i; have := List.length_take_le i z; simp only [List.length_map, List.length_append, List.length_cons, List.length_nil]; omega) ?_
              repeat refine seq_on ?_
              refine ar ⟨by omega, by omega⟩ ?_
              apply again (i + 1) [(16, _), (17, _), (18, _), (19, _), (20, _)] (by omega) (by omega)
              simp only [st23, filt_step hi' hq]
              ((repeat' constructor) <;> (first | refine hold ?_ | rfl) <;> first | with_reducible rfl | (congr 1 <;> omega) | (congr 1 <;> simp; done) | (simp; done) | exact encB_snoc _ _ | skip)
              all_goals simp
        · obtain rfl : i = z.length := by omega
          repeat refine seq_on ?_
          rw [List.take_length]
          refine fin_eqN ?_
          rw [← hbb]
  · refine cmp_is false (by simp; omega) ?_
    ((try refine And.intro (draw_ok (by kernel_rfl)) ?_); repeat refine seq_on ?_)
    have hbb : true = (decide (za ≠ zb) || decide (ua ≠ ub)) := (by
        by_cases h : za = zb
        · have : ua ≠ ub := fun e => hz ⟨h, by rw [e]⟩
          simp [this]
        · simp [h])
    refine app_ok (by simp; omega) ?_
    refine app_ok (by simp; omega) ?_
    refine call_by cn ?_
    ((try refine And.intro (draw_ok (by kernel_rfl)) ?_); repeat refine seq_on ?_)
    apply loop_inv (fun i : Nat => i ≤ z.length) (st23 fa fb sa za sb zb ua ub true z) (fun i => z.length - i) 0 (Nat.zero_le _) [(16, _), (17, _), (18, _), (19, _), (20, 14)]
    · simp only [st23]
      ((repeat' constructor) <;> (first | refine hold ?_ | rfl) <;> first | with_reducible rfl | (congr 1 <;> omega) | (congr 1 <;> simp; done) | (simp; done) | exact encB_snoc _ _ | skip)
      all_goals first | rfl | (simp; done)
    · intro i hi
      simp only [st23]
      repeat refine seq_on ?_
      refine cmp_dec (fun h1 => ?_) (fun h1 => ?_)
      · have hi' : i < z.length := by omega
        have c1 := hva z[i]
        have c2 := hvb z[i]
        generalize hx : fstV fa z[i] = px at c1
        generalize hy : fstV fb z[i] = py at c2
        obtain ⟨x, u⟩ := px
        obtain ⟨y, v⟩ := py
        have hq0 := dfF_of hx hy
        simp only at c1 c2
        repeat refine seq_on ?_
        refine Eng.get_at i rfl (getStrs hi') ?_
        repeat refine seq_on ?_
        refine call_by c1 ?_
        repeat refine seq_on ?_
        refine call_by c2 ?_
        repeat refine seq_on ?_
        cases u <;> cases v
        · refine cmp_is false rfl ?_
          repeat refine seq_on ?_
          by_cases hxy : x = y
          · have hq : dfF fa fb z[i] = false := by rw [hq0]; simp [hxy]
            refine cmp_is false (by simp [hxy]) ?_
            repeat refine seq_on ?_
            refine ar ⟨by omega, by omega⟩ ?_
            apply again (i + 1) [(16, _), (17, _), (18, _), (19, _), (20, _)] (by omega) (by omega)
            simp only [st23, filt_keep hi' hq]
            ((repeat' constructor) <;> (first | refine hold ?_ | rfl) <;> first | with_reducible rfl | (congr 1 <;> omega) | (congr 1 <;> simp; done) | (simp; done) | exact encB_snoc _ _ | skip)
          · have hq : dfF fa fb z[i] = true := by rw [hq0]; simp [hxy]
            refine cmp_is true (by simp [hxy]) ?_
            repeat refine seq_on ?_
            refine app_ok (by have := hfl i; have := List.length_take_le i z; simp only [List.length_map, List.length_append, List.length_cons, List.length_nil]; omega) ?_
            repeat refine seq_on ?_
            refine ar ⟨by omega, by omega⟩ ?_
            apply again (i + 1) [(16, _), (17, _), (18, _), (19, _), (20, _)] (by omega) (by omega)
            simp only [st23, filt_step hi' hq]
            ((repeat' constructor) <;> (first | refine hold ?_ | rfl) <;> first | with_reducible rfl | (congr 1 <;> omega) | (congr 1 <;> simp; done) | (simp; done) | exact encB_snoc _ _ | skip)
            all_goals simp
        · have hq : dfF fa fb z[i] = true := by rw [hq0]; simp
          refine cmp_is true rfl ?_
          repeat refine seq_on ?_
          refine app_ok (by have := hfl i; have := List.length_take_le i z; simp only [List.length_map, List.length_append, List.length_cons, List.length_nil]; omega) ?_
          repeat refine seq_on ?_
          refine ar ⟨by omega, by omega⟩ ?_
          apply again (i + 1) [(16, _), (17, _), (18, _), (19, _), (20, _)] (by omega) (by omega)
          simp only [st23, filt_step hi' hq]
          ((repeat' constructor) <;> (first | refine hold ?_ | rfl) <;> first | with_reducible rfl | (congr 1 <;> omega) | (congr 1 <;> simp; done) | (simp; done) | exact encB_snoc _ _ | skip)
          all_goals simp
        · have hq : dfF fa fb z[i] = true := by rw [hq0]; simp
          refine cmp_is true rfl ?_
          repeat refine seq_on ?_
          refine app_ok (by have := hfl i; have := List.length_take_le i z; simp only [List.length_map, List.length_append, List.length_cons, List.length_nil]; omega) ?_
          repeat refine seq_on ?_
          refine ar ⟨by omega, by omega⟩ ?_
          apply again (i + 1) [(16, _), (17, _), (18, _), (19, _), (20, _)] (by omega) (by omega)
          simp only [st23, filt_step hi' hq]
          ((repeat' constructor) <;> (first | refine hold ?_ | rfl) <;> first | with_reducible rfl | (congr 1 <;> omega) | (congr 1 <;> simp; done) | (simp; done) | exact encB_snoc _ _ | skip)
          all_goals simp
        · refine cmp_is false rfl ?_
          repeat refine seq_on ?_
          by_cases hxy : x = y
          · have hq : dfF fa fb z[i] = false := by rw [hq0]; simp [hxy]
            refine cmp_is false (by simp [hxy]) ?_
            repeat refine seq_on ?_
            refine ar ⟨by omega, by omega⟩ ?_
            apply again (i + 1) [(16, _), (17, _), (18, _), (19, _), (20, _)] (by omega) (by omega)
            simp only [st23, filt_keep hi' hq]
            ((repeat' constructor) <;> (first | refine hold ?_ | rfl) <;> first | with_reducible rfl | (congr 1 <;> omega) | (congr 1 <;> simp; done) | (simp; done) | exact encB_snoc _ _ | skip)
          · have hq : dfF fa fb z[i] = true := by rw [hq0]; simp [hxy]
            refine cmp_is true (by simp [hxy]) ?_
            repeat refine seq_on ?_
            refine app_ok (by have := hfl i; have := List.length_take_le i z; simp only [List.length_map, List.length_append, List.length_cons, List.length_nil]; omega) ?_
            repeat refine seq_on ?_
            refine ar ⟨by omega, by omega⟩ ?_
            apply again (i + 1) [(16, _), (17, _), (18, _), (19, _), (20, _)] (by omega) (by omega)
            simp only [st23, filt_step hi' hq]
            ((repeat' constructor) <;> (first | refine hold ?_ | rfl) <;> first | with_reducible rfl | (congr 1 <;> omega) | (congr 1 <;> simp; done) | (simp; done) | exact encB_snoc _ _ | skip)
            all_goals simp
      · obtain rfl : i = z.length := by omega
        repeat refine seq_on ?_
        rw [List.take_length]
        refine fin_eqN ?_
        rw [← hbb]
end Go.Proofs.YtbfkfmpfdafogaaGreatDoor

namespace Go.Proofs.YtbfkfmpfdafogaaGreatDoor
variable {G : List Go.Eng.Gl}
open Go.Eng
attribute [local irreducible] Hold
set_option maxRecDepth 100000

/-! Compare, the reference's. -/
def st24 (fa fb : List Fld) (sa za sb zb : Int) (ua ub : List UInt8) (bb : Bool) (z : List Nm) (i : Nat) : AS :=
  ⟨[(2, .op 16 0 0), (3, .op 17 0 0), (4, .op 18 0 0), (5, .op 19 0 0), (6, .d (.sl 1 (z.map .s))), (7, .d (.i .i64 (i : Int)))],
   [(16, some (.box [.d (.i .i64 sa), .d (.sl 2 (fa.map fldD)), .d (.i .i64 za), .d (.sl 1 (encB ua))])), (17, some (.box [.d (.i .i64 sb), .d (.sl 2 (fb.map fldD)), .d (.i .i64 zb), .d (.sl 1 (encB ub))])),
    (18, some (.box [.d (.b false), .d (.b false), .nl 1])), (19, some (.box [.d (.b (decide (sa ≠ sb))), .d (.b bb), .os 20])), (20, some (.buf 1 (((z.take i).filter (dfF fa fb)).map .s)))], 2⟩
theorem compare24 (a b : Sn) (ha : a.fs.length ≤ 400000) (hb : b.fs.length ≤ 400000) : Does (CG G) 24 [snD a, snD b] [cmpD a b] := by
  obtain ⟨sa, fa, za, ua⟩ := a
  obtain ⟨sb, fb, zb, ub⟩ := b
  simp only at ha hb
  have cn := namesR (G := G) (fa ++ fb) (by simp; omega)
  have hdl := distF_len (nmsF (fa ++ fb))
  have hnl : (nmsF (fa ++ fb)).length ≤ 800000 := by unfold nmsF; rw [List.length_map, List.length_append]; omega
  have hva := fun n => value51 (G := G) fa n (by omega)
  have hvb := fun n => value51 (G := G) fb n (by omega)
  have hfa : (fa.map fldD).length = fa.length := by simp
  have hfb : (fb.map fldD).length = fb.length := by simp
  rw [List.map_append] at cn
  unfold cmpD nmsDF bodyF snD difD strs
  simp only
  generalize distF (nmsF (fa ++ fb)) = z at *
  have hzl : (z.map D.s).length = z.length := by simp
  have hfl := fun i => List.length_filter_le (dfF fa fb) (z.take i)
  have fin : ∀ t : Bool, t = (decide (za ≠ zb) || decide (ua ≠ ub)) → t = (decide (za ≠ zb) || decide (ua ≠ ub)) := fun _ h => h
  unfold strs at *
  unfold seenD at *
  refine Does.mk (n := 84) Tryz.func24 rfl rfl rfl (Nat.le_of_ble_eq_true rfl) ?_
  ((try refine And.intro (draw_ok (by kernel_rfl)) ?_); repeat refine seq_on ?_)
  refine cmp_is (decide (sa ≠ sb)) (by simp) ?_
  repeat refine seq_on ?_
  by_cases hz : za = zb
  · refine cmp_is false (by simp [hz]) ?_
    repeat refine seq_on ?_
    refine bytes_is ua rfl ?_
    refine bytes_is ub rfl ?_
    by_cases hu : ua = ub
    · refine cmp_is false (by simp [hu]) ?_
      ((try refine And.intro (draw_ok (by kernel_rfl)) ?_); repeat refine seq_on ?_)
      have hbb : false = (decide (za ≠ zb) || decide (ua ≠ ub)) := (by simp [hz, hu])
      refine app_ok (by simp; omega) ?_
      refine app_ok (by simp; omega) ?_
      refine call_by cn ?_
      ((try refine And.intro (draw_ok (by kernel_rfl)) ?_); repeat refine seq_on ?_)
      apply loop_inv (fun i : Nat => i ≤ z.length) (st24 fa fb sa za sb zb ua ub false z) (fun i => z.length - i) 0 (Nat.zero_le _) [(16, _), (17, _), (18, _), (19, _), (20, 14)]
      · simp only [st24]
        ((repeat' constructor) <;> (first | refine hold ?_ | rfl) <;> first | with_reducible rfl | (congr 1 <;> omega) | (congr 1 <;> simp; done) | (simp; done) | exact encB_snoc _ _ | skip)
        all_goals first | rfl | (simp; done)
      · intro i hi
        simp only [st24]
        repeat refine seq_on ?_
        refine cmp_dec (fun h1 => ?_) (fun h1 => ?_)
        · have hi' : i < z.length := by omega
          have c1 := hva z[i]
          have c2 := hvb z[i]
          generalize hx : fstV fa z[i] = px at c1
          generalize hy : fstV fb z[i] = py at c2
          obtain ⟨x, u⟩ := px
          obtain ⟨y, v⟩ := py
          have hq0 := dfF_of hx hy
          simp only at c1 c2
          ((try refine And.intro (draw_ok (by kernel_rfl)) ?_); repeat refine seq_on ?_)
          refine Eng.get_at i rfl (getStrs hi') ?_
          refine call_by c1 ?_
          ((try refine And.intro (draw_ok (by kernel_rfl)) ?_); repeat refine seq_on ?_)
          refine Eng.get_at i rfl (getStrs hi') ?_
          refine call_by c2 ?_
          ((try refine And.intro (draw_ok (by kernel_rfl)) ?_); repeat refine seq_on ?_)
          cases u <;> cases v
          · refine cmp_is false rfl ?_
            repeat refine seq_on ?_
            by_cases hxy : x = y
            · have hq : dfF fa fb z[i] = false := by rw [hq0]; simp [hxy]
              refine cmp_is false (by simp [hxy]) ?_
              ((try refine And.intro (draw_ok (by kernel_rfl)) ?_); repeat refine seq_on ?_)
              refine ar ⟨by omega, by omega⟩ ?_
              apply again (i + 1) [(16, _), (17, _), (18, _), (19, _), (20, _)] (by omega) (by omega)
              simp only [st24, filt_keep hi' hq]
              ((repeat' constructor) <;> (first | refine hold ?_ | rfl) <;> first | with_reducible rfl | (congr 1 <;> omega) | (congr 1 <;> simp; done) | (simp; done) | exact encB_snoc _ _ | skip)
            · have hq : dfF fa fb z[i] = true := by rw [hq0]; simp [hxy]
              refine cmp_is true (by simp [hxy]) ?_
              ((try refine And.intro (draw_ok (by kernel_rfl)) ?_); repeat refine seq_on ?_)
              refine Eng.get_at i rfl (getStrs hi') ?_
              refine app_ok (by have := hfl i; have := List.length_take_le i z; simp only [List.length_map, List.length_append, List.length_cons, List.length_nil]; omega) ?_
              ((try refine And.intro (draw_ok (by kernel_rfl)) ?_); repeat refine seq_on ?_)
              refine ar ⟨by omega, by omega⟩ ?_
              apply again (i + 1) [(16, _), (17, _), (18, _), (19, _), (20, _)] (by omega) (by omega)
              simp only [st24, filt_step hi' hq]
              ((repeat' constructor) <;> (first | refine hold ?_ | rfl) <;> first | with_reducible rfl | (congr 1 <;> omega) | (congr 1 <;> simp; done) | (simp; done) | exact encB_snoc _ _ | skip)
              all_goals simp
          · have hq : dfF fa fb z[i] = true := by rw [hq0]; simp
            refine cmp_is true rfl ?_
            ((try refine And.intro (draw_ok (by kernel_rfl)) ?_); repeat refine seq_on ?_)
            refine Eng.get_at i rfl (getStrs hi') ?_
            refine app_ok (by have := hfl i; have := List.length_take_le i z; simp only [List.length_map, List.length_append, List.length_cons, List.length_nil]; omega) ?_
            ((try refine And.intro (draw_ok (by kernel_rfl)) ?_); repeat refine seq_on ?_)
            refine ar ⟨by omega, by omega⟩ ?_
            apply again (i + 1) [(16, _), (17, _), (18, _), (19, _), (20, _)] (by omega) (by omega)
            simp only [st24, filt_step hi' hq]
            ((repeat' constructor) <;> (first | refine hold ?_ | rfl) <;> first | with_reducible rfl | (congr 1 <;> omega) | (congr 1 <;> simp; done) | (simp; done) | exact encB_snoc _ _ | skip)
            all_goals simp
          · have hq : dfF fa fb z[i] = true := by rw [hq0]; simp
            refine cmp_is true rfl ?_
            ((try refine And.intro (draw_ok (by kernel_rfl)) ?_); repeat refine seq_on ?_)
            refine Eng.get_at i rfl (getStrs hi') ?_
            refine app_ok (by have := hfl i; have := List.length_take_le i z; simp only [List.length_map, List.length_append, List.length_cons, List.length_nil]; omega) ?_
            ((try refine And.intro (draw_ok (by kernel_rfl)) ?_); repeat refine seq_on ?_)
            refine ar ⟨by omega, by omega⟩ ?_
            apply again (i + 1) [(16, _), (17, _), (18, _), (19, _), (20, _)] (by omega) (by omega)
            simp only [st24, filt_step hi' hq]
            ((repeat' constructor) <;> (first | refine hold ?_ | rfl) <;> first | with_reducible rfl | (congr 1 <;> omega) | (congr 1 <;> simp; done) | (simp; done) | exact encB_snoc _ _ | skip)
            all_goals simp
          · refine cmp_is false rfl ?_
            repeat refine seq_on ?_
            by_cases hxy : x = y
            · have hq : dfF fa fb z[i] = false := by rw [hq0]; simp [hxy]
              refine cmp_is false (by simp [hxy]) ?_
              ((try refine And.intro (draw_ok (by kernel_rfl)) ?_); repeat refine seq_on ?_)
              refine ar ⟨by omega, by omega⟩ ?_
              apply again (i + 1) [(16, _), (17, _), (18, _), (19, _), (20, _)] (by omega) (by omega)
              simp only [st24, filt_keep hi' hq]
              ((repeat' constructor) <;> (first | refine hold ?_ | rfl) <;> first | with_reducible rfl | (congr 1 <;> omega) | (congr 1 <;> simp; done) | (simp; done) | exact encB_snoc _ _ | skip)
            · have hq : dfF fa fb z[i] = true := by rw [hq0]; simp [hxy]
              refine cmp_is true (by simp [hxy]) ?_
              ((try refine And.intro (draw_ok (by kernel_rfl)) ?_); repeat refine seq_on ?_)
              refine Eng.get_at i rfl (getStrs hi') ?_
              refine app_ok (by have := hfl i; have := List.length_take_le i z; simp only [List.length_map, List.length_append, List.length_cons, List.length_nil]; omega) ?_
              ((try refine And.intro (draw_ok (by kernel_rfl)) ?_); repeat refine seq_on ?_)
              refine ar ⟨by omega, by omega⟩ ?_
              apply again (i + 1) [(16, _), (17, _), (18, _), (19, _), (20, _)] (by omega) (by omega)
              simp only [st24, filt_step hi' hq]
              ((repeat' constructor) <;> (first | refine hold ?_ | rfl) <;> first | with_reducible rfl | (congr 1 <;> omega) | (congr 1 <;> simp; done) | (simp; done) | exact encB_snoc _ _ | skip)
              all_goals simp
        · obtain rfl : i = z.length := by omega
          repeat refine seq_on ?_
          rw [List.take_length]
          refine fin_eqN ?_
          rw [← hbb]
    · refine cmp_is true (by simp [hu]) ?_
      ((try refine And.intro (draw_ok (by kernel_rfl)) ?_); repeat refine seq_on ?_)
      have hbb : true = (decide (za ≠ zb) || decide (ua ≠ ub)) := (by simp [hu])
      refine app_ok (by simp; omega) ?_
      refine app_ok (by simp; omega) ?_
      refine call_by cn ?_
      ((try refine And.intro (draw_ok (by kernel_rfl)) ?_); repeat refine seq_on ?_)
      apply loop_inv (fun i : Nat => i ≤ z.length) (st24 fa fb sa za sb zb ua ub true z) (fun i => z.length - i) 0 (Nat.zero_le _) [(16, _), (17, _), (18, _), (19, _), (20, 14)]
      · simp only [st24]
        ((repeat' constructor) <;> (first | refine hold ?_ | rfl) <;> first | with_reducible rfl | (congr 1 <;> omega) | (congr 1 <;> simp; done) | (simp; done) | exact encB_snoc _ _ | skip)
        all_goals first | rfl | (simp; done)
      · intro i hi
        simp only [st24]
        repeat refine seq_on ?_
        refine cmp_dec (fun h1 => ?_) (fun h1 => ?_)
        · have hi' : i < z.length := by omega
          have c1 := hva z[i]
          have c2 := hvb z[i]
          generalize hx : fstV fa z[i] = px at c1
          generalize hy : fstV fb z[i] = py at c2
          obtain ⟨x, u⟩ := px
          obtain ⟨y, v⟩ := py
          have hq0 := dfF_of hx hy
          simp only at c1 c2
          ((try refine And.intro (draw_ok (by kernel_rfl)) ?_); repeat refine seq_on ?_)
          refine Eng.get_at i rfl (getStrs hi') ?_
          refine call_by c1 ?_
          ((try refine And.intro (draw_ok (by kernel_rfl)) ?_); repeat refine seq_on ?_)
          refine Eng.get_at i rfl (getStrs hi') ?_
          refine call_by c2 ?_
          ((try refine And.intro (draw_ok (by kernel_rfl)) ?_); repeat refine seq_on ?_)
          cases u <;> cases v
          · refine cmp_is false rfl ?_
            repeat refine seq_on ?_
            by_cases hxy : x = y
            · have hq : dfF fa fb z[i] = false := by rw [hq0]; simp [hxy]
              refine cmp_is false (by simp [hxy]) ?_
              ((try refine And.intro (draw_ok (by kernel_rfl)) ?_); repeat refine seq_on ?_)
              refine ar ⟨by omega, by omega⟩ ?_
              apply again (i + 1) [(16, _), (17, _), (18, _), (19, _), (20, _)] (by omega) (by omega)
              simp only [st24, filt_keep hi' hq]
              ((repeat' constructor) <;> (first | refine hold ?_ | rfl) <;> first | with_reducible rfl | (congr 1 <;> omega) | (congr 1 <;> simp; done) | (simp; done) | exact encB_snoc _ _ | skip)
            · have hq : dfF fa fb z[i] = true := by rw [hq0]; simp [hxy]
              refine cmp_is true (by simp [hxy]) ?_
              ((try refine And.intro (draw_ok (by kernel_rfl)) ?_); repeat refine seq_on ?_)
              refine Eng.get_at i rfl (getStrs hi') ?_
              refine app_ok (by have := hfl i; have := List.length_take_le i z; simp only [List.length_map, List.length_append, List.length_cons, List.length_nil]; omega) ?_
              ((try refine And.intro (draw_ok (by kernel_rfl)) ?_); repeat refine seq_on ?_)
              refine ar ⟨by omega, by omega⟩ ?_
              apply again (i + 1) [(16, _), (17, _), (18, _), (19, _), (20, _)] (by omega) (by omega)
              simp only [st24, filt_step hi' hq]
              ((repeat' constructor) <;> (first | refine hold ?_ | rfl) <;> first | with_reducible rfl | (congr 1 <;> omega) | (congr 1 <;> simp; done) | (simp; done) | exact encB_snoc _ _ | skip)
              all_goals simp
          · have hq : dfF fa fb z[i] = true := by rw [hq0]; simp
            refine cmp_is true rfl ?_
            ((try refine And.intro (draw_ok (by kernel_rfl)) ?_); repeat refine seq_on ?_)
            refine Eng.get_at i rfl (getStrs hi') ?_
            refine app_ok (by have := hfl i; have := List.length_take_le i z; simp only [List.length_map, List.length_append, List.length_cons, List.length_nil]; omega) ?_
            ((try refine And.intro (draw_ok (by kernel_rfl)) ?_); repeat refine seq_on ?_)
            refine ar ⟨by omega, by omega⟩ ?_
            apply again (i + 1) [(16, _), (17, _), (18, _), (19, _), (20, _)] (by omega) (by omega)
            simp only [st24, filt_step hi' hq]
            ((repeat' constructor) <;> (first | refine hold ?_ | rfl) <;> first | with_reducible rfl | (congr 1 <;> omega) | (congr 1 <;> simp; done) | (simp; done) | exact encB_snoc _ _ | skip)
            all_goals simp
          · have hq : dfF fa fb z[i] = true := by rw [hq0]; simp
            refine cmp_is true rfl ?_
            ((try refine And.intro (draw_ok (by kernel_rfl)) ?_); repeat refine seq_on ?_)
            refine Eng.get_at i rfl (getStrs hi') ?_
            refine app_ok (by have := hfl i; have := List.length_take_le i z; simp only [List.length_map, List.length_append, List.length_cons, List.length_nil]; omega) ?_
            ((try refine And.intro (draw_ok (by kernel_rfl)) ?_); repeat refine seq_on ?_)
            refine ar ⟨by omega, by omega⟩ ?_
            apply again (i + 1) [(16, _), (17, _), (18, _), (19, _), (20, _)] (by omega) (by omega)
            simp only [st24, filt_step hi' hq]
            ((repeat' constructor) <;> (first | refine hold ?_ | rfl) <;> first | with_reducible rfl | (congr 1 <;> omega) | (congr 1 <;> simp; done) | (simp; done) | exact encB_snoc _ _ | skip)
            all_goals simp
          · refine cmp_is false rfl ?_
            repeat refine seq_on ?_
            by_cases hxy : x = y
            · have hq : dfF fa fb z[i] = false := by rw [hq0]; simp [hxy]
              refine cmp_is false (by simp [hxy]) ?_
              ((try refine And.intro (draw_ok (by kernel_rfl)) ?_); repeat refine seq_on ?_)
              refine ar ⟨by omega, by omega⟩ ?_
              apply again (i + 1) [(16, _), (17, _), (18, _), (19, _), (20, _)] (by omega) (by omega)
              simp only [st24, filt_keep hi' hq]
              ((repeat' constructor) <;> (first | refine hold ?_ | rfl) <;> first | with_reducible rfl | (congr 1 <;> omega) | (congr 1 <;> simp; done) | (simp; done) | exact encB_snoc _ _ | skip)
            · have hq : dfF fa fb z[i] = true := by rw [hq0]; simp [hxy]
              refine cmp_is true (by simp [hxy]) ?_
              ((try refine And.intro (draw_ok (by kernel_rfl)) ?_); repeat refine seq_on ?_)
              refine Eng.get_at i rfl (getStrs hi') ?_
              refine app_ok (by have := hfl i; have := List.length_take_le i z; simp only [List.length_map, List.length_append, List.length_cons, List.length_nil]; omega) ?_
              ((try refine And.intro (draw_ok (by kernel_rfl)) ?_); repeat refine seq_on ?_)
              refine ar ⟨by omega, by omega⟩ ?_
              apply again (i + 1) [(16, _), (17, _), (18, _), (19, _), (20, _)] (by omega) (by omega)
              simp only [st24, filt_step hi' hq]
              ((repeat' constructor) <;> (first | refine hold ?_ | rfl) <;> first | with_reducible rfl | (congr 1 <;> omega) | (congr 1 <;> simp; done) | (simp; done) | exact encB_snoc _ _ | skip)
              all_goals simp
        · obtain rfl : i = z.length := by omega
          repeat refine seq_on ?_
          rw [List.take_length]
          refine fin_eqN ?_
          rw [← hbb]
  · refine cmp_is true (by simp [hz]) ?_
    ((try refine And.intro (draw_ok (by kernel_rfl)) ?_); repeat refine seq_on ?_)
    have hbb : true = (decide (za ≠ zb) || decide (ua ≠ ub)) := (by simp [hz])
    refine app_ok (by simp; omega) ?_
    refine app_ok (by simp; omega) ?_
    refine call_by cn ?_
    ((try refine And.intro (draw_ok (by kernel_rfl)) ?_); repeat refine seq_on ?_)
    apply loop_inv (fun i : Nat => i ≤ z.length) (st24 fa fb sa za sb zb ua ub true z) (fun i => z.length - i) 0 (Nat.zero_le _) [(16, _), (17, _), (18, _), (19, _), (20, 14)]
    · simp only [st24]
      ((repeat' constructor) <;> (first | refine hold ?_ | rfl) <;> first | with_reducible rfl | (congr 1 <;> omega) | (congr 1 <;> simp; done) | (simp; done) | exact encB_snoc _ _ | skip)
      all_goals first | rfl | (simp; done)
    · intro i hi
      simp only [st24]
      repeat refine seq_on ?_
      refine cmp_dec (fun h1 => ?_) (fun h1 => ?_)
      · have hi' : i < z.length := by omega
        have c1 := hva z[i]
        have c2 := hvb z[i]
        generalize hx : fstV fa z[i] = px at c1
        generalize hy : fstV fb z[i] = py at c2
        obtain ⟨x, u⟩ := px
        obtain ⟨y, v⟩ := py
        have hq0 := dfF_of hx hy
        simp only at c1 c2
        ((try refine And.intro (draw_ok (by kernel_rfl)) ?_); repeat refine seq_on ?_)
        refine Eng.get_at i rfl (getStrs hi') ?_
        refine call_by c1 ?_
        ((try refine And.intro (draw_ok (by kernel_rfl)) ?_); repeat refine seq_on ?_)
        refine Eng.get_at i rfl (getStrs hi') ?_
        refine call_by c2 ?_
        ((try refine And.intro (draw_ok (by kernel_rfl)) ?_); repeat refine seq_on ?_)
        cases u <;> cases v
        · refine cmp_is false rfl ?_
          repeat refine seq_on ?_
          by_cases hxy : x = y
          · have hq : dfF fa fb z[i] = false := by rw [hq0]; simp [hxy]
            refine cmp_is false (by simp [hxy]) ?_
            ((try refine And.intro (draw_ok (by kernel_rfl)) ?_); repeat refine seq_on ?_)
            refine ar ⟨by omega, by omega⟩ ?_
            apply again (i + 1) [(16, _), (17, _), (18, _), (19, _), (20, _)] (by omega) (by omega)
            simp only [st24, filt_keep hi' hq]
            ((repeat' constructor) <;> (first | refine hold ?_ | rfl) <;> first | with_reducible rfl | (congr 1 <;> omega) | (congr 1 <;> simp; done) | (simp; done) | exact encB_snoc _ _ | skip)
          · have hq : dfF fa fb z[i] = true := by rw [hq0]; simp [hxy]
            refine cmp_is true (by simp [hxy]) ?_
            ((try refine And.intro (draw_ok (by kernel_rfl)) ?_); repeat refine seq_on ?_)
            refine Eng.get_at i rfl (getStrs hi') ?_
            refine app_ok (by have := hfl i; have := List.length_take_le i z; simp only [List.length_map, List.length_append, List.length_cons, List.length_nil]; omega) ?_
            ((try refine And.intro (draw_ok (by kernel_rfl)) ?_); repeat refine seq_on ?_)
            refine ar ⟨by omega, by omega⟩ ?_
            apply again (i + 1) [(16, _), (17, _), (18, _), (19, _), (20, _)] (by omega) (by omega)
            simp only [st24, filt_step hi' hq]
            ((repeat' constructor) <;> (first | refine hold ?_ | rfl) <;> first | with_reducible rfl | (congr 1 <;> omega) | (congr 1 <;> simp; done) | (simp; done) | exact encB_snoc _ _ | skip)
            all_goals simp
        · have hq : dfF fa fb z[i] = true := by rw [hq0]; simp
          refine cmp_is true rfl ?_
          ((try refine And.intro (draw_ok (by kernel_rfl)) ?_); repeat refine seq_on ?_)
          refine Eng.get_at i rfl (getStrs hi') ?_
          refine app_ok (by have := hfl i; have := List.length_take_le i z; simp only [List.length_map, List.length_append, List.length_cons, List.length_nil]; omega) ?_
          ((try refine And.intro (draw_ok (by kernel_rfl)) ?_); repeat refine seq_on ?_)
          refine ar ⟨by omega, by omega⟩ ?_
          apply again (i + 1) [(16, _), (17, _), (18, _), (19, _), (20, _)] (by omega) (by omega)
          simp only [st24, filt_step hi' hq]
          ((repeat' constructor) <;> (first | refine hold ?_ | rfl) <;> first | with_reducible rfl | (congr 1 <;> omega) | (congr 1 <;> simp; done) | (simp; done) | exact encB_snoc _ _ | skip)
          all_goals simp
        · have hq : dfF fa fb z[i] = true := by rw [hq0]; simp
          refine cmp_is true rfl ?_
          ((try refine And.intro (draw_ok (by kernel_rfl)) ?_); repeat refine seq_on ?_)
          refine Eng.get_at i rfl (getStrs hi') ?_
          refine app_ok (by have := hfl i; have := List.length_take_le i z; simp only [List.length_map, List.length_append, List.length_cons, List.length_nil]; omega) ?_
          ((try refine And.intro (draw_ok (by kernel_rfl)) ?_); repeat refine seq_on ?_)
          refine ar ⟨by omega, by omega⟩ ?_
          apply again (i + 1) [(16, _), (17, _), (18, _), (19, _), (20, _)] (by omega) (by omega)
          simp only [st24, filt_step hi' hq]
          ((repeat' constructor) <;> (first | refine hold ?_ | rfl) <;> first | with_reducible rfl | (congr 1 <;> omega) | (congr 1 <;> simp; done) | (simp; done) | exact encB_snoc _ _ | skip)
          all_goals simp
        · refine cmp_is false rfl ?_
          repeat refine seq_on ?_
          by_cases hxy : x = y
          · have hq : dfF fa fb z[i] = false := by rw [hq0]; simp [hxy]
            refine cmp_is false (by simp [hxy]) ?_
            ((try refine And.intro (draw_ok (by kernel_rfl)) ?_); repeat refine seq_on ?_)
            refine ar ⟨by omega, by omega⟩ ?_
            apply again (i + 1) [(16, _), (17, _), (18, _), (19, _), (20, _)] (by omega) (by omega)
            simp only [st24, filt_keep hi' hq]
            ((repeat' constructor) <;> (first | refine hold ?_ | rfl) <;> first | with_reducible rfl | (congr 1 <;> omega) | (congr 1 <;> simp; done) | (simp; done) | exact encB_snoc _ _ | skip)
          · have hq : dfF fa fb z[i] = true := by rw [hq0]; simp [hxy]
            refine cmp_is true (by simp [hxy]) ?_
            ((try refine And.intro (draw_ok (by kernel_rfl)) ?_); repeat refine seq_on ?_)
            refine Eng.get_at i rfl (getStrs hi') ?_
            refine app_ok (by have := hfl i; have := List.length_take_le i z; simp only [List.length_map, List.length_append, List.length_cons, List.length_nil]; omega) ?_
            ((try refine And.intro (draw_ok (by kernel_rfl)) ?_); repeat refine seq_on ?_)
            refine ar ⟨by omega, by omega⟩ ?_
            apply again (i + 1) [(16, _), (17, _), (18, _), (19, _), (20, _)] (by omega) (by omega)
            simp only [st24, filt_step hi' hq]
            ((repeat' constructor) <;> (first | refine hold ?_ | rfl) <;> first | with_reducible rfl | (congr 1 <;> omega) | (congr 1 <;> simp; done) | (simp; done) | exact encB_snoc _ _ | skip)
            all_goals simp
      · obtain rfl : i = z.length := by omega
        repeat refine seq_on ?_
        rw [List.take_length]
        refine fin_eqN ?_
        rw [← hbb]
end Go.Proofs.YtbfkfmpfdafogaaGreatDoor

