import Derived.Test.YtbfkfmpfdafogaaGreatDoorMdf4
namespace Go.Proofs.YtbfkfmpfdafogaaGreatDoor
variable {G : List Go.Eng.Gl}
open Go.Eng
attribute [local irreducible] Hold shaF
set_option maxRecDepth 100000

/-! One more field. A value of any length may stand alone: strings.Join gives a single text back. -/
theorem joinOne (a sep : List UInt8) : Does (CG G) 32 [.sl 1 [.s a], .s sep] [.s a] := by
  refine Does.mk (n := 75) Tryz.func32 rfl rfl rfl (Nat.le_of_ble_eq_true rfl) ?_
  repeat refine seq_on ?_
  refine cmp_no (by simp) ?_
  repeat refine seq_on ?_
  refine cmp_yes rfl ?_
  repeat refine seq_on ?_
  refine Eng.get_at 0 rfl (x := .s a) rfl ?_
  repeat refine seq_on ?_
  rfl
structure FOkV (l : List Fld) (ign : List Nm) : Prop where
  len : l.length ≤ 1000000
  nm : ∀ f, f ∈ l → f.1.length ≤ 140737488355328
  sum : lsum (valsF connN l) ≤ 4294967295
  els : ∀ e, e ∈ lstF (valsF connN l) → e.length ≤ 140737488355328
  ilen : ign.length ≤ 999990
  inm : ∀ n, n ∈ ign → n.length ≤ 140737488355328
  join : ∀ n, (valsP n (prs (keptF l ign))).length = 1 ∨ (joinF (valsP n (prs (keptF l ign))) sepF).length ≤ 140737488355328
theorem fields46v (l : List Fld) (ign : List Nm) (h : FOkV l ign) : Does (CG G) 11 [.sl 2 (l.map fldD), strs ign] [.sl 2 ((normF l ign).map fldD)] := by
  have hsl : (stripF l).length ≤ l.length := woF_len _ _
  have hkl : (keptF l ign).length ≤ l.length := Nat.le_trans (woF_len _ _) hsl
  have hkm : ∀ f, f ∈ keptF l ign → f ∈ l := fun f hf => woF_mem (woF_mem hf)
  have hlen := h.len
  have hil := h.ilen
  have hvd : ∀ x, x ∈ [viaN, dateN] → x.length ≤ 140737488355328 := by decide
  have cs := strip89 (G := G) l (by omega) h.nm (Nat.le_trans h.sum (by decide)) h.els
  have cw := wo88 (G := G) (stripF l) (viaN :: dateN :: ign) (by omega) (fun f hf => h.nm f (woF_mem hf)) (by simp only [List.length_cons]; omega) (fun n hn => by
    rcases List.mem_cons.1 hn with rfl | hn
    · exact hvd _ (by simp)
    · rcases List.mem_cons.1 hn with rfl | hn
      · exact hvd _ (by simp)
      · exact h.inm n hn)
  refine ⟨⟨_, Tryz.func11, by decide, rfl⟩, fun w X vs hX hG hl hd => ?_⟩
  obtain ⟨v0, v1, rfl⟩ : ∃ v0 v1, vs = #[v0, v1] := by
    obtain ⟨l⟩ := vs
    match l, hl with
    | [x, y], _ => exact ⟨x, y, rfl⟩
  refine (fields_go l ign (keptF l ign) w X ⟨hX, hG⟩ v0 v1 (hd 0 _ v0 rfl rfl) (hd 1 _ v1 rfl rfl) (stripF l) cs cw (fun f hf => lowA (G := G) f.1 (h.nm f (hkm f hf))) (by omega) (by omega) (fun f hf => h.nm f (hkm f hf)) (fun f hf => ?_)).mono ?_
  · rcases h.join f.1 with h1 | h1
    · obtain ⟨a, ha⟩ := List.length_eq_one_iff.1 h1
      rw [ha, show joinF [a] sepF = a by unfold joinF; rw [Go.Lib.join_one]]
      exact joinOne a sepF
    · exact join58 (G := G) _ _ (by have := valsP_len f.1 (prs (keptF l ign)); have : (prs (keptF l ign)).length = (keptF l ign).length := List.length_map _; omega) h1
  · rintro e w' ⟨v, rfl, hr, hb⟩
    exact ⟨v, rfl, .d _ _ hr, hb⟩
theorem see20v (st : Int) (rs : List UInt8) (mi : Int) (fs : List Fld) (b : List UInt8) (ign : List Nm) (h : FOkV fs ign) (hb : b.length ≤ 34359738368) : Does (CD G) 20 [rplD st rs mi fs b, strs ign] [snD (seeF st fs b ign)] := by
  have c1 := fields46v (G := gD G) fs ign h
  have c2 := of46 (G := G) b hb
  have hl : (encB b).length = b.length := encB_len b
  unfold snD seenD seeF
  simp only
  rw [← hl]
  generalize shaF b = y at *
  generalize normF fs ign = z at *
  unfold strs at *
  unfold rplD
  refine Does.mk (n := 19) Tryz.func20 rfl rfl rfl (Nat.le_of_ble_eq_true rfl) ?_
  ((try refine And.intro (draw_ok (by kernel_rfl)) ?_); repeat refine seq_on ?_)
  refine call_by c1 ?_
  refine call_by c2 ?_
  ((try refine And.intro (draw_ok (by kernel_rfl)) ?_); repeat refine seq_on ?_)
  rfl
/-! The names and values of the source. -/
def xnN : Nm := [88, 45, 78, 101, 119]
def xnL : Nm := [120, 45, 110, 101, 119]
def xnU : Nm := [120, 45, 78, 69, 87]
theorem n14_new : ∀ n, n ∈ n14 → lowF n ≠ xnL := by decide +kernel
theorem v11_new : ∀ v, v ∈ v11 → ∀ e, e ∈ elF (trimF v) → lowF e ≠ xnL := by decide +kernel
theorem mem_fldsW (l : List Int) : ∀ (n i : Nat) (o : List Fld) (f : Fld), f ∈ (fldsW l n i o).2 → f ∈ o ∨ ∃ j, f = fldF l j
  | 0, _, _, _, h => .inl h
  | n + 1, i, o, f, h => by
    rcases mem_fldsW l n _ _ f h with h | h
    · rcases List.mem_append.1 h with h | h
      · exact .inl h
      · exact .inr ⟨i, by simpa using h⟩
    · exact .inr h
theorem mdFs_mem {l : List Int} {f : Fld} (h : f ∈ mdFs l) : lowF f.1 ≠ xnL ∧ ∀ e, e ∈ elF f.2 → lowF e ≠ xnL := by
  obtain h | ⟨j, rfl⟩ := mem_fldsW l _ _ _ f h
  · cases h
  · exact ⟨n14_new _ (ofF_mem l j n14 (by decide)), v11_new _ (ofF_mem l (nxt l j) v11 (by decide))⟩
/-! What one more field does. -/
theorem isName_new (n : Nm) (v : List UInt8) : isName n (xnN, v) = decide (xnL = lowF n) := rfl
theorem vals_new (x : List Fld) (v : List UInt8) : valsF connN (x ++ [(xnN, v)]) = valsF connN x := by
  unfold valsF
  rw [List.filter_append]
  have : ([(xnN, v)] : List Fld).filter (isName connN) = [] := rfl
  rw [this, List.append_nil]
theorem fixed_new (v : List UInt8) : anyN fixedN (xnN, v) = false := rfl
theorem strip_new {x : List Fld} (v : List UInt8) (h : ∀ f ∈ x, ∀ e, e ∈ elF f.2 → lowF e ≠ xnL) : stripF (x ++ [(xnN, v)]) = stripF x ++ [(xnN, v)] := by
  have e : stripN (x ++ [(xnN, v)]) = stripN x := by unfold stripN; rw [vals_new]
  unfold stripF
  rw [e, woF_snoc, if_neg]
  unfold stripN
  rw [anyN_app, fixed_new, Bool.false_or]
  intro hc
  obtain ⟨n, hn, hi⟩ := List.any_eq_true.1 hc
  rw [isName_new, decide_eq_true_eq] at hi
  obtain ⟨s, hs, he⟩ := List.mem_flatMap.1 (List.mem_filter.1 hn).1
  obtain ⟨f, hf, rfl⟩ := List.mem_map.1 hs
  exact h f (List.mem_filter.1 hf).1 n he hi.symm
theorem kept_new {x : List Fld} (v : List UInt8) (h : ∀ f ∈ x, ∀ e, e ∈ elF f.2 → lowF e ≠ xnL) : keptF (x ++ [(xnN, v)]) [] = keptF x [] ++ [(xnN, v)] := by
  unfold keptF
  rw [strip_new v h, woF_snoc, if_neg]
  rw [show anyN [viaN, dateN] (xnN, v) = false from rfl]
  decide
theorem kept_skip {x : List Fld} (v : List UInt8) (h : ∀ f ∈ x, ∀ e, e ∈ elF f.2 → lowF e ≠ xnL) : keptF (x ++ [(xnN, v)]) [xnU] = keptF x [xnU] := by
  unfold keptF
  rw [strip_new v h, woF_snoc, if_pos]
  rfl
theorem prs_new (k : List Fld) (v : List UInt8) : prs (k ++ [(xnN, v)]) = prs k ++ [(xnL, v)] := by
  unfold prs
  rw [List.map_append]
  rfl
theorem fstV_rows (p : List Fld) (n : Nm) : ∀ ns : List Nm, fstV (ns.map (rowF p)) n = if n ∈ ns then ((rowF p n).2, true) else ([], false)
  | [] => rfl
  | a :: r => by
    rw [List.map_cons, fstV, fstV_rows p n r]
    have e : (rowF p a).1 = a := rfl
    rw [e]
    by_cases h : a = n
    · subst h; simp
    · rw [if_neg h]
      simp [h, Ne.symm h]
theorem fstV_group (p : List Fld) (n : Nm) : fstV (groupF p) n = if n ∈ p.map (·.1) then (joinF (valsP n p) sepF, true) else ([], false) := by
  unfold groupF
  rw [fstV_rows]
  simp only [mem_distF]
  rfl
theorem group_nms (p : List Fld) : nmsF (groupF p) = distF (p.map (·.1)) := by
  unfold nmsF groupF
  rw [List.map_map]
  exact (List.map_congr_left fun _ _ => rfl).trans (List.map_id _)
theorem nmsDF_new {p : List Fld} {m : Nm} (v : List UInt8) (h : ∀ f ∈ p, f.1 ≠ m) : nmsDF (groupF p) (groupF (p ++ [(m, v)])) = [m] := by
  have hm : m ∉ p.map (·.1) := fun hc => by
    obtain ⟨f, hf, e⟩ := List.mem_map.1 hc
    exact h f hf e
  refine asc_ext (List.Pairwise.filter _ (distF_asc _)) (List.pairwise_singleton _ _) fun x => ?_
  have hin : x ∈ (p ++ [(m, v)]).map (·.1) ↔ x ∈ p.map (·.1) ∨ x = m := by simp
  unfold nmsDF nmsF
  rw [List.mem_filter, mem_distF, List.mem_singleton]
  rw [List.map_append, List.mem_append]
  have g1 := group_nms p
  have g2 := group_nms (p ++ [(m, v)])
  unfold nmsF at g1 g2
  rw [g1, g2, mem_distF, mem_distF, hin]
  unfold dfF
  rw [fstV_group, fstV_group, decide_eq_true_eq]
  constructor
  · rintro ⟨_, hne⟩
    by_cases hx : x = m
    · exact hx
    · exfalso
      apply hne
      have hv : valsP x (p ++ [(m, v)]) = valsP x p := by rw [valsP_snoc, if_neg (fun e => hx e.symm)]
      rw [hv]
      have : (x ∈ (p ++ [(m, v)]).map (·.1)) = (x ∈ p.map (·.1)) := propext (hin.trans ⟨fun h => h.resolve_right hx, .inl⟩)
      simp only [this]
  · rintro rfl
    refine ⟨.inr (.inr rfl), ?_⟩
    rw [if_neg hm, if_pos (hin.2 (.inr rfl))]
    exact fun e => Bool.noConfusion (congrArg Prod.snd e)
theorem low_new {k : List Fld} (h : ∀ f ∈ k, lowF f.1 ≠ xnL) : ∀ f ∈ prs k, f.1 ≠ xnL := fun f hf => by
  obtain ⟨g, hg, rfl⟩ := List.mem_map.1 hf
  exact h g hg
theorem okV_new {x : List Fld} {ign : List Nm} (v : List UInt8) (hx : FOk x ign) (hl : x.length ≤ 999999) (h : ∀ f ∈ x, lowF f.1 ≠ xnL ∧ ∀ e, e ∈ elF f.2 → lowF e ≠ xnL) (hi : ign = [] ∨ ign = [xnU]) : FOkV (x ++ [(xnN, v)]) ign := by
  have h2 : ∀ f ∈ x, ∀ e, e ∈ elF f.2 → lowF e ≠ xnL := fun f hf => (h f hf).2
  refine ⟨by simp; omega, fun f hf => ?_, by rw [vals_new]; exact hx.sum, by rw [vals_new]; exact hx.els, hx.ilen, hx.inm, fun n => ?_⟩
  · rcases List.mem_append.1 hf with hf | hf
    · exact hx.nm f hf
    · obtain rfl : f = (xnN, v) := by simpa using hf
      show xnN.length ≤ 140737488355328
      decide
  · rcases hi with rfl | rfl
    · rw [kept_new v h2, prs_new]
      by_cases hn : n = xnL
      · subst hn
        refine .inl ?_
        rw [valsP_snoc, if_pos rfl, valsP_none (low_new (k := keptF x []) fun f hf => (h f (woF_mem (woF_mem hf))).1)]
        rfl
      · refine .inr ?_
        rw [valsP_snoc, if_neg fun e => hn e.symm]
        exact hx.join n
    · rw [kept_skip v h2]
      exact .inr (hx.join n)
theorem norm_new {x : List Fld} (v : List UInt8) (h : ∀ f ∈ x, ∀ e, e ∈ elF f.2 → lowF e ≠ xnL) : normF (x ++ [(xnN, v)]) [] = groupF (prs (keptF x []) ++ [(xnL, v)]) := by
  unfold normF
  rw [kept_new v h, prs_new]
theorem norm_skip {x : List Fld} (v : List UInt8) (h : ∀ f ∈ x, ∀ e, e ∈ elF f.2 → lowF e ≠ xnL) : normF (x ++ [(xnN, v)]) [xnU] = normF x [xnU] := by
  unfold normF
  rw [kept_skip v h]
attribute [local irreducible] normF
set_option maxHeartbeats 1000000 in
theorem lawDifferField (l : List Int) (v : List UInt8) (skip : Bool) (hl : l.length ≤ 9223372036854775807) :
    Does (CD G) 8 [ints l, .s v, .b skip] [.b true] := by
  have ml := made17 (G := gD G) l hl
  have hA := awake18 (G := G)
  have hml := mdFs_small l
  have hbl := mdB_len l
  have hq : ∀ f ∈ mdFs l, lowF f.1 ≠ xnL ∧ ∀ e, e ∈ elF f.2 → lowF e ≠ xnL := fun f hf => mdFs_mem hf
  have hq2 : ∀ f ∈ mdFs l, ∀ e, e ∈ elF f.2 → lowF e ≠ xnL := fun f hf => (hq f hf).2
  have hfl : ((mdFs l).map fldD).length = (mdFs l).length := by simp
  have hu := shaF_len (mdB l)
  have hmap : (mdFs l ++ [(xnN, v)]).map fldD = (mdFs l).map fldD ++ [.agg [.s xnN, .s v]] := by rw [List.map_append]; rfl
  cases skip with
  | true =>
    have hF : FOk (mdFs l) [xnU] := FOk.small (by omega) (by omega) (by decide) (by decide)
    have s1 := see20 (G := G) (mdSt l) [] 1 (mdFs l) (mdB l) [xnU] hF (by omega)
    have s2 := see20v (G := G) (mdSt l) [] 1 (mdFs l ++ [(xnN, v)]) (mdB l) [xnU] (okV_new v hF (by omega) hq (.inr rfl)) (by omega)
    have hll := seeF_len (mdSt l) (mdFs l) (mdB l) [xnU]
    have hs : (seeF (mdSt l) (mdFs l) (mdB l) [xnU]).sum.length = 32 := hu
    rw [show seeF (mdSt l) (mdFs l ++ [(xnN, v)]) (mdB l) [xnU] = seeF (mdSt l) (mdFs l) (mdB l) [xnU] by unfold seeF; rw [norm_skip v hq2]] at s2
    generalize seeF (mdSt l) (mdFs l) (mdB l) [xnU] = y at *
    have c3 := compare23 (G := gD G) y y (by omega) (by omega) (by omega) (by omega)
    rw [cmp_self] at c3
    have c6 := same25 (G := gD G) false false [] (Nat.zero_le _)
    unfold rplD at *
    rw [hmap] at s2
    unfold snD seenD at *
    unfold difD strs at *
    refine Does.mk (n := 62) Tryz.func8 rfl rfl rfl (Nat.le_of_ble_eq_true rfl) ?_
    repeat refine seq_on ?_
    refine call_by ml ?_
    repeat refine seq_on ?_
    refine app_ok (by simp; omega) ?_
    refine app_ok (by simp; omega) ?_
    apply seq_inv (fun _ : Unit => True) (fun _ => ⟨[(2, .d (.b true)), (7, .op 16 0 0), (8, .op 17 0 0), (9, .d (.sl 1 [.s xnU]))], [(16, some (.box [.d (.i .i64 (mdSt l)), .d (.s []), .d (.i .i64 1), .d (.sl 2 ((mdFs l).map fldD)), .d (.sl 1 (encB (mdB l)))])), (17, some (.box [.d (.i .i64 (mdSt l)), .d (.s []), .d (.i .i64 1), .d (.sl 2 ((mdFs l).map fldD ++ [.agg [.s xnN, .s v]])), .d (.sl 1 (encB (mdB l)))]))], 2⟩)
    · repeat refine seq_on ?_
      apply cut_inv () [(16, _), (17, _)] trivial
      ((repeat' constructor) <;> (first | refine hold ?_ | rfl) <;> first | with_reducible rfl | (congr 1 <;> omega) | (congr 1 <;> simp; done) | (simp; done) | exact encB_snoc _ _ | skip)
    intro _ _
    ((try refine And.intro (draw_ok (by kernel_rfl)) ?_); repeat refine seq_on ?_)
    refine call_by s1 ?_
    refine call_by s2 ?_
    refine call_by c3 ?_
    ((try refine And.intro (draw_ok (by kernel_rfl)) ?_); repeat refine seq_on ?_)
    refine call_by c6 ?_
    refine call_by hA ?_
    ((try refine And.intro (draw_ok (by kernel_rfl)) ?_); repeat refine seq_on ?_)
    rfl
  | false =>
    have hF : FOk (mdFs l) [] := FOk.small (by omega) (by omega) (by decide) (by simp)
    have s1 := see20 (G := G) (mdSt l) [] 1 (mdFs l) (mdB l) [] hF (by omega)
    have s2 := see20v (G := G) (mdSt l) [] 1 (mdFs l ++ [(xnN, v)]) (mdB l) [] (okV_new v hF (by omega) hq (.inl rfl)) (by omega)
    have hll := seeF_len (mdSt l) (mdFs l) (mdB l) []
    have hl2 := seeF_len (mdSt l) (mdFs l ++ [(xnN, v)]) (mdB l) []
    rw [List.length_append, List.length_singleton] at hl2
    have hs : (seeF (mdSt l) (mdFs l) (mdB l) []).sum.length = 32 := hu
    have hs2 : (seeF (mdSt l) (mdFs l ++ [(xnN, v)]) (mdB l) []).sum.length = 32 := hu
    have hcm : cmpD (seeF (mdSt l) (mdFs l) (mdB l) []) (seeF (mdSt l) (mdFs l ++ [(xnN, v)]) (mdB l) []) = difD false false [xnL] := by
      unfold cmpD bodyF seeF
      simp only
      rw [norm_new v hq2]
      unfold normF
      rw [nmsDF_new v (low_new (k := keptF (mdFs l) []) fun f hf => (hq f (woF_mem (woF_mem hf))).1)]
      simp
    have c3 := compare23 (G := gD G) (seeF (mdSt l) (mdFs l) (mdB l) []) (seeF (mdSt l) (mdFs l ++ [(xnN, v)]) (mdB l) []) (by omega) (by omega) (by omega) (by omega)
    rw [hcm] at c3
    generalize seeF (mdSt l) (mdFs l) (mdB l) [] = y at *
    generalize seeF (mdSt l) (mdFs l ++ [(xnN, v)]) (mdB l) [] = z at *
    unfold rplD at *
    rw [hmap] at s2
    unfold snD seenD at *
    unfold difD strs at *
    refine Does.mk (n := 62) Tryz.func8 rfl rfl rfl (Nat.le_of_ble_eq_true rfl) ?_
    repeat refine seq_on ?_
    refine call_by ml ?_
    repeat refine seq_on ?_
    refine app_ok (by simp; omega) ?_
    refine app_ok (by simp; omega) ?_
    apply seq_inv (fun _ : Unit => True) (fun _ => ⟨[(2, .d (.b false)), (7, .op 16 0 0), (8, .op 17 0 0), (9, .d (.sl 1 []))], [(16, some (.box [.d (.i .i64 (mdSt l)), .d (.s []), .d (.i .i64 1), .d (.sl 2 ((mdFs l).map fldD)), .d (.sl 1 (encB (mdB l)))])), (17, some (.box [.d (.i .i64 (mdSt l)), .d (.s []), .d (.i .i64 1), .d (.sl 2 ((mdFs l).map fldD ++ [.agg [.s xnN, .s v]])), .d (.sl 1 (encB (mdB l)))]))], 2⟩)
    · repeat refine seq_on ?_
      apply cut_inv () [(16, _), (17, _)] trivial
      ((repeat' constructor) <;> (first | refine hold ?_ | rfl) <;> first | with_reducible rfl | (congr 1 <;> omega) | (congr 1 <;> simp; done) | (simp; done) | exact encB_snoc _ _ | skip)
    intro _ _
    ((try refine And.intro (draw_ok (by kernel_rfl)) ?_); repeat refine seq_on ?_)
    refine call_by s1 ?_
    refine call_by s2 ?_
    refine call_by c3 ?_
    ((try refine And.intro (draw_ok (by kernel_rfl)) ?_); repeat refine seq_on ?_)
    refine cmp_yes rfl ?_
    repeat refine seq_on ?_
    refine Eng.get_at 0 rfl (x := .s xnL) rfl ?_
    refine cmp_is true rfl ?_
    repeat refine seq_on ?_
    refine call_by hA ?_
    ((try refine And.intro (draw_ok (by kernel_rfl)) ?_); repeat refine seq_on ?_)
    rfl
end Go.Proofs.YtbfkfmpfdafogaaGreatDoor

