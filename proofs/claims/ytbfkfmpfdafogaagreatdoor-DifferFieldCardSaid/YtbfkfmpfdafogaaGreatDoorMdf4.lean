import Derived.Test.YtbfkfmpfdafogaaGreatDoorMdf3
import Derived.Test.YtbfkfmpfdafogaaGreatDoorMnp
import Derived.Test.YtbfkfmpfdafogaaGreatDoorMf
namespace Go.Proofs.YtbfkfmpfdafogaaGreatDoor
variable {G : List Go.Eng.Gl}
open Go.Eng
attribute [local irreducible] Hold
set_option maxRecDepth 100000

/-! The replies of the source. -/
def mdSt (l : List Int) : Int := 200 + (nxV l 0 2 : Int)
def mdFs (l : List Int) : List Fld := (fldsF l (nxt l 0) 5).2
def mdB (l : List Int) : List UInt8 := (bytesF l (fldsF l (nxt l 0) 5).1 3).1
theorem fldsW_le (l : List Int) : ∀ (n i : Nat) (o : List Fld), i ≤ l.length → (fldsW l n i o).1 ≤ l.length
  | 0, _, _, h => h
  | n + 1, _, o, h => fldsW_le l n _ _ (nxt_le' (nxt_le' h).2).2
theorem fldsF_le (l : List Int) (i : Nat) (most : Int) (h : i ≤ l.length) : (fldsF l i most).1 ≤ l.length := fldsW_le l _ _ _ (nxt_le' h).2
theorem made17 (l : List Int) (hl : l.length ≤ 9223372036854775807) : Does (CG G) 17 [ints l] [rplD (mdSt l) [] 1 (mdFs l) (mdB l)] := by
  have n0 := nxt_le' (Nat.zero_le l.length)
  have c1 := nextV (G := G) l 0 2 (Nat.zero_le _) hl (by decide)
  have c2 := flds87 (G := G) l (nxt l 0) 5 n0.2 hl (by decide)
  have c3 := bytesV (G := G) l (fldsF l (nxt l 0) 5).1 3 (fldsF_le l _ 5 n0.2) hl (by decide)
  have hn := nxV_lt l 0 2 (by decide)
  unfold rplD mdSt mdFs mdB
  unfold srcB at c1 c2 c3
  refine Does.mk (n := 15) Tryz.func17 rfl rfl rfl (Nat.le_of_ble_eq_true rfl) ?_
  repeat refine seq_on ?_
  refine callh [(0, 64)] c1 ?_ ?_
  · ((repeat' constructor) <;> (first | refine hold ?_ | rfl) <;> first | with_reducible rfl | (congr 1 <;> omega) | (congr 1 <;> simp; done) | (simp; done) | exact encB_snoc _ _ | skip)
  repeat refine seq_on ?_
  refine ar ⟨by omega, by omega⟩ ?_
  refine callh [(0, 64)] c2 ?_ ?_
  · ((repeat' constructor) <;> (first | refine hold ?_ | rfl) <;> first | with_reducible rfl | (congr 1 <;> omega) | (congr 1 <;> simp; done) | (simp; done) | exact encB_snoc _ _ | skip)
  repeat refine seq_on ?_
  refine callh [(0, 64)] c3 ?_ ?_
  · ((repeat' constructor) <;> (first | refine hold ?_ | rfl) <;> first | with_reducible rfl | (congr 1 <;> omega) | (congr 1 <;> simp; done) | (simp; done) | exact encB_snoc _ _ | skip)
  repeat refine seq_on ?_
  rfl
theorem mdFs_small (l : List Int) : (mdFs l).length ≤ 5 ∧ fsz (mdFs l) ≤ 280 := by
  have := fldsF_small l (nxt l 0) 5 (by decide)
  unfold mdFs
  omega
theorem mdB_len (l : List Int) : (mdB l).length ≤ 3 := by
  unfold mdB bytesF
  rw [byW_len]
  have := nxV_lt l (fldsF l (nxt l 0) 5).1 (3 + 1) (by decide)
  simp only [List.length_nil]
  omega
theorem cmp_self (a : Sn) : cmpD a a = difD false false [] := by
  have h : nmsDF a.fs a.fs = [] := by
    unfold nmsDF
    rw [List.filter_eq_nil_iff]
    intro n _
    unfold dfF
    simp
  unfold cmpD bodyF
  rw [h]
  simp
theorem shaF_len (b : List UInt8) : (shaF b).length = 32 := by
  unfold shaF sumF outF
  generalize stepsF _ _ _ = s
  simp [St.l, wordBs]
attribute [local irreducible] shaF
theorem awake18 : Does (CD G) 18 [] [.b true] := by
  have hF : FOk [] [] := FOk.small (by decide) (by decide) (by decide) (by simp)
  have c1 := see20 (G := G) 200 [] 0 [] [120] [] hF (by decide)
  have c2 := see20 (G := G) 500 [] 0 [] [120] [] hF (by decide)
  have e1 : seeF 200 [] [120] [] = ⟨200, [], 1, shaF [120]⟩ := rfl
  have e2 : seeF 500 [] [120] [] = ⟨500, [], 1, shaF [120]⟩ := rfl
  have hsl : (shaF [120]).length ≤ 9223372036854775807 := by rw [shaF_len]; decide
  rw [e1] at c1
  rw [e2] at c2
  generalize shaF [120] = y at *
  have c3 := compare23 (G := gD G) ⟨200, [], 1, y⟩ ⟨500, [], 1, y⟩ (Nat.zero_le _) (Nat.zero_le _) hsl hsl
  have c4 := compare23 (G := gD G) ⟨200, [], 1, y⟩ ⟨200, [], 1, y⟩ (Nat.zero_le _) (Nat.zero_le _) hsl hsl
  have e3 : cmpD ⟨200, [], 1, y⟩ ⟨500, [], 1, y⟩ = difD true false [] := by
    unfold cmpD bodyF
    simp
    rfl
  rw [e3] at c3
  rw [cmp_self] at c4
  have c5 := same25 (G := gD G) true false [] (by decide)
  have c6 := same25 (G := gD G) false false [] (by decide)
  unfold snD seenD at *
  unfold rplD strs at c1 c2
  unfold difD strs at *
  simp only [List.map_nil] at *
  refine Does.mk (n := 39) Tryz.func18 rfl rfl rfl (Nat.le_of_ble_eq_true rfl) ?_
  repeat refine seq_on ?_
  refine call_by c1 ?_
  repeat refine seq_on ?_
  refine call_by c2 ?_
  repeat refine seq_on ?_
  refine call_by c3 ?_
  repeat refine seq_on ?_
  refine cmp_yes rfl ?_
  repeat refine seq_on ?_
  refine call_by c5 ?_
  repeat refine seq_on ?_
  refine call_by c4 ?_
  refine call_by c6 ?_
  repeat refine seq_on ?_
  rfl
end Go.Proofs.YtbfkfmpfdafogaaGreatDoor

namespace Go.Proofs.YtbfkfmpfdafogaaGreatDoor
variable {G : List Go.Eng.Gl}
open Go.Eng
attribute [local irreducible] Hold shaF
set_option maxRecDepth 100000

theorem same22 (d : D) (s b : Bool) (ns : List Nm) (h : ns.length ≤ 9223372036854775807) (hd : d = difD s b ns) : Does (CG G) 22 [d, d] [.b true] := by
  subst hd
  exact sameDif22 (G := G) s b ns h
theorem nmsDF_len (a b : List Fld) : (nmsDF a b).length ≤ a.length + b.length := by
  unfold nmsDF
  refine Nat.le_trans (List.length_filter_le _ _) (Nat.le_trans (distF_len _) ?_)
  unfold nmsF
  rw [List.length_map, List.length_append]
  exact Nat.le_refl _
theorem cmp_swap (a b : Sn) : cmpD a b = cmpD b a := by
  have h1 : distF (nmsF (a.fs ++ b.fs)) = distF (nmsF (b.fs ++ a.fs)) := by
    refine asc_ext (distF_asc _) (distF_asc _) fun x => ?_
    rw [mem_distF, mem_distF]
    unfold nmsF
    rw [List.map_append, List.map_append, List.mem_append, List.mem_append]
    exact or_comm
  have h2 : dfF a.fs b.fs = dfF b.fs a.fs := by
    funext n
    unfold dfF
    exact decide_eq_decide.2 ⟨Ne.symm, Ne.symm⟩
  unfold cmpD nmsDF bodyF
  rw [h1, h2, decide_eq_decide.2 (⟨Ne.symm, Ne.symm⟩ : a.st ≠ b.st ↔ b.st ≠ a.st), decide_eq_decide.2 (⟨Ne.symm, Ne.symm⟩ : a.sz ≠ b.sz ↔ b.sz ≠ a.sz), decide_eq_decide.2 (⟨Ne.symm, Ne.symm⟩ : a.sum ≠ b.sum ↔ b.sum ≠ a.sum)]
theorem seeF_len (st : Int) (fs : List Fld) (b : List UInt8) (ign : List Nm) : (seeF st fs b ign).fs.length ≤ fs.length := norm_len fs ign

set_option maxHeartbeats 1000000 in
theorem lawDifferSee (l : List Int) (st : Int) (rs : List UInt8) (mi : Int) (fs : List Fld) (b : List UInt8) (ign : List Nm) (wild : Bool) (hl : l.length ≤ 9223372036854775807) (hs : fsz fs ≤ 4194304) (hb : b.length ≤ 34359738368) (hi : ∀ n, n ∈ ign → n.length ≤ 140737488355328) (hil : ign.length ≤ 9223372036854775807) :
    Does (CD G) 4 [ints l, rplD st rs mi fs b, strs ign, .b wild] [.b true] := by
  have hm := made17 (G := gD G) l hl
  have ha := awake18 (G := G)
  have hi2 : (ign.map D.s).length = ign.length := by simp
  have both : ∀ (st' : Int) (rs' : List UInt8) (mi' : Int) (fs' : List Fld) (b' : List UInt8), fsz fs' ≤ 4194304 → b'.length ≤ 34359738368 → fs'.length ≤ 30 → ign.length ≤ 10 →
      Does (CD G) 20 [rplD st' rs' mi' fs' b', strs ign] [snD (seeF st' fs' b' ign)] ∧ Does (CG (gD G)) 21 [rplD st' rs' mi' fs' b', strs ign] [snD (seeF st' fs' b' ign)] ∧ Does (CG (gD G)) 19 [snD (seeF st' fs' b' ign), snD (seeF st' fs' b' ign)] [.b true] := by
    intro st' rs' mi' fs' b' h1 h2 h3 h4
    have hF : FOk fs' ign := FOk.small (by omega) (by omega) (by omega) hi
    refine ⟨see20 (G := G) _ _ _ _ _ _ hF h2, see21 (G := gD G) _ _ _ _ _ _ hF h2, sameSeen19 (G := gD G) _ _ _ _ ?_⟩
    have := seeF_len st' fs' b' ign
    omega
  have hfl : (fs.map fldD).length = fs.length := by simp
  have hml : ((mdFs l).map fldD).length = (mdFs l).length := by simp
  have hmf := mdFs_small l
  have hmb := mdB_len l
  cases wild with
  | true =>
    by_cases h30 : fs.length ≤ 30 ∧ ign.length ≤ 10
    · obtain ⟨c1, c2, c3⟩ := both st rs mi fs b hs hb h30.1 h30.2
      generalize seeF st fs b ign = y at c1 c2 c3
      unfold snD seenD at c1 c2 c3
      unfold rplD strs at *
      refine Does.mk (n := 34) Tryz.func4 rfl rfl rfl (Nat.le_of_ble_eq_true rfl) ?_
      repeat refine seq_on ?_
      refine call_by hm ?_
      repeat refine seq_on ?_
      refine cmp_no (by omega) ?_
      repeat refine seq_on ?_
      refine cmp_no (by omega) ?_
      ((try refine And.intro (draw_ok (by kernel_rfl)) ?_); repeat refine seq_on ?_)
      refine call_by c1 ?_
      refine call_by c2 ?_
      refine call_by c3 ?_
      refine call_by ha ?_
      ((try refine And.intro (draw_ok (by kernel_rfl)) ?_); repeat refine seq_on ?_)
      rfl
    · unfold rplD strs at *
      refine Does.mk (n := 34) Tryz.func4 rfl rfl rfl (Nat.le_of_ble_eq_true rfl) ?_
      repeat refine seq_on ?_
      refine call_by hm ?_
      repeat refine seq_on ?_
      refine cmp_dec (fun h => ?_) (fun h => ?_)
      · repeat refine seq_on ?_
        refine call_by ha ?_
        repeat refine seq_on ?_
        rfl
      · repeat refine seq_on ?_
        refine cmp_yes (by omega) ?_
        repeat refine seq_on ?_
        refine call_by ha ?_
        repeat refine seq_on ?_
        rfl
  | false =>
    by_cases h30 : ign.length ≤ 10
    · obtain ⟨c1, c2, c3⟩ := both (mdSt l) [] 1 (mdFs l) (mdB l) (by omega) (by omega) (by omega) h30
      generalize seeF (mdSt l) (mdFs l) (mdB l) ign = y at c1 c2 c3
      unfold snD seenD at c1 c2 c3
      unfold rplD strs at *
      refine Does.mk (n := 34) Tryz.func4 rfl rfl rfl (Nat.le_of_ble_eq_true rfl) ?_
      repeat refine seq_on ?_
      refine call_by hm ?_
      repeat refine seq_on ?_
      refine cmp_no (by omega) ?_
      repeat refine seq_on ?_
      refine cmp_no (by omega) ?_
      ((try refine And.intro (draw_ok (by kernel_rfl)) ?_); repeat refine seq_on ?_)
      refine call_by c1 ?_
      refine call_by c2 ?_
      refine call_by c3 ?_
      refine call_by ha ?_
      ((try refine And.intro (draw_ok (by kernel_rfl)) ?_); repeat refine seq_on ?_)
      rfl
    · unfold rplD strs at *
      refine Does.mk (n := 34) Tryz.func4 rfl rfl rfl (Nat.le_of_ble_eq_true rfl) ?_
      repeat refine seq_on ?_
      refine call_by hm ?_
      repeat refine seq_on ?_
      refine cmp_no (by omega) ?_
      repeat refine seq_on ?_
      refine cmp_yes (by omega) ?_
      repeat refine seq_on ?_
      refine call_by ha ?_
      repeat refine seq_on ?_
      rfl
end Go.Proofs.YtbfkfmpfdafogaaGreatDoor

namespace Go.Proofs.YtbfkfmpfdafogaaGreatDoor
variable {G : List Go.Eng.Gl}
open Go.Eng
attribute [local irreducible] Hold shaF
set_option maxRecDepth 100000

def samB (s b : Bool) (ns : List Nm) : Bool := !s && !b && decide (ns = [])
theorem eqB (a : Bool) : (a == a) = true := by cases a <;> rfl
set_option maxHeartbeats 1000000 in
theorem lawDifferCompare (l m : List Int) (a b : Sn) (s t : Bool) (ns : List Nm) (wild : Bool) (hl : l.length ≤ 9223372036854775807) (hm : m.length ≤ 9223372036854775807) (ha : a.sum.length ≤ 9223372036854775807) (hb : b.sum.length ≤ 9223372036854775807) (hns : ns.length ≤ 9223372036854775807) :
    Does (CD G) 5 [ints l, ints m, snD a, snD b, difD s t ns, .b wild] [.b true] := by
  have ml := made17 (G := gD G) l hl
  have mm := made17 (G := gD G) m hm
  have hA := awake18 (G := G)
  have hml := mdFs_small l
  have hmm := mdFs_small m
  have hbl := mdB_len l
  have hbm := mdB_len m
  have sl := see21 (G := gD G) (mdSt l) [] 1 (mdFs l) (mdB l) [] (FOk.small (by omega) (by omega) (Nat.zero_le _) (by simp)) (by omega)
  have sm := see21 (G := gD G) (mdSt m) [] 1 (mdFs m) (mdB m) [] (FOk.small (by omega) (by omega) (Nat.zero_le _) (by simp)) (by omega)
  have hll := seeF_len (mdSt l) (mdFs l) (mdB l) []
  have hlm := seeF_len (mdSt m) (mdFs m) (mdB m) []
  have hul : (seeF (mdSt l) (mdFs l) (mdB l) []).sum.length = 32 := shaF_len _
  have hum : (seeF (mdSt m) (mdFs m) (mdB m) []).sum.length = 32 := shaF_len _
  have core : ∀ (p q : Sn), p.fs.length ≤ 30 → q.fs.length ≤ 30 → p.sum.length ≤ 9223372036854775807 → q.sum.length ≤ 9223372036854775807 →
      Does (CG (gD G)) 23 [snD p, snD q] [cmpD p q] ∧ Does (CG (gD G)) 24 [snD p, snD q] [cmpD p q] ∧ Does (CG (gD G)) 22 [cmpD p q, cmpD p q] [.b true] := by
    intro p q h1 h2 h3 h4
    refine ⟨compare23 p q (by omega) (by omega) h3 h4, compare24 p q (by omega) (by omega), same22 _ _ _ _ ?_ rfl⟩
    have := nmsDF_len p.fs q.fs
    omega
  generalize seeF (mdSt l) (mdFs l) (mdB l) [] = y at *
  generalize seeF (mdSt m) (mdFs m) (mdB m) [] = z at *
  have c5 := same25 (G := gD G) s t ns hns
  have c6 := same26 (G := gD G) s t ns hns
  have hfa : (a.fs.map fldD).length = a.fs.length := by simp
  have hfb : (b.fs.map fldD).length = b.fs.length := by simp
  have hfy : (y.fs.map fldD).length = y.fs.length := by simp
  have hfz : (z.fs.map fldD).length = z.fs.length := by simp
  generalize (!s && !t && decide (ns = [])) = u at c5 c6
  unfold cmpD at core
  cases wild with
  | true =>
    by_cases h30 : a.fs.length ≤ 30 ∧ b.fs.length ≤ 30
    · obtain ⟨c1, c2, c3⟩ := core a b h30.1 h30.2 ha hb
      generalize nmsDF a.fs b.fs = v at c1 c2 c3
      unfold snD seenD at *
      unfold difD strs at *
      unfold rplD at *
      refine Does.mk (n := 52) Tryz.func5 rfl rfl rfl (Nat.le_of_ble_eq_true rfl) ?_
      repeat refine seq_on ?_
      refine call_by ml ?_
      refine call_by sl ?_
      refine call_by mm ?_
      refine call_by sm ?_
      repeat refine seq_on ?_
      ((try refine And.intro (draw_ok (by kernel_rfl)) ?_); repeat refine seq_on ?_)
      refine cmp_no (by omega) ?_
      repeat refine seq_on ?_
      refine cmp_no (by omega) ?_
      ((try refine And.intro (draw_ok (by kernel_rfl)) ?_); repeat refine seq_on ?_)
      refine call_by c1 ?_
      refine call_by c2 ?_
      refine call_by c3 ?_
      refine call_by c5 ?_
      refine call_by c6 ?_
      refine cmp_is true (eqB u) ?_
      refine call_by hA ?_
      ((try refine And.intro (draw_ok (by kernel_rfl)) ?_); repeat refine seq_on ?_)
      rfl
    · unfold snD seenD at *
      unfold difD strs at *
      unfold rplD at *
      refine Does.mk (n := 52) Tryz.func5 rfl rfl rfl (Nat.le_of_ble_eq_true rfl) ?_
      repeat refine seq_on ?_
      refine call_by ml ?_
      refine call_by sl ?_
      refine call_by mm ?_
      refine call_by sm ?_
      repeat refine seq_on ?_
      ((try refine And.intro (draw_ok (by kernel_rfl)) ?_); repeat refine seq_on ?_)
      refine cmp_dec (fun h => ?_) (fun h => ?_)
      · ((try refine And.intro (draw_ok (by kernel_rfl)) ?_); repeat refine seq_on ?_)
        refine call_by hA ?_
        ((try refine And.intro (draw_ok (by kernel_rfl)) ?_); repeat refine seq_on ?_)
        rfl
      · ((try refine And.intro (draw_ok (by kernel_rfl)) ?_); repeat refine seq_on ?_)
        refine cmp_yes (by omega) ?_
        ((try refine And.intro (draw_ok (by kernel_rfl)) ?_); repeat refine seq_on ?_)
        refine call_by hA ?_
        ((try refine And.intro (draw_ok (by kernel_rfl)) ?_); repeat refine seq_on ?_)
        rfl
  | false =>
    obtain ⟨c1, c2, c3⟩ := core y z (by omega) (by omega) (by omega) (by omega)
    generalize nmsDF y.fs z.fs = v at c1 c2 c3
    unfold snD seenD at *
    unfold difD strs at *
    unfold rplD at *
    refine Does.mk (n := 52) Tryz.func5 rfl rfl rfl (Nat.le_of_ble_eq_true rfl) ?_
    repeat refine seq_on ?_
    refine call_by ml ?_
    refine call_by sl ?_
    refine call_by mm ?_
    refine call_by sm ?_
    ((try refine And.intro (draw_ok (by kernel_rfl)) ?_); repeat refine seq_on ?_)
    refine cmp_no (by omega) ?_
    repeat refine seq_on ?_
    refine cmp_no (by omega) ?_
    ((try refine And.intro (draw_ok (by kernel_rfl)) ?_); repeat refine seq_on ?_)
    refine call_by c1 ?_
    refine call_by c2 ?_
    refine call_by c3 ?_
    refine call_by c5 ?_
    refine call_by c6 ?_
    refine cmp_is true (eqB u) ?_
    refine call_by hA ?_
    ((try refine And.intro (draw_ok (by kernel_rfl)) ?_); repeat refine seq_on ?_)
    rfl
set_option maxHeartbeats 1000000 in
theorem lawDifferSymmetric (l m : List Int) (hl : l.length ≤ 9223372036854775807) (hm : m.length ≤ 9223372036854775807) :
    Does (CD G) 6 [ints l, ints m] [.b true] := by
  have ml := made17 (G := gD G) l hl
  have mm := made17 (G := gD G) m hm
  have hA := awake18 (G := G)
  have hml := mdFs_small l
  have hmm := mdFs_small m
  have hbl := mdB_len l
  have hbm := mdB_len m
  have sl := see20 (G := G) (mdSt l) [] 1 (mdFs l) (mdB l) [] (FOk.small (by omega) (by omega) (Nat.zero_le _) (by simp)) (by omega)
  have sm := see20 (G := G) (mdSt m) [] 1 (mdFs m) (mdB m) [] (FOk.small (by omega) (by omega) (Nat.zero_le _) (by simp)) (by omega)
  have hll := seeF_len (mdSt l) (mdFs l) (mdB l) []
  have hlm := seeF_len (mdSt m) (mdFs m) (mdB m) []
  have hul : (seeF (mdSt l) (mdFs l) (mdB l) []).sum.length = 32 := shaF_len _
  have hum : (seeF (mdSt m) (mdFs m) (mdB m) []).sum.length = 32 := shaF_len _
  generalize seeF (mdSt l) (mdFs l) (mdB l) [] = y at *
  generalize seeF (mdSt m) (mdFs m) (mdB m) [] = z at *
  have c1 := compare23 (G := gD G) y z (by omega) (by omega) (by omega) (by omega)
  have c2 := compare23 (G := gD G) z y (by omega) (by omega) (by omega) (by omega)
  rw [← cmp_swap y z] at c2
  have c3 := same22 (G := gD G) (cmpD y z) _ _ _ (by have := nmsDF_len y.fs z.fs; omega) rfl
  have c4 := compare23 (G := gD G) y y (by omega) (by omega) (by omega) (by omega)
  have c5 := compare23 (G := gD G) z z (by omega) (by omega) (by omega) (by omega)
  rw [cmp_self] at c4 c5
  have c6 := same25 (G := gD G) false false [] (Nat.zero_le _)
  unfold cmpD at c1 c2 c3
  generalize nmsDF y.fs z.fs = v at c1 c2 c3
  unfold snD seenD at *
  unfold difD strs at *
  unfold rplD at *
  refine Does.mk (n := 35) Tryz.func6 rfl rfl rfl (Nat.le_of_ble_eq_true rfl) ?_
  repeat refine seq_on ?_
  refine call_by ml ?_
  refine call_by sl ?_
  refine call_by mm ?_
  refine call_by sm ?_
  ((try refine And.intro (draw_ok (by kernel_rfl)) ?_); repeat refine seq_on ?_)
  refine call_by c1 ?_
  refine call_by c2 ?_
  refine call_by c3 ?_
  refine call_by c4 ?_
  refine call_by c6 ?_
  refine call_by c5 ?_
  refine call_by c6 ?_
  refine call_by hA ?_
  ((try refine And.intro (draw_ok (by kernel_rfl)) ?_); repeat refine seq_on ?_)
  rfl
end Go.Proofs.YtbfkfmpfdafogaaGreatDoor

namespace Go.Proofs.YtbfkfmpfdafogaaGreatDoor
variable {G : List Go.Eng.Gl}
open Go.Eng
attribute [local irreducible] Hold shaF
set_option maxRecDepth 100000

theorem nmsDF_self (a : List Fld) : nmsDF a a = [] := by
  unfold nmsDF
  rw [List.filter_eq_nil_iff]
  intro n _
  unfold dfF
  simp
theorem short100 (l : List UInt8) : Does (CG G) 27 [.sl 1 (encB l), .i .i64 100] [.sl 1 (encB (l.take 100))] := short35 (G := G) l 100
set_option maxHeartbeats 1000000 in
theorem lawDifferBody (l : List Int) (b c : List UInt8) (hl : l.length ≤ 9223372036854775807) :
    Does (CD G) 7 [ints l, .sl 1 (encB b), .sl 1 (encB c)] [.b true] := by
  have ml := made17 (G := gD G) l hl
  have hA := awake18 (G := G)
  have hml := mdFs_small l
  have c1 := short100 (G := gD G) b
  have c2 := short100 (G := gD G) c
  have hbl := List.length_take_le 100 b
  have hcl := List.length_take_le 100 c
  generalize b.take 100 = b at c1 hbl
  generalize c.take 100 = c at c2 hcl
  have hF : FOk (mdFs l) [] := FOk.small (by omega) (by omega) (Nat.zero_le _) (by simp)
  have s1 := see20 (G := G) (mdSt l) [] 1 (mdFs l) b [] hF (by omega)
  have s2 := see20 (G := G) (mdSt l) [] 1 (mdFs l) c [] hF (by omega)
  have hll : (normF (mdFs l) []).length ≤ (mdFs l).length := norm_len _ _
  unfold seeF at s1 s2
  have hu1 := shaF_len b
  have hu2 := shaF_len c
  have hbe : (encB b).length = b.length := encB_len b
  have hce : (encB c).length = c.length := encB_len c
  generalize hsb : shaF b = sb at *
  generalize hsc : shaF c = sc at *
  generalize normF (mdFs l) [] = fs at *
  have c3 := compare23 (G := gD G) ⟨mdSt l, fs, b.length, sb⟩ ⟨mdSt l, fs, c.length, sc⟩ (by simp only; omega) (by simp only; omega) (by simp only; omega) (by simp only; omega)
  have hcm : cmpD ⟨mdSt l, fs, b.length, sb⟩ ⟨mdSt l, fs, c.length, sc⟩ = difD false (decide ((b.length : Int) ≠ (c.length : Int)) || decide (sb ≠ sc)) [] := by
    unfold cmpD bodyF
    rw [nmsDF_self]
    simp
  rw [hcm] at c3
  unfold snD seenD at *
  unfold rplD at *
  unfold strs at *
  by_cases he : b = c
  · subst he
    rw [hsb] at hsc
    subst hsc
    rw [show (decide ((b.length : Int) ≠ (b.length : Int)) || decide (sb ≠ sb)) = false by simp] at c3
    have c6 := same25 (G := gD G) false false [] (Nat.zero_le _)
    unfold difD strs at *
    refine Does.mk (n := 61) Tryz.func7 rfl rfl rfl (Nat.le_of_ble_eq_true rfl) ?_
    repeat refine seq_on ?_
    refine call_by ml ?_
    repeat refine seq_on ?_
    refine call_by c1 ?_
    refine call_by c2 ?_
    repeat refine seq_on ?_
    ((try refine And.intro (draw_ok (by kernel_rfl)) ?_); repeat refine seq_on ?_)
    refine call_by s1 ?_
    refine call_by s2 ?_
    refine call_by c3 ?_
    ((try refine And.intro (draw_ok (by kernel_rfl)) ?_); repeat refine seq_on ?_)
    refine bytes_is b rfl ?_
    refine bytes_is b rfl ?_
    refine cmp_is true (decide_eq_true rfl) ?_
    ((try refine And.intro (draw_ok (by kernel_rfl)) ?_); repeat refine seq_on ?_)
    refine call_by c6 ?_
    refine call_by hA ?_
    ((try refine And.intro (draw_ok (by kernel_rfl)) ?_); repeat refine seq_on ?_)
    rfl
  · by_cases hlen : b.length = c.length
    · generalize (decide ((b.length : Int) ≠ (c.length : Int)) || decide (sb ≠ sc)) = bb at c3
      unfold difD strs at *
      refine Does.mk (n := 61) Tryz.func7 rfl rfl rfl (Nat.le_of_ble_eq_true rfl) ?_
      repeat refine seq_on ?_
      refine call_by ml ?_
      repeat refine seq_on ?_
      refine call_by c1 ?_
      refine call_by c2 ?_
      repeat refine seq_on ?_
      ((try refine And.intro (draw_ok (by kernel_rfl)) ?_); repeat refine seq_on ?_)
      refine call_by s1 ?_
      refine call_by s2 ?_
      refine call_by c3 ?_
      ((try refine And.intro (draw_ok (by kernel_rfl)) ?_); repeat refine seq_on ?_)
      refine bytes_is b rfl ?_
      refine bytes_is c rfl ?_
      refine cmp_is false (decide_eq_false he) ?_
      ((try refine And.intro (draw_ok (by kernel_rfl)) ?_); repeat refine seq_on ?_)
      refine cmp_yes (by omega) ?_
      ((try refine And.intro (draw_ok (by kernel_rfl)) ?_); repeat refine seq_on ?_)
      refine cmp_yes (by simp) ?_
      ((try refine And.intro (draw_ok (by kernel_rfl)) ?_); repeat refine seq_on ?_)
      refine call_by hA ?_
      ((try refine And.intro (draw_ok (by kernel_rfl)) ?_); repeat refine seq_on ?_)
      rfl
    · rw [show (decide ((b.length : Int) ≠ (c.length : Int)) || decide (sb ≠ sc)) = true by rw [decide_eq_true (by omega)]; rfl] at c3
      unfold difD strs at *
      refine Does.mk (n := 61) Tryz.func7 rfl rfl rfl (Nat.le_of_ble_eq_true rfl) ?_
      repeat refine seq_on ?_
      refine call_by ml ?_
      repeat refine seq_on ?_
      refine call_by c1 ?_
      refine call_by c2 ?_
      repeat refine seq_on ?_
      ((try refine And.intro (draw_ok (by kernel_rfl)) ?_); repeat refine seq_on ?_)
      refine call_by s1 ?_
      refine call_by s2 ?_
      refine call_by c3 ?_
      ((try refine And.intro (draw_ok (by kernel_rfl)) ?_); repeat refine seq_on ?_)
      refine bytes_is b rfl ?_
      refine bytes_is c rfl ?_
      refine cmp_is false (decide_eq_false he) ?_
      ((try refine And.intro (draw_ok (by kernel_rfl)) ?_); repeat refine seq_on ?_)
      refine cmp_no (by omega) ?_
      ((try refine And.intro (draw_ok (by kernel_rfl)) ?_); repeat refine seq_on ?_)
      refine cmp_yes (by simp) ?_
      ((try refine And.intro (draw_ok (by kernel_rfl)) ?_); repeat refine seq_on ?_)
      refine call_by hA ?_
      ((try refine And.intro (draw_ok (by kernel_rfl)) ?_); repeat refine seq_on ?_)
      rfl
end Go.Proofs.YtbfkfmpfdafogaaGreatDoor

