import Derived.Test.YtiokdhklhnhfhaaDoorMro
import Derived.Test.YtiokdhklhnhfhaaDoorMf
import Derived.Test.YtiokdhklhnhfhaaDoorMg
import Derived.Test.YtiokdhklhnhfhaaDoorMwr
import Derived.Test.YtiokdhklhnhfhaaDoorMl
import Derived.Test.YtiokdhklhnhfhaaDoorMn
import Derived.Test.YtiokdhklhnhfhaaDoorMc2
namespace Go.Proofs.YtiokdhklhnhfhaaDoor
variable {G : List Go.Eng.Gl}
open Go.Eng
attribute [local irreducible] Hold
set_option maxRecDepth 100000

theorem cutPreL (s p : List UInt8) : Does (CG G) 166 [.s s, .s p] [.s (if s.take p.length = p then s.drop p.length else s), .b (decide (s.take p.length = p))] := by
  have h := has84 (G := G) s p
  refine Does.mk (n := 15) Tryd.func166 rfl rfl rfl (Nat.le_of_ble_eq_true rfl) ?_
  repeat refine seq_on ?_
  by_cases hp : s.take p.length = p
  · rw [decide_eq_true hp] at h ⊢
    rw [if_pos hp]
    have hle : p.length ≤ s.length := by have := congrArg List.length hp; rw [List.length_take] at this; omega
    refine call_by h ?_
    repeat refine seq_on ?_
    refine bnd p.length rfl hle ?_
    ((try refine And.intro (draw_ok (by kernel_rfl)) ?_); repeat refine seq_on ?_)
    rfl
  · rw [decide_eq_false hp] at h ⊢
    rw [if_neg hp]
    refine call_by h ?_
    ((try refine And.intro (draw_ok (by kernel_rfl)) ?_); repeat refine seq_on ?_)
    rfl
theorem cutPreS (s p : List UInt8) : Does (CG G) 124 [.s s, .s p] [.s (if s.take p.length = p then s.drop p.length else s), .b (decide (s.take p.length = p))] := by
  refine Does.mk (n := 11) Tryd.func124 rfl rfl rfl (Nat.le_of_ble_eq_true rfl) ?_
  repeat refine seq_on ?_
  refine call_by (cutPreL s p) ?_
  rfl

def rollP : List UInt8 := [47, 114, 111, 108, 108, 111, 117, 116]
def rollS : List UInt8 := [47, 114, 111, 108, 108, 111, 117, 116, 47]
def cmdIx (n : List UInt8) : Nat :=
  if n = cmdsT.getD 1 [] then 1 else if n = cmdsT.getD 2 [] then 2 else if n = cmdsT.getD 3 [] then 3 else if n = cmdsT.getD 4 [] then 4 else if n = cmdsT.getD 5 [] then 5 else if n = cmdsT.getD 6 [] then 6 else 0
theorem cmdIx_at : ∀ i : Fin 7, 0 < i.val → cmdIx (cmdsT.getD i.val []) = i.val := by decide
theorem cmdIx_none {n : List UInt8} (h : ∀ j, 0 < j → j < 7 → cmdsT.getD j [] ≠ n) : cmdIx n = 0 := by
  unfold cmdIx
  rw [if_neg (fun e => h 1 (by decide) (by decide) e.symm), if_neg (fun e => h 2 (by decide) (by decide) e.symm), if_neg (fun e => h 3 (by decide) (by decide) e.symm), if_neg (fun e => h 4 (by decide) (by decide) e.symm), if_neg (fun e => h 5 (by decide) (by decide) e.symm), if_neg (fun e => h 6 (by decide) (by decide) e.symm)]
theorem cmdIx_le (n : List UInt8) : cmdIx n ≤ 6 := by
  unfold cmdIx
  repeat' split
  all_goals decide
def acmdF (p : List UInt8) : Nat := if p.take 9 = rollS then cmdIx (p.drop 9) else 0
theorem acmdF_le (p : List UInt8) : acmdF p ≤ 6 := by
  unfold acmdF; split
  · exact cmdIx_le _
  · decide

theorem command76 (p : List UInt8) : Does (CA G) 76 [.s p] [.i .i64 (acmdF p : Int)] := by
  have hall : (cmdsT.map D.s).flatMap D.cells = cmdsT.map D.s := rfl
  have h := cutPreS (G := gA G) p rollS
  have hc : cmdsT.length = 7 := rfl
  by_cases hp : p.take 9 = rollS
  · rw [show rollS.length = 9 from rfl, decide_eq_true hp, if_pos hp] at h
    rw [show acmdF p = cmdIx (p.drop 9) from if_pos hp]
    generalize p.drop 9 = n at *
    refine Does.mk (n := 29) Tryd.func76 rfl rfl rfl (Nat.le_of_ble_eq_true rfl) ?_
    repeat refine seq_on ?_
    refine call_by h ?_
    ((try refine And.intro (draw_ok (by kernel_rfl)) ?_); repeat refine seq_on ?_)
    apply loop_inv (fun i : Nat => i ≤ 7 ∧ ∀ j, 0 < j → j < i → cmdsT.getD j [] ≠ n) (fun i => ⟨[(3, .d (.s n)), (4, .d (.b true)), (12, .d (.agg (cmdsT.map D.s))), (13, .d (.i .i64 (i : Int)))], [], 2⟩) (fun i => 7 - i) 0 ⟨by omega, fun j _ hj => by omega⟩ []
    · ((repeat' constructor) <;> (first | refine hold ?_ | rfl) <;> first | with_reducible rfl | (congr 1 <;> omega) | (congr 1 <;> simp; done) | (simp; done) | exact encB_snoc _ _ | skip)
    · rintro i ⟨hi, hn⟩
      repeat refine seq_on ?_
      refine cmp_dec (fun h1 => ?_) (fun h1 => ?_)
      · have hi' : i < 7 := by omega
        repeat refine seq_on ?_
        refine arr_at i rfl (by omega) (d := .s (cmdsT.getD i [])) (by simp [hc, hi']) ?_
        refine cmp_dec (fun h2 => ?_) (fun h2 => ?_)
        · refine cmp_dec (fun h3 => ?_) (fun h3 => ?_)
          · ((try refine And.intro (draw_ok (by kernel_rfl)) ?_); repeat refine seq_on ?_)
            have h3 : cmdsT.getD i [] = n := h3
            rw [← h3, cmdIx_at ⟨i, hi'⟩ (show 0 < i by omega)]
            rfl
          · ((try refine And.intro (draw_ok (by kernel_rfl)) ?_); repeat refine seq_on ?_)
            refine ar ⟨by omega, by omega⟩ ?_
            apply again (i + 1) [] ⟨by omega, fun j hj hji => by
              by_cases hji' : j < i
              · exact hn j hj hji'
              · obtain rfl : j = i := by omega
                exact h3⟩ (by omega)
            ((repeat' constructor) <;> (first | refine hold ?_ | rfl) <;> first | with_reducible rfl | (congr 1 <;> omega) | (congr 1 <;> simp; done) | (simp; done) | exact encB_snoc _ _ | skip)
        · ((try refine And.intro (draw_ok (by kernel_rfl)) ?_); repeat refine seq_on ?_)
          refine ar ⟨by omega, by omega⟩ ?_
          apply again (i + 1) [] ⟨by omega, fun j hj hji => hn j hj (by omega)⟩ (by omega)
          ((repeat' constructor) <;> (first | refine hold ?_ | rfl) <;> first | with_reducible rfl | (congr 1 <;> omega) | (congr 1 <;> simp; done) | (simp; done) | exact encB_snoc _ _ | skip)
      · obtain rfl : i = 7 := by omega
        rw [cmdIx_none hn]
        ((try refine And.intro (draw_ok (by kernel_rfl)) ?_); repeat refine seq_on ?_)
        rfl
  · rw [show rollS.length = 9 from rfl, decide_eq_false hp, if_neg hp] at h
    rw [show acmdF p = 0 from if_neg hp]
    refine Does.mk (n := 29) Tryd.func76 rfl rfl rfl (Nat.le_of_ble_eq_true rfl) ?_
    repeat refine seq_on ?_
    refine call_by h ?_
    ((try refine And.intro (draw_ok (by kernel_rfl)) ?_); repeat refine seq_on ?_)
    apply loop_inv (fun i : Nat => i ≤ 7) (fun i => ⟨[(3, .d (.s p)), (4, .d (.b false)), (12, .d (.agg (cmdsT.map D.s))), (13, .d (.i .i64 (i : Int)))], [], 2⟩) (fun i => 7 - i) 0 (by omega) []
    · ((repeat' constructor) <;> (first | refine hold ?_ | rfl) <;> first | with_reducible rfl | (congr 1 <;> omega) | (congr 1 <;> simp; done) | (simp; done) | exact encB_snoc _ _ | skip)
    · intro i hi
      repeat refine seq_on ?_
      refine cmp_dec (fun h1 => ?_) (fun h1 => ?_)
      · have hi' : i < 7 := by omega
        repeat refine seq_on ?_
        refine arr_at i rfl (by omega) (d := .s (cmdsT.getD i [])) (by simp [hc, hi']) ?_
        ((try refine And.intro (draw_ok (by kernel_rfl)) ?_); repeat refine seq_on ?_)
        refine ar ⟨by omega, by omega⟩ ?_
        apply again (i + 1) [] (by omega) (by omega)
        ((repeat' constructor) <;> (first | refine hold ?_ | rfl) <;> first | with_reducible rfl | (congr 1 <;> omega) | (congr 1 <;> simp; done) | (simp; done) | exact encB_snoc _ _ | skip)
      · ((try refine And.intro (draw_ok (by kernel_rfl)) ?_); repeat refine seq_on ?_)
        rfl

def nameF (st : Int) : List UInt8 := if 0 ≤ st ∧ st < 5 then namesT.getD st.toNat [] else []
theorem name79 (st : Int) : Does (CA G) 79 [.i .i64 st] [.s (nameF st)] := by
  have hc : namesT.length = 5 := rfl
  refine Does.mk (n := 12) Tryd.func79 rfl rfl rfl (Nat.le_of_ble_eq_true rfl) ?_
  repeat refine seq_on ?_
  refine cmp_dec (fun h1 => ?_) (fun h1 => ?_)
  · ((try refine And.intro (draw_ok (by kernel_rfl)) ?_); repeat refine seq_on ?_)
    refine fin_eq ?_
    rw [show nameF st = [] from if_neg (by omega)]
  · refine cmp_dec (fun h2 => ?_) (fun h2 => ?_)
    · ((try refine And.intro (draw_ok (by kernel_rfl)) ?_); repeat refine seq_on ?_)
      refine fin_eq ?_
      rw [show nameF st = [] from if_neg (by omega)]
    · ((try refine And.intro (draw_ok (by kernel_rfl)) ?_); repeat refine seq_on ?_)
      rw [show nameF st = namesT.getD st.toNat [] from if_pos (by omega)]
      refine Eng.get_at st.toNat (by omega) (x := .s (namesT.getD st.toNat [])) (by simp [glNames, hc, show st.toNat < 5 by omega]) ?_
      rfl

def weightF (r : Ro) (p : Pl) : Int := if r.st = 1 ∨ r.st = 4 then stageF p r.sg else if r.st = 2 then 10000 else 0
theorem weight81 (r : Ro) (p : Pl) (hl : p.ws.length ≤ 9223372036854775806) : Does (CG G) 81 [roD r, plD p] [.i .i64 (weightF r p)] := by
  have h := weight127 (G := G) p r.sg hl
  unfold weightF
  unfold roD plD at *
  refine Does.mk (n := 16) Tryd.func81 rfl rfl rfl (Nat.le_of_ble_eq_true rfl) ?_
  repeat refine seq_on ?_
  refine cmp_dec (fun h1 => ?_) (fun h1 => ?_)
  · repeat refine seq_on ?_
    refine call_by h ?_
    ((try refine And.intro (draw_ok (by kernel_rfl)) ?_); repeat refine seq_on ?_)
    refine fin_eq ?_
    rw [if_pos (.inl h1)]
  · refine cmp_dec (fun h2 => ?_) (fun h2 => ?_)
    · repeat refine seq_on ?_
      refine call_by h ?_
      ((try refine And.intro (draw_ok (by kernel_rfl)) ?_); repeat refine seq_on ?_)
      refine fin_eq ?_
      rw [if_pos (.inr h2)]
    · repeat refine seq_on ?_
      refine cmp_dec (fun h3 => ?_) (fun h3 => ?_)
      · ((try refine And.intro (draw_ok (by kernel_rfl)) ?_); repeat refine seq_on ?_)
        refine fin_eq ?_
        rw [if_neg (fun h => h.elim h1 h2), if_pos h3]
      · ((try refine And.intro (draw_ok (by kernel_rfl)) ?_); repeat refine seq_on ?_)
        refine fin_eq ?_
        rw [if_neg (fun h => h.elim h1 h2), if_neg h3]
end Go.Proofs.YtiokdhklhnhfhaaDoor

namespace Go.Proofs.YtiokdhklhnhfhaaDoor
variable {G : List Go.Eng.Gl}
open Go.Eng
attribute [local irreducible] Hold
set_option maxRecDepth 100000

def statusL (x : Ro) (p : Pl) : List (List UInt8 × List UInt8) :=
  [([115, 116, 97, 116, 101], quoteF (nameF x.st)), ([115, 116, 97, 103, 101], jnum x.sg), ([104, 101, 97, 108, 116, 104, 121], jnum x.he), ([119, 101, 105, 103, 104, 116], jnum (weightF x p)), ([116, 111, 116, 97, 108], jnum x.tt), ([101, 114, 114, 111, 114, 115], jnum x.er)]
def statusF (x : Ro) (p : Pl) : List UInt8 := objF (statusL x p) ++ [10]
theorem nameF_len (st : Int) : (nameF st).length ≤ 10 := by
  unfold nameF
  split
  · have : ∀ i : Fin 5, (namesT.getD i.val []).length ≤ 10 := by decide
    rename_i h
    exact this ⟨st.toNat, by omega⟩
  · decide
structure Io (x : Ro) (p : Pl) : Prop where
  sg : I64 x.sg
  he : I64 x.he
  wt : I64 (weightF x p)
  tt : I64 x.tt
  er : I64 x.er
theorem status_sum (x : Ro) (p : Pl) (h : Io x p) : sumL ((statusL x p).map memF) ≤ 2000 ∧ ∀ q, q ∈ statusL x p → q.1.length ≤ 7 ∧ q.2.length ≤ 100 := by
  have h1 := jnum_len h.sg
  have h2 := jnum_len h.he
  have h3 := jnum_len h.wt
  have h4 := jnum_len h.tt
  have h5 := jnum_len h.er
  have h6 := quoteF_len (nameF x.st)
  have h7 := nameF_len x.st
  have key : ∀ l : List (List UInt8 × List UInt8), (∀ q, q ∈ l → q.1.length ≤ 7 ∧ q.2.length ≤ 100) → sumL (l.map memF) ≤ l.length * 200 := by
    intro l hl
    induction l with
    | nil => simp [sumL]
    | cons q l ih =>
      have h1 := hl q (by simp)
      have h2 := ih fun r hr => hl r (by simp [hr])
      have h3 := quoteF_len q.1
      rw [List.map_cons, sumL_cons, List.length_cons]
      simp only [memF, List.length_append, List.length_cons, List.length_nil]
      omega
  have hm : ∀ q, q ∈ statusL x p → q.1.length ≤ 7 ∧ q.2.length ≤ 100 := by
    intro q hq
    simp only [statusL, List.mem_cons, List.not_mem_nil, or_false] at hq
    rcases hq with rfl | rfl | rfl | rfl | rfl | rfl <;> exact ⟨Nat.le_of_ble_eq_true rfl, by simp only; omega⟩
  have := key _ hm
  have hl : (statusL x p).length = 6 := rfl
  exact ⟨by omega, hm⟩
theorem status_len (x : Ro) (p : Pl) (h : Io x p) : (statusF x p).length ≤ 3000 := by
  have h1 := (status_sum x p h).1
  have h2 := join_sum 44 ((statusL x p).map memF)
  simp only [statusF, objF, List.length_append, List.length_cons, List.length_nil]
  omega
theorem status39 (x : Ro) (p : Pl) (h : Io x p) (hl : p.ws.length ≤ 9223372036854775806) : Does (CA G) 39 [roD x, plD p] [.s (statusF x p)] := by
  obtain ⟨s1, s2⟩ := status_sum x p h
  have s3 := join_sum 44 ((statusL x p).map memF)
  have hn := nameF_len x.st
  have c1 := name79 (G := G) x.st
  have c2 := quote34 (G := glReasons :: glNames :: glCmds :: G) (nameF x.st) (by omega)
  have c3 := num28 (G := glReasons :: glNames :: glCmds :: G) x.sg h.sg
  have c4 := num28 (G := glReasons :: glNames :: glCmds :: G) x.he h.he
  have c5 := weight81 (G := gA G) x p hl
  have c6 := num28 (G := glReasons :: glNames :: glCmds :: G) (weightF x p) h.wt
  have c7 := num28 (G := glReasons :: glNames :: glCmds :: G) x.tt h.tt
  have c8 := num28 (G := glReasons :: glNames :: glCmds :: G) x.er h.er
  have c9 := obj30 (G := glReasons :: glNames :: glCmds :: G) (statusL x p) (by show 6 ≤ _; decide) (fun q hq => by have := s2 q hq; omega) (by omega)
  have e : statusF x p = objF (statusL x p) ++ [10] := rfl
  have el : (objF (statusL x p)).length ≤ 3000 := by
    simp only [objF, List.length_append, List.length_cons, List.length_nil]
    omega
  rw [e]
  generalize objF (statusL x p) = o at *
  unfold statusL pairs at c9
  simp only [List.map_cons, List.map_nil, pairD] at c9
  generalize weightF x p = wt at *
  unfold roD plD at *
  refine Does.mk (n := 36) Tryd.func39 rfl rfl rfl (Nat.le_of_ble_eq_true rfl) ?_
  repeat refine seq_on ?_
  refine call_by c1 ?_
  refine call_by c2 ?_
  refine call_by c3 ?_
  refine call_by c4 ?_
  refine call_by c5 ?_
  refine call_by c6 ?_
  refine call_by c7 ?_
  refine call_by c8 ?_
  refine call_by c9 ?_
  refine len_ok (by simp; omega) ?_
  ((try refine And.intro (draw_ok (by kernel_rfl)) ?_); repeat refine seq_on ?_)
  rfl

structure Ans where
  code : Int
  ct : List UInt8
  text : List UInt8
  body : List UInt8
  ro : Ro
def ansD (a : Ans) : D := replyD a.code (hdr a.ct a.text) a.body
def postM : List UInt8 := [80, 79, 83, 84]
def confl : List UInt8 := [99, 111, 110, 102, 108, 105, 99, 116, 10]
def admF (m q : List UInt8) (x : Ro) (p : Pl) : Ans :=
  if q = rollP ∧ (m = getM ∨ m = headM) then ⟨200, jsonT, statusF x p, if m = headM then [] else statusF x p, x⟩
  else if 0 < acmdF q ∧ m = postM then
    (if (cmdF x (acmdF q : Int)).2 ≠ 0 then ⟨409, plainT, confl, confl, x⟩ else ⟨200, jsonT, statusF (cmdF x (acmdF q : Int)).1 p, statusF (cmdF x (acmdF q : Int)).1 p, (cmdF x (acmdF q : Int)).1⟩)
  else if q = rollP ∨ 0 < acmdF q then ⟨405, plainT, notA, notA, x⟩ else ⟨404, plainT, notF, notF, x⟩

theorem handle37 (m pa : List UInt8) (mi : Int) (fl bo : List D) (fr : Bool) (x : Ro) (p : Pl) (hx : Io x p) (hy : ∀ c, Io (cmdF x c).1 p) (hp : pa.length ≤ 9223372036854775807) (hl : p.ws.length ≤ 9223372036854775806) :
    Does (CA G) 37 [.agg [.s m, .s pa, .i .i64 mi, .sl 2 fl, .b fr, .sl 1 bo], roD x, plD p] [ansD (admF m (cutF 63 pa).1 x p), roD (admF m (cutF 63 pa).1 x p).ro] := by
  have c0 := split50 (G := gA G) pa hp
  generalize (cutF 63 pa).1 = q at *
  have c1 := command76 (G := G) q
  have c2 := status39 (G := G) x p hx hl
  have c3 := cmd42 (G := gA G) x (acmdF q : Int)
  have c4 := status39 (G := G) (cmdF x (acmdF q : Int)).1 p (hy _) hl
  have c5 := make53n (G := glNames :: glCmds :: G) 200 jsonT (statusF x p) (by have := status_len x p hx; omega)
  have c6 := make53n (G := glNames :: glCmds :: G) 200 jsonT (statusF (cmdF x (acmdF q : Int)).1 p) (by have := status_len _ p (hy (acmdF q : Int)); omega)
  have t409 := text52n (G := glNames :: glCmds :: G) 409 confl (by decide)
  have t405 := text52n (G := glNames :: glCmds :: G) 405 notA (by decide)
  have t404 := text52n (G := glNames :: glCmds :: G) 404 notF (by decide)
  unfold admF
  generalize statusF x p = sx at *
  generalize cmdF x (acmdF q : Int) = cc at *
  obtain ⟨y, er⟩ := cc
  simp only at c3 c4 c6 ⊢
  generalize statusF y p = sy at *
  generalize acmdF q = n at *
  unfold ansD
  unfold roD plD replyD at *
  have g1 : ¬ (m = getM ∧ m = headM) := fun h => by rw [h.1] at h; exact absurd h.2 (by decide)
  refine Does.mk (n := 79) Tryd.func37 rfl rfl rfl (Nat.le_of_ble_eq_true rfl) ?_
  repeat refine seq_on ?_
  refine call_by c0 ?_
  ((try refine And.intro (draw_ok (by kernel_rfl)) ?_); repeat refine seq_on ?_)
  refine call_by c1 ?_
  ((try refine And.intro (draw_ok (by kernel_rfl)) ?_); repeat refine seq_on ?_)
  refine cmp_dec (fun a1 => ?_) (fun a1 => ?_)
  · have a1 : q = rollP := a1
    refine cmp_dec (fun b1 => ?_) (fun b1 => ?_)
    · have b1 : m = getM := b1
      have b2 : m ≠ headM := by rw [b1]; decide
      ((try refine And.intro (draw_ok (by kernel_rfl)) ?_); repeat refine seq_on ?_)
      refine call_by c2 ?_
      refine call_by c5 ?_
      ((try refine And.intro (draw_ok (by kernel_rfl)) ?_); repeat refine seq_on ?_)
      refine cmp_no b2 ?_
      ((try refine And.intro (draw_ok (by kernel_rfl)) ?_); repeat refine seq_on ?_)
      refine fin_eq ?_
      rw [if_pos ⟨a1, .inl b1⟩, if_neg b2]
    · have b1 : m ≠ getM := b1
      refine cmp_dec (fun b2 => ?_) (fun b2 => ?_)
      · have b2 : m = headM := b2
        ((try refine And.intro (draw_ok (by kernel_rfl)) ?_); repeat refine seq_on ?_)
        refine call_by c2 ?_
        refine call_by c5 ?_
        ((try refine And.intro (draw_ok (by kernel_rfl)) ?_); repeat refine seq_on ?_)
        refine cmp_yes b2 ?_
        ((try refine And.intro (draw_ok (by kernel_rfl)) ?_); repeat refine seq_on ?_)
        refine fin_eq ?_
        rw [if_pos ⟨a1, .inr b2⟩, if_pos b2]
        rfl
      · have b2 : m ≠ headM := b2
        ((try refine And.intro (draw_ok (by kernel_rfl)) ?_); repeat refine seq_on ?_)
        refine cmp_dec (fun b3 => ?_) (fun b3 => ?_)
        · refine cmp_dec (fun b4 => ?_) (fun b4 => ?_)
          · have b4 : m = postM := b4
            ((try refine And.intro (draw_ok (by kernel_rfl)) ?_); repeat refine seq_on ?_)
            refine call_by c3 ?_
            ((try refine And.intro (draw_ok (by kernel_rfl)) ?_); repeat refine seq_on ?_)
            refine cmp_dec (fun b5 => ?_) (fun b5 => ?_)
            · ((try refine And.intro (draw_ok (by kernel_rfl)) ?_); repeat refine seq_on ?_)
              refine call_by t409 ?_
              ((try refine And.intro (draw_ok (by kernel_rfl)) ?_); repeat refine seq_on ?_)
              refine fin_eq ?_
              rw [if_neg (fun h => h.2.elim b1 b2), if_pos ⟨by omega, b4⟩, if_pos b5]
            · ((try refine And.intro (draw_ok (by kernel_rfl)) ?_); repeat refine seq_on ?_)
              refine call_by c4 ?_
              refine call_by c6 ?_
              ((try refine And.intro (draw_ok (by kernel_rfl)) ?_); repeat refine seq_on ?_)
              refine fin_eq ?_
              rw [if_neg (fun h => h.2.elim b1 b2), if_pos ⟨by omega, b4⟩, if_neg b5]
          · have b4 : m ≠ postM := b4
            ((try refine And.intro (draw_ok (by kernel_rfl)) ?_); repeat refine seq_on ?_)
            refine cmp_yes a1 ?_
            ((try refine And.intro (draw_ok (by kernel_rfl)) ?_); repeat refine seq_on ?_)
            refine call_by t405 ?_
            ((try refine And.intro (draw_ok (by kernel_rfl)) ?_); repeat refine seq_on ?_)
            refine fin_eq ?_
            rw [if_neg (fun h => h.2.elim b1 b2), if_neg (fun h => b4 h.2), if_pos (.inl a1)]
        · ((try refine And.intro (draw_ok (by kernel_rfl)) ?_); repeat refine seq_on ?_)
          refine cmp_yes a1 ?_
          ((try refine And.intro (draw_ok (by kernel_rfl)) ?_); repeat refine seq_on ?_)
          refine call_by t405 ?_
          ((try refine And.intro (draw_ok (by kernel_rfl)) ?_); repeat refine seq_on ?_)
          refine fin_eq ?_
          rw [if_neg (fun h => h.2.elim b1 b2), if_neg (fun h => b3 (by omega)), if_pos (.inl a1)]
  · have a1 : q ≠ rollP := a1
    ((try refine And.intro (draw_ok (by kernel_rfl)) ?_); repeat refine seq_on ?_)
    refine cmp_dec (fun b3 => ?_) (fun b3 => ?_)
    · refine cmp_dec (fun b4 => ?_) (fun b4 => ?_)
      · have b4 : m = postM := b4
        ((try refine And.intro (draw_ok (by kernel_rfl)) ?_); repeat refine seq_on ?_)
        refine call_by c3 ?_
        ((try refine And.intro (draw_ok (by kernel_rfl)) ?_); repeat refine seq_on ?_)
        refine cmp_dec (fun b5 => ?_) (fun b5 => ?_)
        · ((try refine And.intro (draw_ok (by kernel_rfl)) ?_); repeat refine seq_on ?_)
          refine call_by t409 ?_
          ((try refine And.intro (draw_ok (by kernel_rfl)) ?_); repeat refine seq_on ?_)
          refine fin_eq ?_
          rw [if_neg (fun h => a1 h.1), if_pos ⟨by omega, b4⟩, if_pos b5]
        · ((try refine And.intro (draw_ok (by kernel_rfl)) ?_); repeat refine seq_on ?_)
          refine call_by c4 ?_
          refine call_by c6 ?_
          ((try refine And.intro (draw_ok (by kernel_rfl)) ?_); repeat refine seq_on ?_)
          refine fin_eq ?_
          rw [if_neg (fun h => a1 h.1), if_pos ⟨by omega, b4⟩, if_neg b5]
      · have b4 : m ≠ postM := b4
        ((try refine And.intro (draw_ok (by kernel_rfl)) ?_); repeat refine seq_on ?_)
        refine cmp_no a1 ?_
        refine cmp_yes b3 ?_
        ((try refine And.intro (draw_ok (by kernel_rfl)) ?_); repeat refine seq_on ?_)
        refine call_by t405 ?_
        ((try refine And.intro (draw_ok (by kernel_rfl)) ?_); repeat refine seq_on ?_)
        refine fin_eq ?_
        rw [if_neg (fun h => a1 h.1), if_neg (fun h => b4 h.2), if_pos (.inr (by omega))]
    · ((try refine And.intro (draw_ok (by kernel_rfl)) ?_); repeat refine seq_on ?_)
      refine cmp_no a1 ?_
      refine cmp_no b3 ?_
      ((try refine And.intro (draw_ok (by kernel_rfl)) ?_); repeat refine seq_on ?_)
      refine call_by t404 ?_
      ((try refine And.intro (draw_ok (by kernel_rfl)) ?_); repeat refine seq_on ?_)
      refine fin_eq ?_
      rw [if_neg (fun h => a1 h.1), if_neg (fun h => b3 (by omega)), if_neg (fun h => h.elim a1 fun h => b3 (by omega))]
end Go.Proofs.YtiokdhklhnhfhaaDoor

namespace Go.Proofs.YtiokdhklhnhfhaaDoor
variable {G : List Go.Eng.Gl}
open Go.Eng
attribute [local irreducible] Hold
set_option maxRecDepth 100000

theorem planW_mem (l : List Int) : ∀ (k i : Nat) (w : Int) (acc : List Int), 0 ≤ w → (∀ a, a ∈ acc → 0 ≤ a ∧ a ≤ w) → ∀ a, a ∈ (planW l k i w acc).1 → 0 ≤ a ∧ a ≤ w + 3301 * k
  | 0, i, w, acc, h0, h, a, ha => by have := h a ha; omega
  | k + 1, i, w, acc, h0, h, a, ha => by
    have hv := nxV_lt l i 3300 (by decide)
    rw [planW] at ha
    have := planW_mem l k (nxt l i) (w + 1 + (nxV l i 3300 : Int)) (acc ++ [w + 1 + (nxV l i 3300 : Int)]) (by omega) (fun b hb => by
      rcases List.mem_append.1 hb with hb | hb
      · have := h b hb; omega
      · simp at hb; omega) a ha
    omega
theorem planAt_mem (l : List Int) (i : Nat) : ∀ a, a ∈ (planAt l i).1.ws → 0 ≤ a ∧ a ≤ 20000 := by
  intro a ha
  have hv := nxV_lt l (pos5 l i) 3 (by decide)
  have := planW_mem l _ _ 0 [] (by decide) (by simp) a ha
  omega
theorem stageF_le {p : Pl} {s M : Int} (hM : 0 ≤ M) (h : ∀ a, a ∈ p.ws → 0 ≤ a ∧ a ≤ M) : 0 ≤ stageF p s ∧ stageF p s ≤ M := by
  unfold stageF
  split
  · rename_i hs
    have hlt : s.toNat < p.ws.length := by omega
    rw [List.getD_eq_getElem?_getD, List.getElem?_eq_getElem hlt]
    exact h _ (List.getElem_mem hlt)
  · omega
theorem io_of {x : Ro} {p : Pl} {n : Int} {len : Nat} (h : RoIn n len x) (hn : n ≤ 1000000) (hl : len ≤ 1000) (hw : ∀ a, a ∈ p.ws → 0 ≤ a ∧ a ≤ 20000) : Io x p := by
  obtain ⟨h1, h2, h3, h4, h5, h6⟩ := h
  have hs := stageF_le (s := x.sg) (by decide) hw
  refine ⟨⟨by omega, by omega⟩, ⟨by omega, by omega⟩, ?_, ⟨by omega, by omega⟩, ⟨by omega, by omega⟩⟩
  unfold weightF
  split
  · exact ⟨by omega, by omega⟩
  · split <;> exact ⟨by decide, by decide⟩

def putM : List UInt8 := [80, 85, 84]
def methL : List (List UInt8) := [getM, headM, postM, postM, putM]
def startP : List UInt8 := [47, 114, 111, 108, 108, 111, 117, 116, 47, 115, 116, 97, 114, 116]
def targL : List (List UInt8) := [rollP, startP, rollS ++ cmdsT.getD 2 [], rollS ++ cmdsT.getD 3 [], rollS ++ cmdsT.getD 4 [], rollS ++ cmdsT.getD 5 [], rollS ++ cmdsT.getD 6 [], startP ++ [63, 97, 61, 98], rollS, [47], rollS ++ [115, 116, 111, 112]]
theorem targL_len : ∀ x, x ∈ targL → x.length ≤ 20 := by decide
theorem request36 (a b : Int) : Does (CG G) 36 [.i .i64 a, .i .i64 b] [.agg [.s (methL.getD (wiV a 5) []), .s (targL.getD (wiV b 11) []), .i .i64 1, .sl 2 [], .b false, .sl 1 []]] := by
  have ha := withinV (G := G) a 5 (by decide)
  have hb := withinV (G := G) b 11 (by decide)
  have ha' := wiV_lt a 5 (by decide)
  have hb' := wiV_lt b 11 (by decide)
  generalize wiV a 5 = i at *
  generalize wiV b 11 = j at *
  have h1 : methL.length = 5 := rfl
  have h2 : targL.length = 11 := rfl
  have hgi : (methL.map D.s)[i]? = some (.s (methL.getD i [])) := by simp [show i < methL.length by omega]
  have hgj : (targL.map D.s)[j]? = some (.s (targL.getD j [])) := by simp [show j < targL.length by omega]
  generalize methL.getD i [] = mm at *
  generalize targL.getD j [] = tt at *
  refine Does.mk (n := 20) Tryd.func36 rfl rfl rfl (Nat.le_of_ble_eq_true rfl) ?_
  repeat refine seq_on ?_
  refine call_by ha ?_
  refine idx i rfl (by show i < 5; omega) ?_
  refine at_is hgi ?_
  refine call_by hb ?_
  refine idx j rfl (by show j < 11; omega) ?_
  refine at_is hgj ?_
  ((try refine And.intro (draw_ok (by kernel_rfl)) ?_); repeat refine seq_on ?_)
  rfl

def plan1 : Pl := ⟨[10], 1, 0, 1, 1, 1⟩
def idle0 : List UInt8 := [123, 34, 115, 116, 97, 116, 101, 34, 58, 34, 105, 100, 108, 101, 34, 44, 34, 115, 116, 97, 103, 101, 34, 58, 48, 44, 34, 104, 101, 97, 108, 116, 104, 121, 34, 58, 48, 44, 34, 119, 101, 105, 103, 104, 116, 34, 58, 48, 44, 34, 116, 111, 116, 97, 108, 34, 58, 48, 44, 34, 101, 114, 114, 111, 114, 115, 34, 58, 48, 125, 10]
theorem awake38 : Does (CA G) 38 [] [.b true] := by
  have hw : ∀ a, a ∈ plan1.ws → 0 ≤ a ∧ a ≤ 20000 := by
    intro a ha
    simp [plan1] at ha
    omega
  have h0 : RoIn 0 1 (ro0 0) := ro0_in (by decide) (by decide) (by decide)
  have hi := io_of (p := plan1) h0 (by decide) (by decide) hw
  have hj : ∀ c, Io (cmdF (ro0 0) c).1 plan1 := fun c => io_of (cmdF_in (by decide) (by decide) h0 c) (by decide) (by decide) hw
  have h1 := handle37 (G := G) postM (startP ++ [63, 110, 111, 119]) 0 [] [] false (ro0 0) plan1 hi hj (by decide) (by decide)
  have h2 := handle37 (G := G) getM rollP 0 [] [] false (ro0 0) plan1 hi hj (by decide) (by decide)
  have e1 : ∃ sx, admF postM (cutF 63 (startP ++ [63, 110, 111, 119])).1 (ro0 0) plan1 = ⟨200, jsonT, sx, sx, ro0 1⟩ := by
    have e : cmdF (ro0 0) (acmdF (cutF 63 (startP ++ [63, 110, 111, 119])).1 : Int) = (ro0 1, 0) := by
      rw [show acmdF (cutF 63 (startP ++ [63, 110, 111, 119])).1 = 1 by decide]
      rfl
    unfold admF
    rw [if_neg (by decide), if_pos (by decide), e, if_neg (by decide)]
    exact ⟨_, rfl⟩
  have e2 : admF getM (cutF 63 rollP).1 (ro0 0) plan1 = ⟨200, jsonT, statusF (ro0 0) plan1, statusF (ro0 0) plan1, ro0 0⟩ := by
    unfold admF
    rw [if_pos (by decide), if_neg (by decide)]
  have e3 : statusF (ro0 0) plan1 = idle0 := by decide +kernel
  obtain ⟨sx, e1⟩ := e1
  rw [e3] at e2
  rw [e1] at h1
  rw [e2] at h2
  unfold ansD at h1 h2
  have hq := eqRo (ro0 0) (ro0 0)
  rw [show roEq (ro0 0) (ro0 0) = true from roEq_iff.2 rfl] at hq
  unfold plD roD replyD at *
  refine Does.mk_cut (n := 41) Tryd.func38 rfl rfl rfl (Nat.le_of_ble_eq_true rfl) ⟨[(1, .op 16 0 0)], [(16, some (.box [.d (.sl 1 [.i .i64 10]), .d (.i .i64 1), .d (.i .i64 0), .d (.i .i64 1), .d (.i .i64 1), .d (.i .i64 1)]))], 2⟩ ?_ ?_
  · repeat refine seq_on ?_
    apply Eng.freeze [(16, _)]
    ((repeat' constructor) <;> (first | refine hold ?_ | rfl) <;> first | with_reducible rfl | (congr 1 <;> omega) | (congr 1 <;> simp; done) | (simp; done) | exact encB_snoc _ _ | skip)
  repeat refine seq_on ?_
  refine call_by h1 ?_
  ((try refine And.intro (draw_ok (by kernel_rfl)) ?_); repeat refine seq_on ?_)
  refine call_by h2 ?_
  ((try refine And.intro (draw_ok (by kernel_rfl)) ?_); repeat refine seq_on ?_)
  refine cmp_yes rfl ?_
  refine cmp_yes rfl ?_
  refine eq_agg hq (cmp_is true rfl ?_)
  refine bytes_is idle0 rfl ?_
  refine cmp_yes (by decide) ?_
  ((try refine And.intro (draw_ok (by kernel_rfl)) ?_); repeat refine seq_on ?_)
  rfl
end Go.Proofs.YtiokdhklhnhfhaaDoor

namespace Go.Proofs.YtiokdhklhnhfhaaDoor
variable {G : List Go.Eng.Gl}
open Go.Eng
attribute [local irreducible] Hold
set_option maxRecDepth 100000

theorem decimal41 (n : Nat) (hn : n ≤ 9223372036854775807) : Does (CG G) 41 [.i .i64 (n : Int)] [.s (digs 10 n)] := by
  generalize hfin : digs 10 n = fin
  have hfl : fin.length ≤ 64 := by
    rw [← hfin]
    have := digs10 63 n (by have : (10 : Nat) ^ (63 + 1) = 10000000000000000000000000000000000000000000000000000000000000000 := by decide
                            omega)
    omega
  refine Does.mk (n := 17) Tryd.func41 rfl rfl rfl (Nat.le_of_ble_eq_true rfl) ?_
  repeat refine seq_on ?_
  apply loop_inv (fun x : Nat × List UInt8 => x.1 ≤ 9223372036854775807 ∧ digs 10 x.1 ++ x.2 = fin) (fun x => ⟨[(0, .d (.i .i64 (x.1 : Int))), (3, .d (.s x.2))], [], 2⟩) (fun x => x.1) (n, []) ⟨hn, by simpa using hfin⟩ []
  · ((repeat' constructor) <;> (first | refine hold ?_ | rfl) <;> first | with_reducible rfl | (congr 1 <;> omega) | (congr 1 <;> simp; done) | (simp; done) | exact encB_snoc _ _ | skip)
  · rintro ⟨k, acc⟩ ⟨h1, h2⟩
    simp only at h1 h2
    have hal : acc.length ≤ 64 := by have := congrArg List.length h2; simp at this; omega
    have ht : ((k : Int)).tmod 10 = ((k % 10 : Nat) : Int) := by rw [Int.tmod_eq_emod_of_nonneg (by omega)]; omega
    have hd : ((k : Int)).tdiv 10 = ((k / 10 : Nat) : Int) := by rw [Int.tdiv_eq_ediv_of_nonneg (by omega)]; omega
    have hr : k % 10 < 10 := Nat.mod_lt _ (by decide)
    have hx : hexd (k % 10) = UInt8.ofNat (48 + k % 10) := by unfold hexd; rw [if_pos hr]
    have hxn : ((hexd (k % 10)).toNat : Int) = 48 + ((k % 10 : Nat) : Int) := by rw [hx, UInt8.toNat_ofNat']; omega
    repeat refine seq_on ?_
    refine div_ok (by decide) ?_
    rw [ht]
    refine ar ⟨by omega, by omega⟩ ?_
    refine ar8 ⟨by omega, by omega⟩ ?_
    refine bytes_is [hexd (k % 10)] (by simp [encB, hxn]) ?_
    refine len_ok (by simp; omega) ?_
    refine div_ok (by decide) ?_
    rw [hd]
    refine ar ⟨by omega, by omega⟩ ?_
    refine cmp_dec (fun h3 => ?_) (fun h3 => ?_)
    · have h3 : ((k / 10 : Nat) : Int) = 0 := h3
      repeat refine seq_on ?_
      refine fin_eq ?_
      have hk : k < 10 := by omega
      rw [digs_one hk] at h2
      rw [show k % 10 = k by omega, ← h2]
    · have h3 : ¬ ((k / 10 : Nat) : Int) = 0 := h3
      rw [digs_more (by decide) (by omega), List.append_assoc] at h2
      apply again (k / 10, [hexd (k % 10)] ++ acc) [] ⟨by simp only; omega, h2⟩ (by simp only; omega)
      ((repeat' constructor) <;> (first | refine hold ?_ | rfl) <;> first | with_reducible rfl | (congr 1 <;> omega) | (congr 1 <;> simp; done) | (simp; done) | exact encB_snoc _ _ | skip)

theorem admF_reads (m q : List UInt8) (x : Ro) (p : Pl) : (admF m q x p).ro = x ∨ (m = postM ∧ (admF m q x p).code = 200) := by
  unfold admF
  split
  · exact .inl rfl
  · split
    · rename_i h
      split
      · exact .inl rfl
      · exact .inr ⟨h.2, rfl⟩
    · split <;> exact .inl rfl
theorem admF_len (m q : List UInt8) (x : Ro) (p : Pl) : if m = headM ∧ (admF m q x p).code = 200 then (admF m q x p).text = statusF x p ∧ (admF m q x p).body = [] else (admF m q x p).body = (admF m q x p).text := by
  unfold admF
  by_cases h1 : q = rollP ∧ (m = getM ∨ m = headM)
  · rw [if_pos h1]
    by_cases h2 : m = headM
    · rw [if_pos ⟨h2, rfl⟩, if_pos h2]; exact ⟨rfl, rfl⟩
    · rw [if_neg (fun h => h2 h.1), if_neg h2]
  · rw [if_neg h1]
    by_cases h2 : 0 < acmdF q ∧ m = postM
    · rw [if_pos h2, if_neg (fun h => by rw [h2.2] at h; exact absurd h.1 (by decide))]
      split <;> rfl
    · rw [if_neg h2]
      split
      · rw [if_neg (fun h => absurd h.2 (show ¬ (405 : Int) = 200 by decide))]
      · rw [if_neg (fun h => absurd h.2 (show ¬ (404 : Int) = 200 by decide))]
theorem admF_body (m q : List UInt8) (x : Ro) (p : Pl) (hx : Io x p) (hy : ∀ c, Io (cmdF x c).1 p) : (admF m q x p).body.length ≤ 3000 ∧ (admF m q x p).text.length ≤ 3000 := by
  have h1 := status_len x p hx
  have h2 := status_len _ p (hy (acmdF q : Int))
  have a1 : confl.length ≤ 3000 := by decide
  have a2 : notA.length ≤ 3000 := by decide
  have a3 : notF.length ≤ 3000 := by decide
  unfold admF
  split
  · refine ⟨?_, h1⟩
    simp only
    split
    · decide
    · exact h1
  · split
    · split
      · exact ⟨a1, a1⟩
      · exact ⟨h2, h2⟩
    · split
      · exact ⟨a2, a2⟩
      · exact ⟨a3, a3⟩

theorem plan_in' (l m : List Int) : RoIn 1000 (planAt l 0).1.ws.length (runF (planAt l 0).1 (inputsF m)) := by
  have h1 := planAt_len l 0
  have h2 := inputsF_len m
  obtain ⟨g1, g2, g3, g4, g5, g6⟩ := run_in (planAt l 0).1 h1.1 (inputsF m)
  exact ⟨g1, g2, ⟨g3.1, by omega⟩, g4, g5, ⟨g6.1, by omega⟩⟩
theorem targ_le (b : Int) : (targL.getD (wiV b 11) []).length ≤ 9223372036854775807 := by
  have hb' := wiV_lt b 11 (by decide)
  have : targL.length = 11 := rfl
  have hlt : wiV b 11 < targL.length := by omega
  rw [List.getD_eq_getElem?_getD, List.getElem?_eq_getElem hlt]
  have := targL_len _ (List.getElem_mem hlt)
  simp only [Option.getD_some]; omega

theorem lawAdmReads (l m : List Int) (a b : Int) (hl : l.length ≤ 9223372036854775807) : Does (CA G) 11 [ints l, ints m, .i .i64 a, .i .i64 b] [.b true] := by
  have h1 := plan33 (G := gA G) l 0 (Nat.zero_le _) hl
  have h2 := inputs35 (G := gA G) m
  have hpl := planAt_len l 0
  have hx := plan_in' l m
  have h3 := run34 (G := gA G) (planAt l 0).1 (inputsF m) hpl.1 (by omega) (by have := inputsF_len m; omega)
  have hw := planAt_mem l 0
  generalize runF (planAt l 0).1 (inputsF m) = x at *
  generalize planAt l 0 = pp at *
  obtain ⟨p, i⟩ := pp
  simp only at *
  have hio := io_of hx (by decide) (by omega) hw
  have hjo : ∀ c, Io (cmdF x c).1 p := fun c => io_of (cmdF_in hpl.1 (by decide) hx c) (by decide) (by omega) hw
  have h4 := request36 (G := gA G) a b
  have hmt := targ_le b
  generalize methL.getD (wiV a 5) [] = mm at *
  generalize targL.getD (wiV b 11) [] = tt at *
  have h5 := handle37 (G := G) mm tt 1 [] [] false x p hio hjo hmt (by omega)
  have hrd := admF_reads mm (cutF 63 tt).1 x p
  generalize admF mm (cutF 63 tt).1 x p = an at *
  have haw := awake38 (G := G)
  have hq := eqRo x an.ro
  have hqi := roEq_iff (a := x) (b := an.ro)
  unfold ansD at *
  unfold roD plD replyD srcB inps at *
  refine Does.mk (n := 48) Tryd.func11 rfl rfl rfl (Nat.le_of_ble_eq_true rfl) ?_
  repeat refine seq_on ?_
  refine callh [(0, 64)] h1 ?_ ?_
  · ((repeat' constructor) <;> (first | refine hold ?_ | rfl) <;> first | with_reducible rfl | (congr 1 <;> omega) | (congr 1 <;> simp; done) | (simp; done) | exact encB_snoc _ _ | skip)
  ((try refine And.intro (draw_ok (by kernel_rfl)) ?_); repeat refine seq_on ?_)
  refine call_by h2 ?_
  refine call_by h3 ?_
  ((try refine And.intro (draw_ok (by kernel_rfl)) ?_); repeat refine seq_on ?_)
  refine call_by h4 ?_
  ((try refine And.intro (draw_ok (by kernel_rfl)) ?_); repeat refine seq_on ?_)
  refine call_by h5 ?_
  ((try refine And.intro (draw_ok (by kernel_rfl)) ?_); repeat refine seq_on ?_)
  cases hr : roEq x an.ro
  · rw [hr] at hq
    have hne : ¬ x = an.ro := fun e => by rw [hqi.2 e] at hr; cases hr
    obtain ⟨g1, g2⟩ := hrd.resolve_left fun e => hne e.symm
    refine eq_agg hq (cmp_is false rfl ?_)
    refine cmp_yes g1 ?_
    refine cmp_yes g2 ?_
    refine call_by haw ?_
    ((try refine And.intro (draw_ok (by kernel_rfl)) ?_); repeat refine seq_on ?_)
    rfl
  · rw [hr] at hq
    refine eq_agg hq (cmp_is true rfl ?_)
    refine call_by haw ?_
    ((try refine And.intro (draw_ok (by kernel_rfl)) ?_); repeat refine seq_on ?_)
    rfl

def clLow : List UInt8 := [99, 111, 110, 116, 101, 110, 116, 45, 108, 101, 110, 103, 116, 104]
theorem vals_hdr (ct text : List UInt8) : valsF clLow (hdr ct text) = [printF 10 (text.length : Int)] := by
  have e1 : isName clLow (ctName, ct) = false := decide_eq_false (show ¬ lowF ctName = lowF clLow by decide)
  have e2 : isName clLow (clName, printF 10 (text.length : Int)) = true := decide_eq_true (show lowF clName = lowF clLow by decide)
  unfold valsF hdr
  rw [List.filter_cons_of_neg (by rw [e1]; decide), List.filter_cons_of_pos e2, List.filter_nil]
  rfl
theorem lawAdmLength (l m : List Int) (a b : Int) (hl : l.length ≤ 9223372036854775807) : Does (CA G) 12 [ints l, ints m, .i .i64 a, .i .i64 b] [.b true] := by
  have h1 := plan33 (G := gA G) l 0 (Nat.zero_le _) hl
  have h2 := inputs35 (G := gA G) m
  have hpl := planAt_len l 0
  have hx := plan_in' l m
  have h3 := run34 (G := gA G) (planAt l 0).1 (inputsF m) hpl.1 (by omega) (by have := inputsF_len m; omega)
  have hw := planAt_mem l 0
  generalize runF (planAt l 0).1 (inputsF m) = x at *
  generalize planAt l 0 = pp at *
  obtain ⟨p, i⟩ := pp
  simp only at *
  have hio := io_of hx (by decide) (by omega) hw
  have hjo : ∀ c, Io (cmdF x c).1 p := fun c => io_of (cmdF_in hpl.1 (by decide) hx c) (by decide) (by omega) hw
  have h4 := request36 (G := gA G) a b
  have hmt := targ_le b
  generalize methL.getD (wiV a 5) [] = mm at *
  generalize targL.getD (wiV b 11) [] = tt at *
  have h5 := handle37 (G := G) mm tt 1 [] [] false x p hio hjo hmt (by omega)
  have hln := admF_len mm (cutF 63 tt).1 x p
  have hbd := admF_body mm (cutF 63 tt).1 x p hio hjo
  generalize admF mm (cutF 63 tt).1 x p = an at *
  have hst := status39 (G := G) x p hio (by omega)
  have haw := awake38 (G := G)
  have hv := valsR (G := gA G) (hdr an.ct an.text) clLow (by show 2 ≤ _; decide) (by decide) (fun f hf => by
    have : f.1 = ctName ∨ f.1 = clName := by simp [hdr] at hf; rcases hf with rfl | rfl <;> simp
    rcases this with e | e <;> rw [e] <;> decide)
  rw [vals_hdr] at hv
  have hd := decimal41 (G := gA G) an.text.length (by omega)
  have hpr : printF 10 (an.text.length : Int) = digs 10 an.text.length := by unfold printF; rw [if_neg (by omega)]; rfl
  rw [hpr] at hv
  generalize digs 10 an.text.length = dg at *
  unfold ansD at *
  unfold roD plD replyD srcB inps fldsD at *
  refine Does.mk (n := 70) Tryd.func12 rfl rfl rfl (Nat.le_of_ble_eq_true rfl) ?_
  repeat refine seq_on ?_
  refine callh [(0, 64)] h1 ?_ ?_
  · ((repeat' constructor) <;> (first | refine hold ?_ | rfl) <;> first | with_reducible rfl | (congr 1 <;> omega) | (congr 1 <;> simp; done) | (simp; done) | exact encB_snoc _ _ | skip)
  ((try refine And.intro (draw_ok (by kernel_rfl)) ?_); repeat refine seq_on ?_)
  refine call_by h2 ?_
  refine call_by h3 ?_
  ((try refine And.intro (draw_ok (by kernel_rfl)) ?_); repeat refine seq_on ?_)
  refine call_by h4 ?_
  ((try refine And.intro (draw_ok (by kernel_rfl)) ?_); repeat refine seq_on ?_)
  refine call_by h5 ?_
  ((try refine And.intro (draw_ok (by kernel_rfl)) ?_); repeat refine seq_on ?_)
  refine cmp_dec (fun g1 => ?_) (fun g1 => ?_)
  · have g1 : mm = headM := g1
    refine cmp_dec (fun g2 => ?_) (fun g2 => ?_)
    · have g2 : an.code = 200 := g2
      rw [if_pos ⟨g1, g2⟩] at hln
      obtain ⟨e1, e2⟩ := hln
      rw [← e1] at hst
      ((try refine And.intro (draw_ok (by kernel_rfl)) ?_); repeat refine seq_on ?_)
      refine call_by hst ?_
      ((try refine And.intro (draw_ok (by kernel_rfl)) ?_); repeat refine seq_on ?_)
      refine cmp_no (by rw [e2]; decide) ?_
      ((try refine And.intro (draw_ok (by kernel_rfl)) ?_); repeat refine seq_on ?_)
      refine call_by hv ?_
      ((try refine And.intro (draw_ok (by kernel_rfl)) ?_); repeat refine seq_on ?_)
      refine cmp_yes rfl ?_
      refine Eng.get_at 0 rfl (x := .s dg) rfl ?_
      refine call_by hd ?_
      refine cmp_yes rfl ?_
      refine call_by haw ?_
      ((try refine And.intro (draw_ok (by kernel_rfl)) ?_); repeat refine seq_on ?_)
      rfl
    · have g2 : ¬ an.code = 200 := g2
      rw [if_neg (fun h => g2 h.2)] at hln
      rw [← hln] at hd
      ((try refine And.intro (draw_ok (by kernel_rfl)) ?_); repeat refine seq_on ?_)
      refine call_by hv ?_
      ((try refine And.intro (draw_ok (by kernel_rfl)) ?_); repeat refine seq_on ?_)
      refine cmp_yes rfl ?_
      refine Eng.get_at 0 rfl (x := .s dg) rfl ?_
      refine call_by (by rw [encB_len]; exact hd) ?_
      refine cmp_yes rfl ?_
      refine call_by haw ?_
      ((try refine And.intro (draw_ok (by kernel_rfl)) ?_); repeat refine seq_on ?_)
      rfl
  · have g1 : ¬ mm = headM := g1
    rw [if_neg (fun h => g1 h.1)] at hln
    rw [← hln] at hd
    ((try refine And.intro (draw_ok (by kernel_rfl)) ?_); repeat refine seq_on ?_)
    refine call_by hv ?_
    ((try refine And.intro (draw_ok (by kernel_rfl)) ?_); repeat refine seq_on ?_)
    refine cmp_yes rfl ?_
    refine Eng.get_at 0 rfl (x := .s dg) rfl ?_
    refine call_by (by rw [encB_len]; exact hd) ?_
    refine cmp_yes rfl ?_
    refine call_by haw ?_
    ((try refine And.intro (draw_ok (by kernel_rfl)) ?_); repeat refine seq_on ?_)
    rfl

theorem wiV_id {c : Int} (h : 0 ≤ c ∧ c ≤ 6) : wiV c 7 = c.toNat := by
  have : c = 0 ∨ c = 1 ∨ c = 2 ∨ c = 3 ∨ c = 4 ∨ c = 5 ∨ c = 6 := by omega
  rcases this with rfl | rfl | rfl | rfl | rfl | rfl | rfl <;> decide
/-- What a command's request answers. -/
theorem admF_cmd (x : Ro) (p : Pl) (c : Int) (hc : 0 ≤ c ∧ c ≤ 6) : (admF postM (cutF 63 (rollS ++ cmdsT.getD c.toNat [])).1 x p).ro = stepF x p (4, c) ∧ ((cmdF x c).2 = 0 ↔ (admF postM (cutF 63 (rollS ++ cmdsT.getD c.toNat [])).1 x p).code = 200) := by
  have hs : stepF x p (4, c) = if (cmdF x c).2 = 0 then (cmdF x c).1 else x := by
    unfold stepF
    rw [if_neg (show ¬ (4 : Int) = 1 by decide), if_neg (show ¬ ((4 : Int) = 2 ∨ (4 : Int) = 3) by decide), if_pos rfl]
  have hq : (cutF 63 (rollS ++ cmdsT.getD c.toNat [])).1 ≠ rollP ∧ ((acmdF (cutF 63 (rollS ++ cmdsT.getD c.toNat [])).1 : Nat) : Int) = c := by
    have : c = 0 ∨ c = 1 ∨ c = 2 ∨ c = 3 ∨ c = 4 ∨ c = 5 ∨ c = 6 := by omega
    rcases this with rfl | rfl | rfl | rfl | rfl | rfl | rfl <;> decide
  generalize (cutF 63 (rollS ++ cmdsT.getD c.toNat [])).1 = q at hq
  obtain ⟨h1, h2⟩ := hq
  rw [hs]
  unfold admF
  rw [if_neg (fun h => h1 h.1)]
  by_cases h0 : c = 0
  · have hn : ¬ (0 < acmdF q) := by omega
    rw [if_neg (fun h => hn h.1), if_neg (fun h => h.elim h1 hn)]
    have : (cmdF x c).2 = 1 := by rw [h0]; rfl
    rw [this]
    exact ⟨rfl, ⟨fun h => absurd h (by decide), fun h => absurd h (show ¬ (404 : Int) = 200 by decide)⟩⟩
  · rw [if_pos ⟨by omega, rfl⟩, h2]
    by_cases h3 : (cmdF x c).2 = 0
    · rw [if_neg (fun h => h h3), if_pos h3]
      exact ⟨rfl, ⟨fun _ => rfl, fun _ => h3⟩⟩
    · rw [if_pos h3, if_neg h3]
      exact ⟨rfl, ⟨fun h => absurd h h3, fun h => absurd h (show ¬ (409 : Int) = 200 by decide)⟩⟩

theorem lawAdmCommands (l m : List Int) (hl : l.length ≤ 9223372036854775807) : Does (CA G) 13 [ints l, ints m] [.b true] := by
  have h1 := plan33 (G := gA G) l 0 (Nat.zero_le _) hl
  have h2 := inputs35 (G := gA G) m
  have hpl := planAt_len l 0
  have hw := planAt_mem l 0
  have hrun := fun i : Nat => run_in (planAt l 0).1 hpl.1 ((inputsF m).take i)
  have hcm := inputsF_cmd m
  have hil := inputsF_len m
  generalize inputsF m = ins at *
  generalize planAt l 0 = pp at *
  obtain ⟨p, i0⟩ := pp
  simp only at *
  have hst : ∀ (i : Nat) (hi : i < ins.length), runF p (ins.take (i + 1)) = stepF (runF p (ins.take i)) p ins[i] := by
    intro i hi
    rw [List.take_succ_eq_append_getElem hi, run_snoc]
  have h0 : runF p (ins.take 0) = ro0 0 := rfl
  generalize hf : (fun i => runF p (ins.take i)) = f
  have hf' : ∀ i, runF p (ins.take i) = f i := fun i => by rw [← hf]
  simp only [hf'] at hst h0 hrun
  have hin : ∀ i, RoIn 1000 p.ws.length (f i) := fun i => by
    obtain ⟨g1, g2, g3, g4, g5, g6⟩ := hrun i
    have : (ins.take i).length ≤ ins.length := by simp; omega
    exact ⟨g1, g2, ⟨g3.1, by omega⟩, g4, g5, ⟨g6.1, by omega⟩⟩
  have haw := awake38 (G := G)
  have hc7 : cmdsT.length = 7 := rfl
  have hilen : (ins.map inpD).length = ins.length := by simp
  unfold plD srcB inps at *
  refine Does.mk (n := 86) Tryd.func13 rfl rfl rfl (Nat.le_of_ble_eq_true rfl) ?_
  repeat refine seq_on ?_
  refine callh [(0, 64)] h1 ?_ ?_
  · ((repeat' constructor) <;> (first | refine hold ?_ | rfl) <;> first | with_reducible rfl | (congr 1 <;> omega) | (congr 1 <;> simp; done) | (simp; done) | exact encB_snoc _ _ | skip)
  ((try refine And.intro (draw_ok (by kernel_rfl)) ?_); repeat refine seq_on ?_)
  refine call_by h2 ?_
  ((try refine And.intro (draw_ok (by kernel_rfl)) ?_); repeat refine seq_on ?_)
  apply loop_inv (fun i : Nat => i ≤ ins.length) (fun i => ⟨[(5, .op 16 0 0), (6, .os 17), (7, .op 18 0 0), (8, .op 19 0 0), (9, .d (.sl 2 (ins.map inpD))), (10, .d (.i .i64 (i : Int)))],
    [(16, some (.box [.d (.sl 1 (p.ws.map (.i .i64))), .d (.i .i64 p.ms), .d (.i .i64 p.nu), .d (.i .i64 p.de), .d (.i .i64 p.ho), .d (.i .i64 p.wi)])), (17, some (.buf 1 (cmdsT.map .s))),
     (18, some (.box [.d (.i .i64 (f i).st), .d (.i .i64 (f i).sg), .d (.i .i64 (f i).he), .d (.i .i64 (f i).tt), .d (.i .i64 (f i).er), .d (.i .i64 (f i).ag)])), (19, some (.box [.d (.i .i64 (f i).st), .d (.i .i64 (f i).sg), .d (.i .i64 (f i).he), .d (.i .i64 (f i).tt), .d (.i .i64 (f i).er), .d (.i .i64 (f i).ag)]))], 2⟩) (fun i => ins.length - i) 0 (Nat.zero_le _) [(16, _), (17, _), (18, _), (19, _)]
  · rw [h0]
    ((repeat' constructor) <;> (first | refine hold ?_ | rfl) <;> first | with_reducible rfl | (congr 1 <;> omega) | (congr 1 <;> simp; done) | (simp; done) | exact encB_snoc _ _ | skip)
  · intro i hi
    repeat refine seq_on ?_
    refine cmp_dec (fun g => ?_) (fun g => ?_)
    · have hi' : i < ins.length := by omega
      have hg : (ins.map inpD)[i]? = some (inpD ins[i]) := by simp [hi']
      have hx := hin i
      have hci := hcm _ (List.getElem_mem hi')
      have hstep := step43 (G := gA G) (f i) p ins[i] (by obtain ⟨_, _, g3, _, _, _⟩ := hx; omega) (by obtain ⟨_, g2, _, _, _, _⟩ := hx; omega) (by obtain ⟨_, _, _, _, _, g6⟩ := hx; omega) (by omega)
      rw [← hst i hi'] at hstep
      have hq := eqRo (f (i + 1)) (f (i + 1))
      rw [show roEq (f (i + 1)) (f (i + 1)) = true from roEq_iff.2 rfl] at hq
      unfold plD at hstep
      have hio := io_of hx (by decide) (by omega) hw
      have hjo : ∀ c, Io (cmdF (f i) c).1 p := fun c => io_of (cmdF_in hpl.1 (by decide) hx c) (by decide) (by omega) hw
      have hsti := hst i hi'
      generalize ins[i] = x at *
      obtain ⟨kd, c⟩ := x
      simp only at hci
      by_cases hk : kd = 4
      · subst hk
        have hwi := withinV (G := gA G) c 7 (by decide)
        rw [wiV_id hci] at hwi
        have hcl : (cmdsT.getD c.toNat []).length ≤ 10 := by
          have : ∀ j : Fin 7, (cmdsT.getD j.val []).length ≤ 10 := by decide
          exact this ⟨c.toNat, by omega⟩
        have hh := handle37 (G := G) postM (rollS ++ cmdsT.getD c.toNat []) 0 [] [] false (f i) p hio hjo (by rw [List.length_append]; have : rollS.length = 9 := rfl; omega) (by omega)
        obtain ⟨e1, e2⟩ := admF_cmd (f i) p c hci
        rw [← hsti] at e1
        have hcm := cmd42 (G := gA G) (f i) c
        generalize admF postM (cutF 63 (rollS ++ cmdsT.getD c.toNat [])).1 (f i) p = an at *
        generalize cmdF (f i) c = cc at *
        obtain ⟨y, er⟩ := cc
        simp only at e2 hcm
        rw [e1] at hh
        have hgc : (cmdsT.map D.s)[c.toNat]? = some (.s (cmdsT.getD c.toNat [])) := by simp [hc7, show c.toNat < 7 by omega]
        generalize cmdsT.getD c.toNat [] = nm at *
        unfold inpD at hg hstep
        simp only at hg hstep
        unfold ansD roD plD replyD at *
        repeat refine seq_on ?_
        refine Eng.get_at i rfl hg ?_
        refine cmp_yes rfl ?_
        repeat refine seq_on ?_
        refine Eng.get_at i rfl hg ?_
        refine call_by hwi ?_
        refine idx c.toNat rfl (by show c.toNat < 7; omega) ?_
        refine at_is hgc ?_
        refine len_ok (by simp; omega) ?_
        refine call_by hh ?_
        ((try refine And.intro (draw_ok (by kernel_rfl)) ?_); repeat refine seq_on ?_)
        refine Eng.get_at i rfl hg ?_
        refine call_by hcm ?_
        ((try refine And.intro (draw_ok (by kernel_rfl)) ?_); repeat refine seq_on ?_)
        by_cases h0 : er = 0
        · refine cmp_yes h0 ?_
          refine cmp_yes (e2.1 h0) ?_
          refine cmp_is false rfl ?_
          ((try refine And.intro (draw_ok (by kernel_rfl)) ?_); repeat refine seq_on ?_)
          refine Eng.get_at i rfl hg ?_
          refine call_by hstep ?_
          ((try refine And.intro (draw_ok (by kernel_rfl)) ?_); repeat refine seq_on ?_)
          refine eq_agg hq (cmp_is true rfl ?_)
          ((try refine And.intro (draw_ok (by kernel_rfl)) ?_); repeat refine seq_on ?_)
          refine ar ⟨by omega, by omega⟩ ?_
          apply again (i + 1) [(16, _), (17, _), (18, _), (19, _)] (by omega) (by omega)
          ((repeat' constructor) <;> (first | refine hold ?_ | rfl) <;> first | with_reducible rfl | (congr 1 <;> omega) | (congr 1 <;> simp; done) | (simp; done) | exact encB_snoc _ _ | skip)
        · refine cmp_no h0 ?_
          refine cmp_no (fun h => h0 (e2.2 h)) ?_
          refine cmp_is false rfl ?_
          ((try refine And.intro (draw_ok (by kernel_rfl)) ?_); repeat refine seq_on ?_)
          refine Eng.get_at i rfl hg ?_
          refine call_by hstep ?_
          ((try refine And.intro (draw_ok (by kernel_rfl)) ?_); repeat refine seq_on ?_)
          refine eq_agg hq (cmp_is true rfl ?_)
          ((try refine And.intro (draw_ok (by kernel_rfl)) ?_); repeat refine seq_on ?_)
          refine ar ⟨by omega, by omega⟩ ?_
          apply again (i + 1) [(16, _), (17, _), (18, _), (19, _)] (by omega) (by omega)
          ((repeat' constructor) <;> (first | refine hold ?_ | rfl) <;> first | with_reducible rfl | (congr 1 <;> omega) | (congr 1 <;> simp; done) | (simp; done) | exact encB_snoc _ _ | skip)
      · unfold inpD at hg hstep
        simp only at hg hstep
        unfold roD at *
        repeat refine seq_on ?_
        refine Eng.get_at i rfl hg ?_
        refine cmp_no hk ?_
        repeat refine seq_on ?_
        refine Eng.get_at i rfl hg ?_
        refine call_by hstep ?_
        ((try refine And.intro (draw_ok (by kernel_rfl)) ?_); repeat refine seq_on ?_)
        refine Eng.get_at i rfl hg ?_
        refine call_by hstep ?_
        ((try refine And.intro (draw_ok (by kernel_rfl)) ?_); repeat refine seq_on ?_)
        refine eq_agg hq (cmp_is true rfl ?_)
        ((try refine And.intro (draw_ok (by kernel_rfl)) ?_); repeat refine seq_on ?_)
        refine ar ⟨by omega, by omega⟩ ?_
        apply again (i + 1) [(16, _), (17, _), (18, _), (19, _)] (by omega) (by omega)
        ((repeat' constructor) <;> (first | refine hold ?_ | rfl) <;> first | with_reducible rfl | (congr 1 <;> omega) | (congr 1 <;> simp; done) | (simp; done) | exact encB_snoc _ _ | skip)
    · obtain rfl : i = ins.length := by omega
      repeat refine seq_on ?_
      refine call_by haw ?_
      ((try refine And.intro (draw_ok (by kernel_rfl)) ?_); repeat refine seq_on ?_)
      rfl
end Go.Proofs.YtiokdhklhnhfhaaDoor

namespace Go.Proofs.YtiokdhklhnhfhaaDoor
variable {G : List Go.Eng.Gl}
open Go.Eng
attribute [local irreducible] Hold
set_option maxRecDepth 100000

def cmd6 : List (List UInt8) := cmdsT.drop 1
theorem rollS_take {p n : List UInt8} (h : p = rollS ++ n) : acmdF p = cmdIx n := by
  subst h
  unfold acmdF
  rw [List.take_append_of_le_length (by decide), List.drop_append_of_le_length (by decide), if_pos (by decide), show rollS.drop 9 = [] by decide, List.nil_append]
theorem acmd_none {p : List UInt8} (h : ∀ j, j < 6 → p ≠ rollS ++ cmd6.getD j []) : acmdF p = 0 := by
  unfold acmdF
  split
  · rename_i ht
    refine cmdIx_none fun j h1 h2 he => ?_
    refine h (j - 1) (by omega) ?_
    have e : cmd6.getD (j - 1) [] = cmdsT.getD j [] := by
      have : ∀ j : Fin 7, 0 < j.val → cmd6.getD (j.val - 1) [] = cmdsT.getD j.val [] := by decide
      exact this ⟨j, h2⟩ h1
    rw [e, he, ← ht, List.take_append_drop]
  · rfl
theorem plan_in (l m : List Int) : RoIn 1000 (planAt l 0).1.ws.length (runF (planAt l 0).1 (inputsF m)) := by
  have h1 := planAt_len l 0
  have h2 := inputsF_len m
  obtain ⟨g1, g2, g3, g4, g5, g6⟩ := run_in (planAt l 0).1 h1.1 (inputsF m)
  exact ⟨g1, g2, ⟨g3.1, by omega⟩, g4, g5, ⟨g6.1, by omega⟩⟩

end Go.Proofs.YtiokdhklhnhfhaaDoor

