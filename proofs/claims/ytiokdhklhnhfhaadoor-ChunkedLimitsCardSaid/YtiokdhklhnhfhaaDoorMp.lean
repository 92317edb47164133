import Derived.Test.YtiokdhklhnhfhaaDoorMo
import Derived.Test.YtiokdhklhnhfhaaDoorMn
import Derived.Test.YtiokdhklhnhfhaaDoorMe
namespace Go.Proofs.YtiokdhklhnhfhaaDoor
variable {G : List Go.Eng.Gl}
open Go.Eng
attribute [local irreducible] Hold
set_option maxRecDepth 100000

structure DecR where
  out : List UInt8
  n : Nat
  e : Int
noncomputable def decF (b : List UInt8) : DecR :=
  let r := feedG (b.length : Int) .zero [] b 0
  if r.e ≠ 0 then ⟨[], 0, r.e⟩ else if r.c.ph ≠ 4 then ⟨[], 0, 4⟩ else ⟨r.out, r.n, 0⟩
def DecR.ds (r : DecR) : List D := [.sl 1 (encB r.out), .i .i64 (r.n : Int), .i .i64 r.e]

theorem zero_ok : Chk.zero.Ok := ⟨.inl rfl, fun _ _ => rfl, by decide, fun _ => rfl, by decide, fun h => absurd h (by decide), by decide, fun _ => by decide⟩

theorem decR (b : List UInt8) (hb : b.length ≤ 4294967295) : Does (CG G) 30 [.sl 1 (encB b)] (decF b).ds := by
  have hbl := encB_len b
  have h : Does (CG G) 26 [chkD .zero, .sl 1 (encB b), .i .i64 ((encB b).length : Int)] (feedG (b.length : Int) .zero [] b 0).ds := by
    rw [hbl]; exact feedR .zero b _ zero_ok hb ⟨by omega, by omega⟩
  refine Does.mk (n := 27) Tryd.func30 rfl rfl rfl (Nat.le_of_ble_eq_true rfl) ?_
  repeat refine seq_on ?_
  refine call_by h ?_
  unfold decF
  generalize feedG (b.length : Int) .zero [] b 0 = r
  repeat refine seq_on ?_
  refine cmp_dec (fun h => ?_) (fun h => ?_)
  · repeat refine seq_on ?_
    simp only [if_pos (show r.e ≠ 0 from h)]
    rfl
  · repeat refine seq_on ?_
    simp only [if_neg (show ¬ r.e ≠ 0 from h)]
    refine cmp_dec (fun h => ?_) (fun h => ?_)
    · repeat refine seq_on ?_
      simp only [if_pos (show r.c.ph ≠ 4 from h)]
      rfl
    · repeat refine seq_on ?_
      simp only [if_neg (show ¬ r.c.ph ≠ 4 from h)]
      rfl
theorem decP (b : List UInt8) (hb : b.length ≤ 4294967295) : Does (CG G) 29 [.sl 1 (encB b)] (decF b).ds := by
  have hbl := encB_len b
  have h : Does (CG G) 25 [chkD .zero, .sl 1 (encB b), .i .i64 ((encB b).length : Int)] (feedG (b.length : Int) .zero [] b 0).ds := by
    rw [hbl]; exact feedP .zero b _ zero_ok hb ⟨by omega, by omega⟩
  refine Does.mk (n := 29) Tryd.func29 rfl rfl rfl (Nat.le_of_ble_eq_true rfl) ?_
  repeat refine seq_on ?_
  refine call_by h ?_
  unfold decF
  generalize feedG (b.length : Int) .zero [] b 0 = r
  repeat refine seq_on ?_
  refine cmp_dec (fun h => ?_) (fun h => ?_)
  · repeat refine seq_on ?_
    simp only [if_pos (show r.e ≠ 0 from h)]
    rfl
  · repeat refine seq_on ?_
    simp only [if_neg (show ¬ r.e ≠ 0 from h)]
    refine cmp_dec (fun h => ?_) (fun h => ?_)
    · repeat refine seq_on ?_
      simp only [if_pos (show r.c.ph ≠ 4 from h)]
      rfl
    · repeat refine seq_on ?_
      simp only [if_neg (show ¬ r.c.ph ≠ 4 from h)]
      rfl
end Go.Proofs.YtiokdhklhnhfhaaDoor

namespace Go.Proofs.YtiokdhklhnhfhaaDoor
variable {G : List Go.Eng.Gl}
open Go.Eng
attribute [local irreducible] Hold
set_option maxRecDepth 100000

theorem same27 (c : Chk) : Does (CG G) 27 [chkD c, chkD c] [.b true] := by
  refine Does.mk (n := 33) Tryd.func27 rfl rfl rfl (Nat.le_of_ble_eq_true rfl) ?_
  repeat refine seq_on ?_
  refine cmp_yes rfl ?_
  refine cmp_yes rfl ?_
  refine cmp_yes rfl ?_
  refine bytes_is c.ln rfl ?_
  refine bytes_is c.ln rfl ?_
  refine cmp_yes rfl ?_
  repeat refine seq_on ?_
  rfl

noncomputable def encChunk (b : List UInt8) : List UInt8 := if b = [] then [] else printF 16 (b.length : Int) ++ [13, 10] ++ b ++ [13, 10]
noncomputable def encF (ps : List (List UInt8)) : List UInt8 := (ps.map encChunk).flatten ++ [48, 13, 10, 13, 10]
def rows (ps : List (List UInt8)) : D := .sl 1 (ps.map fun b => .sl 1 (encB b))

theorem encR (ps : List (List UInt8)) (h : (encF ps).length ≤ 4294967295) (hb : ps.length ≤ 4294967295) : Does (CG G) 32 [rows ps] [.sl 1 (encB (encF ps))] := by
  refine Does.mk (n := 36) Tryd.func32 rfl rfl rfl (Nat.le_of_ble_eq_true rfl) ?_
  unfold rows
  repeat refine seq_on ?_
  apply loop_inv (fun i : Nat => i ≤ ps.length) (fun i => ⟨[(0, .d (.sl 1 (ps.map fun b => .sl 1 (encB b)))), (3, .d (.s ((ps.take i).map encChunk).flatten)), (4, .d (.i .i64 (i : Int)))], [], 2⟩) (fun i => ps.length - i) 0 (by omega) []
  · ((repeat' constructor) <;> refine hold ?_ <;> first | with_reducible rfl | (congr 1 <;> omega) | (congr 1 <;> simp; done) | (simp; done) | exact encB_snoc _ _ | skip)
  · intro i hi
    repeat refine seq_on ?_
    refine cmp_dec (fun hlt => ?_) (fun hlt => ?_)
    · have hlt : i < ps.length := by simpa using hlt
      have hf : ((ps.take (i + 1)).map encChunk).flatten = ((ps.take i).map encChunk).flatten ++ encChunk ps[i] := by
        rw [List.take_succ_eq_append_getElem hlt]; simp only [List.map_append, List.flatten_append, List.map_cons, List.map_nil, List.flatten_cons, List.flatten_nil, List.append_nil]
      have hl := encB_len ps[i]
      have hle : ((ps.take (i + 1)).map encChunk).flatten.length ≤ (encF ps).length := by
        unfold encF
        rw [List.length_append]
        have := flat_take_le (ps.map encChunk) (i + 1)
        rw [← List.map_take] at this
        omega
      rw [hf, List.length_append] at hle
      repeat refine seq_on ?_
      refine Eng.get_at i rfl (x := .sl 1 (encB ps[i])) (by simp [hlt]) ?_
      refine cmp_dec (fun h0 => ?_) (fun h0 => ?_)
      · have hne : ps[i] ≠ [] := fun e => by rw [e] at h0; simp [encB] at h0
        have he : encChunk ps[i] = printF 16 (ps[i].length : Int) ++ [13, 10] ++ ps[i] ++ [13, 10] := by unfold encChunk; rw [if_neg hne]
        rw [he] at hle
        simp only [List.length_append] at hle
        have hx : Does (CG G) 73 [.i .i64 ((encB ps[i]).length : Int)] [.s (printF 16 (ps[i].length : Int))] := by
          rw [hl]; exact hex19 _ ⟨by omega, by omega⟩
        repeat refine seq_on ?_
        refine Eng.get_at i rfl (x := .sl 1 (encB ps[i])) (by simp [hlt]) ?_
        refine call_by hx ?_
        simp only [List.length_cons, List.length_nil] at hle
        refine len_ok (by omega) ?_
        refine len_ok (by simp only [List.length_append, List.length_cons, List.length_nil]; omega) ?_
        refine Eng.get_at i rfl (x := .sl 1 (encB ps[i])) (by simp [hlt]) ?_
        refine bytes_is ps[i] rfl ?_
        refine len_ok (by simp only [List.length_append, List.length_cons, List.length_nil]; omega) ?_
        refine len_ok (by simp only [List.length_append, List.length_cons, List.length_nil]; omega) ?_
        (refine ⟨draw_ok (by kernel_rfl), ?_⟩; repeat refine seq_on ?_)
        refine ar ⟨by omega, by omega⟩ ?_
        apply again (i + 1) [] (by omega) (by omega)
        rw [hf, he]
        ((repeat' constructor) <;> refine hold ?_ <;> first | with_reducible rfl | (congr 1 <;> omega) | (congr 1 <;> simp; done) | (simp; done) | exact encB_snoc _ _ | skip)
        all_goals simp only [List.append_assoc]
      · have he : ps[i] = [] := by
          cases hc : ps[i] with
          | nil => rfl
          | cons x l => rw [hc] at h0; simp [encB] at h0
        repeat refine seq_on ?_
        refine ar ⟨by omega, by omega⟩ ?_
        apply again (i + 1) [] (by omega) (by omega)
        rw [hf, he]
        ((repeat' constructor) <;> refine hold ?_ <;> first | with_reducible rfl | (congr 1 <;> omega) | (congr 1 <;> simp; done) | (simp; done) | exact encB_snoc _ _ | skip)
        all_goals simp [encChunk]
    · have : i = ps.length := by have : ¬ i < ps.length := by simpa using hlt
                                 omega
      subst this
      rw [List.take_length]
      repeat refine seq_on ?_
      unfold encF at h
      simp only [List.length_append, List.length_cons, List.length_nil] at h
      refine len_ok (by simp only [List.length_append, List.length_cons, List.length_nil]; omega) ?_
      rfl

theorem encB_flat (ls : List (List UInt8)) : (ls.map encB).flatten = encB ls.flatten := by
  induction ls with
  | nil => rfl
  | cons x l ih => simp only [List.map_cons, List.flatten_cons, ih, encB_app]

theorem encP (ps : List (List UInt8)) (h : (encF ps).length ≤ 4294967295) (hb : ps.length ≤ 4294967295) : Does (CN G) 31 [rows ps] [.sl 1 (encB (encF ps))] := by
  refine Does.mk (n := 29) Tryd.func31 rfl rfl rfl (Nat.le_of_ble_eq_true rfl) ?_
  unfold rows
  repeat refine seq_on ?_
  apply loop_inv (fun i : Nat => i ≤ ps.length) (fun i => ⟨[(3, .os 16), (6, .d (.sl 1 (ps.map fun b => .sl 1 (encB b)))), (7, .d (.i .i64 (ps.length : Int))), (8, .d (.i .i64 (i : Int)))], [(16, some (.buf 1 (encB ((ps.take i).map encChunk).flatten)))], 2⟩) (fun i => ps.length - i) 0 (by omega) [(16, _)]
  · ((repeat' constructor) <;> refine hold ?_ <;> first | with_reducible rfl | (congr 1 <;> omega) | (congr 1 <;> simp; done) | (simp; done) | exact encB_snoc _ _ | skip)
  · intro i hi
    repeat refine seq_on ?_
    refine cmp_dec (fun hlt => ?_) (fun hlt => ?_)
    · have hlt : i < ps.length := by simpa using hlt
      have hf : ((ps.take (i + 1)).map encChunk).flatten = ((ps.take i).map encChunk).flatten ++ encChunk ps[i] := by
        rw [List.take_succ_eq_append_getElem hlt]; simp only [List.map_append, List.flatten_append, List.map_cons, List.map_nil, List.flatten_cons, List.flatten_nil, List.append_nil]
      have hl := encB_len ps[i]
      have hle : ((ps.take (i + 1)).map encChunk).flatten.length ≤ (encF ps).length := by
        unfold encF
        rw [List.length_append]
        have := flat_take_le (ps.map encChunk) (i + 1)
        rw [← List.map_take] at this
        omega
      rw [hf, List.length_append] at hle
      repeat refine seq_on ?_
      refine Eng.get_at i rfl (x := .sl 1 (encB ps[i])) (by simp [hlt]) ?_
      repeat refine seq_on ?_
      refine cmp_dec (fun h0 => ?_) (fun h0 => ?_)
      · have hne : ps[i] ≠ [] := fun e => by rw [e] at h0; simp [encB] at h0
        have he : encChunk ps[i] = printF 16 (ps[i].length : Int) ++ [13, 10] ++ ps[i] ++ [13, 10] := by unfold encChunk; rw [if_neg hne]
        rw [he] at hle
        simp only [List.length_append, List.length_cons, List.length_nil] at hle
        have hx : Does (CN G) 72 [.i .i64 ((encB ps[i]).length : Int)] [.s (printF 16 (ps[i].length : Int))] := by
          rw [hl]; exact hex17 _ ⟨by omega, by omega⟩
        repeat refine seq_on ?_
        refine call_by hx ?_
        refine len_ok (by simp only [List.length_cons, List.length_nil]; omega) ?_
        have hfl : [encB ((ps.take i).map encChunk).flatten, encB (printF 16 (ps[i].length : Int) ++ [13, 10]), encB ps[i], encB [13, 10]].flatten = encB (((ps.take (i + 1)).map encChunk).flatten) := by
          rw [hf, he]
          simp [encB_app]
        have hcc := concatB (G := gN G) [encB ((ps.take i).map encChunk).flatten, encB (printF 16 (ps[i].length : Int) ++ [13, 10]), encB ps[i], encB [13, 10]] (by
          rw [hfl, encB_len, hf, he]
          simp only [List.length_append, List.length_cons, List.length_nil]; omega) (by simp)
        rw [hfl] at hcc
        refine call_alt (callh [] hcc ?_ ?_)
        · ((repeat' constructor) <;> refine hold ?_ <;> first | with_reducible rfl | (congr 1 <;> omega) | (congr 1 <;> simp; done) | (simp; done) | exact encB_snoc _ _ | skip)
        repeat refine seq_on ?_
        refine ar ⟨by omega, by omega⟩ ?_
        apply again (i + 1) [(16, _)] (by omega) (by omega)
        ((repeat' constructor) <;> refine hold ?_ <;> first | with_reducible rfl | (congr 1 <;> omega) | (congr 1 <;> simp; done) | (simp; done) | exact encB_snoc _ _ | skip)
      · have he : ps[i] = [] := by
          cases hc : ps[i] with
          | nil => rfl
          | cons x l => rw [hc] at h0; simp [encB] at h0
        repeat refine seq_on ?_
        refine ar ⟨by omega, by omega⟩ ?_
        apply again (i + 1) [(16, _)] (by omega) (by omega)
        rw [hf, he, show encChunk [] = [] from rfl, List.append_nil]
        ((repeat' constructor) <;> refine hold ?_ <;> first | with_reducible rfl | (congr 1 <;> omega) | (congr 1 <;> simp; done) | (simp; done) | exact encB_snoc _ _ | skip)
    · have : i = ps.length := by have : ¬ i < ps.length := by simpa using hlt
                                 omega
      subst this
      rw [List.take_length]
      repeat refine seq_on ?_
      unfold encF at h
      simp only [List.length_append, List.length_cons, List.length_nil] at h
      refine app_ok (by simp only [encB_len, List.length_cons, List.length_nil]; omega) ?_
      repeat refine seq_on ?_
      unfold encF
      rw [encB_app]
      rfl
end Go.Proofs.YtiokdhklhnhfhaaDoor

namespace Go.Proofs.YtiokdhklhnhfhaaDoor
variable {G : List Go.Eng.Gl}
open Go.Eng
attribute [local irreducible] Hold
set_option maxRecDepth 100000

def exts : List (List UInt8) := [[], [], [59, 97, 61, 98], [59], [59, 32, 120, 9]]
def lasts : List (List UInt8) := [[48], [48, 48, 48], [48, 59, 108, 97, 115, 116]]
def trls : List (List UInt8) := [[], [], [65, 58, 32, 98, 13, 10], [65, 58, 32, 98, 13, 10, 67, 58, 100, 13, 10]]
def lineW (e d : List UInt8) : List UInt8 := printF 16 (d.length : Int) ++ e ++ [13, 10] ++ d ++ [13, 10]
def wireStep (l : List Int) (i : Nat) (o : List UInt8) : Nat × List UInt8 :=
  if (bytesF l i 20).1 = [] then ((bytesF l i 20).2, o) else (nxt l (bytesF l i 20).2, o ++ lineW (ofF l (bytesF l i 20).2 exts) (bytesF l i 20).1)
def wireLoop (l : List Int) : Nat → Nat → List UInt8 → Nat × List UInt8
  | 0, i, o => (i, o)
  | k + 1, i, o => if i < l.length ∧ o.length < 400 then wireLoop l k (wireStep l i o).1 (wireStep l i o).2 else (i, o)
def wireF (l : List Int) : List UInt8 :=
  let x := wireLoop l l.length 0 []
  x.2 ++ ofF l x.1 lasts ++ [13, 10] ++ ofF l (nxt l x.1) trls ++ [13, 10]
def wireB (l : List Int) (n : Int) (x : UInt8) : List UInt8 :=
  if bitsOp .and .i64 n 1 = 1 then (wireF l).set (wiV (n.fdiv 2) ((wireF l).length : Int)) x else wireF l

theorem bytes_len (l : List Int) (i : Nat) (most : Int) (h : 0 ≤ most) : ((bytesF l i most).1.length : Int) ≤ most := by
  have hr := nxV_lt l i (most + 1) (by omega)
  unfold bytesF
  rw [byW_len]
  simp; omega
theorem bytes_le (l : List Int) (i : Nat) (most : Int) (h : i ≤ l.length) : nxt l i ≤ (bytesF l i most).2 ∧ (bytesF l i most).2 ≤ l.length := byW_le l _ _ _ (nxt_le' h).2
theorem digs_small (n : Nat) (h : n ≤ 20) : (printF 16 (n : Int)).length ≤ 2 := by
  unfold printF
  rw [if_neg (by omega), Int.toNat_natCast]
  by_cases h1 : n < 16
  · rw [digs_one h1]; simp
  · rw [digs_more (by decide) h1, digs_one (show n / 16 < 16 by omega)]; simp
theorem ofF_ext (l : List Int) (i : Nat) : (ofF l i exts).length ≤ 4 := by
  have : ∀ x, x ∈ exts → x.length ≤ 4 := by decide
  exact this _ (ofF_mem l i exts (by decide))
theorem wireStep_ok (l : List Int) (i : Nat) (o : List UInt8) (h : i < l.length) (ho : o.length < 400) : i < (wireStep l i o).1 ∧ (wireStep l i o).1 ≤ l.length ∧ (wireStep l i o).2.length ≤ 430 := by
  have h1 := bytes_le l i 20 (by omega)
  have h2 := bytes_len l i 20 (by omega)
  have h3 := nxt_le' h1.2
  have h4 : nxt l i = i + 1 := by unfold nxt; rw [if_pos h]
  have h5 := digs_small (bytesF l i 20).1.length (by omega)
  have h6 := ofF_ext l (bytesF l i 20).2
  unfold wireStep
  split
  · simp only; omega
  · simp only [lineW, List.length_append, List.length_cons, List.length_nil]; omega

theorem wireLoop_ok (l : List Int) : ∀ (k i : Nat) (o : List UInt8), i ≤ l.length → o.length ≤ 430 → (wireLoop l k i o).1 ≤ l.length ∧ (wireLoop l k i o).2.length ≤ 430
  | 0, _, _, h1, h2 => ⟨h1, h2⟩
  | k + 1, i, o, h1, h2 => by
    unfold wireLoop
    split
    · rename_i h
      have := wireStep_ok l i o h.1 h.2
      exact wireLoop_ok l k _ _ this.2.1 this.2.2
    · exact ⟨h1, h2⟩

theorem wire23 (m l : List Int) (hm : l = m.take 80) (n : Int) (x : UInt8) (hn : I64 n) : DoesH (CG G) 23 [.d (ints m), .d (.i .i64 n), .d (.i .u8 (x.toNat : Int))] [] [.os 16] [(16, some (.buf 1 (encB (wireB l n x))))] := by
  have h0 := cut51 (G := G) m 80
  have hl : l.length ≤ 80 := by rw [hm]; simp; omega
  rw [← hm] at h0
  generalize hfin : wireLoop l l.length 0 [] = fin
  refine DoesH.mk (n := 77) Tryd.func23 rfl rfl rfl (Nat.le_of_ble_eq_true rfl) rfl ?_
  repeat refine seq_on ?_
  refine call_by h0 ?_
  apply seq_inv (fun _ : Unit => True) (fun _ => ⟨[(1, .d (.i .i64 n)), (2, .d (.i .u8 (x.toNat : Int))), (7, .op 16 0 0), (8, .os 17)], [(16, some (.box [.d (ints l), .d (.i .i64 (fin.1 : Int))])), (17, some (.buf 1 (encB fin.2)))], 2⟩)
  · repeat refine seq_on ?_
    apply loop_inv (fun y : Nat × List UInt8 => y.1 ≤ l.length ∧ y.2.length ≤ 430 ∧ ∃ k, l.length ≤ k + y.1 ∧ wireLoop l k y.1 y.2 = fin) (fun y => ⟨[(1, .d (.i .i64 n)), (2, .d (.i .u8 (x.toNat : Int))), (7, .op 16 0 0), (8, .os 17)], [(16, some (.box [.d (ints l), .d (.i .i64 (y.1 : Int))])), (17, some (.buf 1 (encB y.2)))], 2⟩) (fun y => l.length - y.1) (0, []) ⟨Nat.zero_le _, by simp, l.length, by simp, hfin⟩ [(16, _), (17, _)]
    · ((repeat' constructor) <;> refine hold ?_ <;> first | with_reducible rfl | (congr 1 <;> omega) | (congr 1 <;> simp; done) | (simp; done) | exact encB_snoc _ _ | skip)
    · rintro ⟨i, o⟩ ⟨h1, h2, k, h3, h4⟩
      simp only at h1 h2 h3 h4
      have hlf := left66 (G := G) l i
      repeat refine seq_on ?_
      by_cases hi : i < l.length
      · rw [decide_eq_true (by omega)] at hlf
        refine callh [(0, 16)] hlf ?_ ?_
        · ((repeat' constructor) <;> refine hold ?_ <;> first | with_reducible rfl | (congr 1 <;> omega) | (congr 1 <;> simp; done) | (simp; done) | exact encB_snoc _ _ | skip)
        refine cmp_dec (fun ho => ?_) (fun ho => ?_)
        · simp only [encB_len] at ho
          have ho : o.length < 400 := by omega
          obtain ⟨k, rfl⟩ : ∃ q, k = q + 1 := ⟨k - 1, by omega⟩
          have hok := wireStep_ok l i o hi ho
          have hfn : wireLoop l k (wireStep l i o).1 (wireStep l i o).2 = fin := by rw [← h4, wireLoop, if_pos ⟨hi, ho⟩]
          have hB := bytesV (G := G) l i 20 h1 (by omega) (by decide)
          have hbl := bytes_len l i 20 (by decide)
          have hbe := bytes_le l i 20 h1
          unfold wireStep at hok hfn
          generalize hb : bytesF l i 20 = b at hB hbl hbe hok hfn
          obtain ⟨b, j⟩ := b
          simp only at hB hbl hbe hok hfn
          repeat refine seq_on ?_
          refine callh [(0, 16)] hB ?_ ?_
          · simp only [srcB]
            ((repeat' constructor) <;> refine hold ?_ <;> first | with_reducible rfl | (congr 1 <;> omega) | (congr 1 <;> simp; done) | (simp; done) | exact encB_snoc _ _ | skip)
          apply seq_inv (fun _ : Unit => b ≠ []) (fun _ => ⟨[(1, .d (.i .i64 n)), (2, .d (.i .u8 (x.toNat : Int))), (7, .op 16 0 0), (8, .os 17), (9, .d (.sl 1 (encB b)))], [(16, some (.box [.d (ints l), .d (.i .i64 (j : Int))])), (17, some (.buf 1 (encB o)))], 2⟩)
          · refine cmp_dec (fun hb0 => ?_) (fun hb0 => ?_)
            · have hb0 : b = [] := by
                cases b with
                | nil => rfl
                | cons y r => simp [encB] at hb0; omega
              rw [if_pos hb0] at hok hfn
              repeat refine seq_on ?_
              apply again (j, o) [(16, _), (17, _)] ⟨by simp only; omega, by simp only; omega, k, by simp only at hok ⊢; omega, hfn⟩ (by simp only at hok ⊢; omega)
              ((repeat' constructor) <;> refine hold ?_ <;> first | with_reducible rfl | (congr 1 <;> omega) | (congr 1 <;> simp; done) | (simp; done) | exact encB_snoc _ _ | skip)
            · repeat refine seq_on ?_
              apply cut_inv () [(16, _), (17, _)] (fun e => hb0 (by subst e; rfl))
              ((repeat' constructor) <;> refine hold ?_ <;> first | with_reducible rfl | (congr 1 <;> omega) | (congr 1 <;> simp; done) | (simp; done) | exact encB_snoc _ _ | skip)
          · rintro ⟨⟩ hb0
            rw [if_neg hb0] at hok hfn
            simp only at hok hfn
            have hj := nxt_le' hbe.2
            have hds := digs_small b.length (by omega)
            have hext := ofF_ext l j
            have hO := ofV (G := G) l j exts hbe.2 (by omega) (by decide)
            have hencl : encF [b] = printF 16 (b.length : Int) ++ [13, 10] ++ b ++ [13, 10] ++ [48, 13, 10, 13, 10] := by simp [encF, encChunk, hb0]
            have hE := encR (G := G) [b] (by rw [hencl]; simp only [List.length_append, List.length_cons, List.length_nil]; omega) (by simp)
            have hel : (encF [b]).length = (printF 16 (b.length : Int)).length + b.length + 9 := by rw [hencl]; simp only [List.length_append, List.length_cons, List.length_nil]; omega
            have hcutE : (encB (encF [b])).take (printF 16 (b.length : Int)).length = encB (printF 16 (b.length : Int)) := by
              rw [encB_take, hencl]
              simp [List.append_assoc]
            repeat refine seq_on ?_
            refine call_by hE ?_
            have hee := encB_len (encF [b])
            have hbb := encB_len b
            refine ar ⟨by omega, by omega⟩ ?_
            refine ar ⟨by omega, by omega⟩ ?_
            refine ar ⟨by omega, by omega⟩ ?_
            refine bnd (printF 16 (b.length : Int)).length (by omega) (by omega) ?_
            rw [hcutE]
            refine app_ok (by simp only [encB_len]; omega) ?_
            repeat refine seq_on ?_
            refine callh [(0, 16)] hO ?_ ?_
            · simp only [srcB]
              ((repeat' constructor) <;> refine hold ?_ <;> first | with_reducible rfl | (congr 1 <;> omega) | (congr 1 <;> simp; done) | (simp; done) | exact encB_snoc _ _ | skip)
            refine app_ok (by simp only [encB_len, List.length_append]; omega) ?_
            repeat refine seq_on ?_
            refine app_ok (by simp only [encB_len, List.length_append, List.length_cons, List.length_nil]; omega) ?_
            refine app_ok (by simp only [encB_len, List.length_append, List.length_cons, List.length_nil]; omega) ?_
            refine app_ok (by simp only [encB_len, List.length_append, List.length_cons, List.length_nil]; omega) ?_
            repeat refine seq_on ?_
            apply again (nxt l j, o ++ lineW (ofF l j exts) b) [(16, _), (17, _)] ⟨by simp only; omega, by simp only; omega, k, by simp only at hok ⊢; omega, hfn⟩ (by simp only at hok ⊢; omega)
            ((repeat' constructor) <;> refine hold ?_ <;> first | with_reducible rfl | (congr 1 <;> omega) | (congr 1 <;> simp; done) | (simp; done) | exact encB_snoc _ _ | skip)
            simp only [lineW, encB_app, List.append_assoc]
            try rfl
        · simp only [encB_len] at ho
          have hff : (i, o) = fin := by
            rw [← h4]
            cases k with
            | zero => rfl
            | succ k => rw [wireLoop, if_neg (by omega)]
          subst hff
          repeat refine seq_on ?_
          apply cut_inv () [(16, _), (17, _)] trivial
          ((repeat' constructor) <;> refine hold ?_ <;> first | with_reducible rfl | (congr 1 <;> omega) | (congr 1 <;> simp; done) | (simp; done) | exact encB_snoc _ _ | skip)
      · have hff : (i, o) = fin := by
          rw [← h4]
          cases k with
          | zero => rfl
          | succ k => rw [wireLoop, if_neg (by omega)]
        subst hff
        rw [decide_eq_false (by omega)] at hlf
        refine callh [(0, 16)] hlf ?_ ?_
        · ((repeat' constructor) <;> refine hold ?_ <;> first | with_reducible rfl | (congr 1 <;> omega) | (congr 1 <;> simp; done) | (simp; done) | exact encB_snoc _ _ | skip)
        repeat refine seq_on ?_
        apply cut_inv () [(16, _), (17, _)] trivial
        ((repeat' constructor) <;> refine hold ?_ <;> first | with_reducible rfl | (congr 1 <;> omega) | (congr 1 <;> simp; done) | (simp; done) | exact encB_snoc _ _ | skip)
  · rintro ⟨⟩ -
    have hfl : fin.1 ≤ l.length ∧ fin.2.length ≤ 430 := by rw [← hfin]; exact wireLoop_ok l _ 0 [] (Nat.zero_le _) (by simp)
    have hj := nxt_le' hfl.1
    have hO := ofV (G := G) l fin.1 lasts hfl.1 (by omega) (by decide)
    have hO' := ofV (G := G) l (nxt l fin.1) trls hj.2 (by omega) (by decide)
    have hx1 : (ofF l fin.1 lasts).length ≤ 6 := by
      have : ∀ x, x ∈ lasts → x.length ≤ 6 := by decide
      exact this _ (ofF_mem l fin.1 lasts (by decide))
    have hx2 : (ofF l (nxt l fin.1) trls).length ≤ 11 := by
      have : ∀ x, x ∈ trls → x.length ≤ 11 := by decide
      exact this _ (ofF_mem l (nxt l fin.1) trls (by decide))
    repeat refine seq_on ?_
    refine callh [(0, 16)] hO ?_ ?_
    · simp only [srcB]
      ((repeat' constructor) <;> refine hold ?_ <;> first | with_reducible rfl | (congr 1 <;> omega) | (congr 1 <;> simp; done) | (simp; done) | exact encB_snoc _ _ | skip)
    refine app_ok (by simp only [encB_len, List.length_append]; omega) ?_
    repeat refine seq_on ?_
    refine app_ok (by simp only [encB_len, List.length_append, List.length_cons, List.length_nil]; omega) ?_
    repeat refine seq_on ?_
    refine callh [(0, 16)] hO' ?_ ?_
    · simp only [srcB]
      ((repeat' constructor) <;> refine hold ?_ <;> first | with_reducible rfl | (congr 1 <;> omega) | (congr 1 <;> simp; done) | (simp; done) | exact encB_snoc _ _ | skip)
    refine app_ok (by simp only [encB_len, List.length_append, List.length_cons, List.length_nil]; omega) ?_
    repeat refine seq_on ?_
    refine app_ok (by simp only [encB_len, List.length_append, List.length_cons, List.length_nil]; omega) ?_
    repeat refine seq_on ?_
    have hwf : wireF l = fin.2 ++ ofF l fin.1 lasts ++ [13, 10] ++ ofF l (nxt l fin.1) trls ++ [13, 10] := by unfold wireF; rw [hfin]
    have hwl : (wireF l).length ≤ 451 ∧ 2 ≤ (wireF l).length := by rw [hwf]; simp only [List.length_append, List.length_cons, List.length_nil]; omega
    have hwe : encB fin.2 ++ encB (ofF l fin.1 lasts) ++ encB [13, 10] ++ encB (ofF l (nxt l fin.1) trls) ++ encB [13, 10] = encB (wireF l) := by rw [hwf]; simp only [encB_app]
    refine cmp_dec (fun hb => ?_) (fun hb => ?_)
    · have hw := withinV (G := G) (n.fdiv 2) ((encB (wireF l)).length : Int) (by rw [encB_len]; omega)
      have hwlt := wiV_lt (n.fdiv 2) ((encB (wireF l)).length : Int) (by rw [encB_len]; omega)
      have hwb : wireB l n x = (wireF l).set (wiV (n.fdiv 2) ((wireF l).length : Int)) x := by unfold wireB; rw [if_pos hb]
      repeat refine seq_on ?_
      refine And.intro (by decide) ?_
      rw [← hwe] at hw
      refine call_by hw ?_
      refine idx _ rfl (by rw [← hwe] at hwlt; exact Int.ofNat_lt.1 hwlt) ?_
      refine set_is (get_d (.i .u8 0) (by rw [← hwe] at hwlt; exact Int.ofNat_lt.1 hwlt)) ?_
      repeat refine seq_on ?_
      have e : encB ((wireF l).set (wiV (n.fdiv 2) ((wireF l).length : Int)) x) = (encB (wireF l)).set (wiV (n.fdiv 2) ((encB (wireF l)).length : Int)) (.i .u8 (x.toNat : Int)) := by
        rw [encB_len]; simp [encB, List.map_set]
      rw [hwb, e, ← hwe]
      apply end_ok [(16, _)]
      ((repeat' constructor) <;> refine hold ?_ <;> first | with_reducible rfl | (congr 1 <;> omega) | (congr 1 <;> simp; done) | (simp; done) | exact encB_snoc _ _ | skip)
    · have hwb : wireB l n x = wireF l := by unfold wireB; rw [if_neg hb]
      repeat refine seq_on ?_
      rw [hwb, ← hwe]
      apply end_ok [(16, _)]
      ((repeat' constructor) <;> refine hold ?_ <;> first | with_reducible rfl | (congr 1 <;> omega) | (congr 1 <;> simp; done) | (simp; done) | exact encB_snoc _ _ | skip)

theorem wireF_len (l : List Int) : (wireF l).length ≤ 451 := by
  have h := wireLoop_ok l l.length 0 [] (Nat.zero_le _) (by simp)
  have hx1 : (ofF l (wireLoop l l.length 0 []).1 lasts).length ≤ 6 := by
    have : ∀ x, x ∈ lasts → x.length ≤ 6 := by decide
    exact this _ (ofF_mem l _ lasts (by decide))
  have hx2 : (ofF l (nxt l (wireLoop l l.length 0 []).1) trls).length ≤ 11 := by
    have : ∀ x, x ∈ trls → x.length ≤ 11 := by decide
    exact this _ (ofF_mem l _ trls (by decide))
  unfold wireF
  simp only [List.length_append, List.length_cons, List.length_nil]; omega
theorem wireB_len (l : List Int) (n : Int) (x : UInt8) : (wireB l n x).length ≤ 451 := by
  have := wireF_len l
  unfold wireB
  split
  · rw [List.length_set]; exact this
  · exact this
/-- The program cuts its source at 80 numbers. -/
theorem wireC (l : List Int) (n : Int) (x : UInt8) (hn : I64 n) : DoesH (CG G) 23 [.d (ints l), .d (.i .i64 n), .d (.i .u8 (x.toNat : Int))] [] [.os 16] [(16, some (.buf 1 (encB (wireB (l.take 80) n x))))] := wire23 l _ rfl n x hn
end Go.Proofs.YtiokdhklhnhfhaaDoor

namespace Go.Proofs.YtiokdhklhnhfhaaDoor
open Go.Eng

noncomputable def feedU : Chk → List UInt8 → List UInt8 → Nat → FeedR
  | c, out, [], i => ⟨c, out, i, 0⟩
  | c, out, x :: r, i => if c.ph = 4 then ⟨c, out, i, 0⟩
    else if c.ph = 1 then feedU (dataC c) (out ++ [x]) r (i + 1)
    else if (stepC c x).2 ≠ 0 then ⟨.zero, [], 0, (stepC c x).2⟩ else feedU (stepC c x).1 out r (i + 1)

theorem feedG_U (room : Int) : ∀ (b : List UInt8) (c : Chk) (out : List UInt8) (i : Nat), out.length ≤ i → ((i + b.length : Nat) : Int) ≤ room → feedG room c out b i = feedU c out b i
  | [], _, _, _, _, _ => rfl
  | x :: r, c, out, i, h1, h2 => by
    simp only [List.length_cons] at h2
    unfold feedG feedU
    by_cases h4 : c.ph = 4
    · rw [if_pos (.inl h4), if_pos h4]
    · rw [if_neg (by rintro (h | ⟨_, h⟩); exact h4 h; omega), if_neg h4]
      by_cases h5 : c.ph = 1
      · rw [if_pos h5, if_pos h5]
        exact feedG_U room r _ _ _ (by simp; omega) (by omega)
      · rw [if_neg h5, if_neg h5]
        split
        · rfl
        · exact feedG_U room r _ _ _ (by omega) (by omega)

def bumpN (c : Chk) (n : Nat) (ln : List UInt8) : Chk := ⟨c.ph, c.lf, if c.ph = 3 then c.tr + (n : Int) else c.tr, ln⟩
theorem bumpC_eq (c : Chk) (ln : List UInt8) : { bumpC c with ln := ln } = bumpN c 1 ln := by
  unfold bumpC bumpN; split <;> rfl
theorem bumpN_N (c : Chk) (n m : Nat) (l k : List UInt8) : bumpN (bumpN c n l) m k = bumpN c (n + m) k := by
  unfold bumpN
  simp only
  split
  · simp only [Chk.mk.injEq, true_and, and_true]; omega
  · rfl
theorem step_char {c : Chk} {x : UInt8} (h : ¬ (c.ph = 3 ∧ 1024 < c.tr + 1)) (hl : c.ln.getLast? ≠ some 13) (h10 : x ≠ 10) (hn : x = 13 ∨ c.ln.length + 1 ≤ 128) : stepC c x = (bumpN c 1 (c.ln ++ [x]), 0) := by
  unfold stepC
  rw [if_neg h, if_neg hl, if_neg h10, if_neg (by rintro ⟨h1, h2⟩; rcases hn with h | h; exact h2 h; omega), bumpC_eq]
theorem step_end {c : Chk} {p : List UInt8} (h : ¬ (c.ph = 3 ∧ 1024 < c.tr + 1)) (hl : c.ln = p ++ [13]) : stepC c 10 = lineC (bumpN c 1 []) p := by
  unfold stepC
  rw [if_neg h, if_pos (by rw [hl]; simp), if_pos rfl, bumpC_eq, hl]; simp
theorem last_ne {l : List UInt8} (h : ∀ x, x ∈ l → x ≠ 13) : l.getLast? ≠ some 13 := fun e => h 13 (List.mem_of_getLast? e) rfl

theorem feedU_line (out rest : List UInt8) : ∀ (l : List UInt8) (c : Chk) (i : Nat), c.ph ≠ 1 → c.ph ≠ 4 → (∀ x, x ∈ c.ln → x ≠ 13 ∧ x ≠ 10) → (∀ x, x ∈ l → x ≠ 13 ∧ x ≠ 10) → c.ln.length + l.length ≤ 128 → (c.ph = 3 → c.tr + l.length + 2 ≤ 1024) →
    feedU c out (l ++ 13 :: 10 :: rest) i = if (lineC (bumpN c (l.length + 2) []) (c.ln ++ l)).2 ≠ 0 then ⟨.zero, [], 0, (lineC (bumpN c (l.length + 2) []) (c.ln ++ l)).2⟩ else feedU (lineC (bumpN c (l.length + 2) []) (c.ln ++ l)).1 out rest (i + l.length + 2)
  | [], c, i, h1, h4, hp, _, hl, ht => by
    have hs := step_char (c := c) (x := 13) (by rintro ⟨h, h'⟩; have := ht h; simp at this; omega) (last_ne fun x hx => (hp x hx).1) (by decide) (.inl rfl)
    have hs2 := step_end (c := bumpN c 1 (c.ln ++ [13])) (p := c.ln) (by
      rintro ⟨h, h'⟩
      have h : c.ph = 3 := h
      have := ht h
      simp only [bumpN, if_pos h] at h'
      simp at this; omega) rfl
    rw [bumpN_N] at hs2
    have e1 : feedU c out ([] ++ 13 :: 10 :: rest) i = feedU (bumpN c 1 (c.ln ++ [13])) out (10 :: rest) (i + 1) := by
      rw [List.nil_append, feedU, if_neg h4, if_neg h1, hs]
      simp only [ne_eq, not_true, if_false]
    rw [e1, feedU, if_neg (show ¬ (bumpN c 1 (c.ln ++ [13])).ph = 4 from h4), if_neg (show ¬ (bumpN c 1 (c.ln ++ [13])).ph = 1 from h1), hs2]
    simp only [List.length_nil, List.append_nil, Nat.zero_add, Nat.add_zero]
  | x :: l, c, i, h1, h4, hp, hq, hl, ht => by
    have hx := hq x (by simp)
    simp only [List.length_cons] at hl ht ⊢
    have hs := step_char (c := c) (x := x) (by rintro ⟨h, h'⟩; have := ht h; omega) (last_ne fun x hx => (hp x hx).1) hx.2 (.inr (by omega))
    have e1 : feedU c out (x :: l ++ 13 :: 10 :: rest) i = feedU (bumpN c 1 (c.ln ++ [x])) out (l ++ 13 :: 10 :: rest) (i + 1) := by
      rw [List.cons_append, feedU, if_neg h4, if_neg h1, hs]
      simp only [ne_eq, not_true, if_false]
    rw [e1, feedU_line out rest l (bumpN c 1 (c.ln ++ [x])) (i + 1) h1 h4 (fun y hy => by
      rcases List.mem_append.1 hy with hy | hy
      · exact hp y hy
      · simp at hy; rw [hy]; exact hx) (fun y hy => hq y (by simp [hy])) (by simp [bumpN]; omega) (fun h => by
        have h : c.ph = 3 := h
        have := ht h
        simp only [bumpN, if_pos h]; omega)]
    rw [bumpN_N]
    have e2 : 1 + (l.length + 2) = l.length + 1 + 2 := by omega
    have e3 : (bumpN c 1 (c.ln ++ [x])).ln ++ l = c.ln ++ x :: l := by simp [bumpN]
    rw [e2, e3, show i + 1 + l.length + 2 = i + (l.length + 1) + 2 by omega]

/-- A block of data. -/
theorem feedU_data (rest : List UInt8) : ∀ (d : List UInt8) (c : Chk) (out : List UInt8) (i : Nat), c.ph = 1 → d ≠ [] → (d.length : Int) = c.lf → feedU c out (d ++ rest) i = feedU ⟨2, 0, c.tr, c.ln⟩ (out ++ d) rest (i + d.length)
  | [], _, _, _, _, h, _ => absurd rfl h
  | [x], c, out, i, h1, _, hl => by
    have : dataC c = ⟨2, 0, c.tr, c.ln⟩ := by
      unfold dataC
      have h0 : c.lf - 1 = 0 := by simp at hl; omega
      rw [if_pos h0, h0]
    rw [List.singleton_append, feedU, if_neg (by omega), if_pos h1, this]; rfl
  | x :: y :: d, c, out, i, h1, _, hl => by
    simp only [List.length_cons] at hl
    have hd : dataC c = ⟨c.ph, c.lf - 1, c.tr, c.ln⟩ := by
      unfold dataC
      rw [if_neg (by omega)]
    rw [List.cons_append, feedU, if_neg (by omega), if_pos h1, hd, feedU_data rest (y :: d) ⟨c.ph, c.lf - 1, c.tr, c.ln⟩ _ _ h1 (by simp) (by simp only [List.length_cons]; omega)]
    simp only [List.append_assoc, List.singleton_append, List.length_cons]
    rw [show i + 1 + (d.length + 1) = i + (d.length + 1 + 1) by omega]

theorem digs_plain (u : Nat) : ∀ x, x ∈ digs 16 u → x ≠ 59 ∧ x ≠ 13 ∧ x ≠ 10 := by
  have hex : ∀ r : Fin 16, hexd r.val ≠ 59 ∧ hexd r.val ≠ 13 ∧ hexd r.val ≠ 10 := by decide
  induction u using Nat.strongRecOn with
  | _ u ih =>
    intro x hx
    by_cases h : u < 16
    · rw [digs_one h] at hx
      simp at hx; subst hx; exact hex ⟨u, h⟩
    · rw [digs_more (by decide) h] at hx
      rcases List.mem_append.1 hx with hx | hx
      · exact ih (u / 16) (by omega) x hx
      · simp at hx; subst hx; exact hex ⟨u % 16, by omega⟩

def ExtK (e : List UInt8) : Prop := (e = [] ∨ ∃ r, e = 59 :: r ∧ visF r = true) ∧ ∀ x, x ∈ e → x ≠ 13 ∧ x ≠ 10
theorem cut_ext {u e : List UInt8} (h : ∀ x, x ∈ u → x ≠ (59 : UInt8)) (he : ExtK e) : (cutF 59 (u ++ e)).1 = u ∧ visF (cutF 59 (u ++ e)).2.1 = true := by
  rcases he.1 with rfl | ⟨r, rfl, hr⟩
  · have : idxO 59 (u ++ []) = none := idxO_mem.2 (by rw [List.append_nil]; exact fun hm => h 59 hm rfl)
    unfold cutF
    rw [this]
    exact ⟨List.append_nil u, rfl⟩
  · have : idxO 59 (u ++ 59 :: r) = some u.length := idxO_at (by simp) (by simp; exact fun hm => h 59 hm rfl)
    unfold cutF
    rw [this]
    simp [hr]

theorem size_line {u : Nat} {e : List UInt8} (hu : u ≤ 1000000000) (he : ExtK e) : lineC .zero (digs 16 u ++ e) = if u = 0 then (⟨3, 0, 0, []⟩, 0) else (⟨1, u, 0, []⟩, 0) := by
  obtain ⟨h1, h2⟩ := cut_ext (fun x hx => (digs_plain u x hx).1) he
  have hp := parse_digs 16 (by decide) 1000000000 (by decide) u
  rw [if_pos (by omega)] at hp
  have hp : parseF 16 1000000000 (digs 16 u) = ((u : Int), 0) := hp
  unfold lineC
  rw [if_pos (show Chk.zero.ph = 0 from rfl)]
  unfold sizedF
  rw [h1, h2, hp]
  simp only [Chk.zero]
  by_cases h0 : u = 0
  · subst h0; simp
  · rw [if_neg (by simp), if_neg (by simp), if_neg (by show ¬ ((u : Int) = 0); omega), if_neg h0]

theorem lineW_eq (e d : List UInt8) (rest : List UInt8) : lineW e d ++ rest = (digs 16 d.length ++ e) ++ 13 :: 10 :: (d ++ ([] ++ 13 :: 10 :: rest)) := by
  have : printF 16 (d.length : Int) = digs 16 d.length := by unfold printF; rw [if_neg (by omega), Int.toNat_natCast]
  unfold lineW
  rw [this]
  simp

theorem feedU_chunk (e d out rest : List UInt8) (i : Nat) (hd : d ≠ []) (hdl : d.length ≤ 1000000000) (he : ExtK e) (hl : (digs 16 d.length).length + e.length ≤ 128) :
    feedU .zero out (lineW e d ++ rest) i = feedU .zero (out ++ d) rest (i + (lineW e d).length) := by
  have hd0 : d.length ≠ 0 := fun h => hd (List.eq_nil_of_length_eq_zero h)
  have hlen : (lineW e d).length = (digs 16 d.length).length + e.length + d.length + 4 := by
    have := congrArg List.length (lineW_eq e d [])
    simp only [List.append_nil, List.length_append, List.length_cons, List.length_nil] at this
    omega
  rw [lineW_eq, feedU_line out _ _ .zero i (by decide) (by decide) (by intro x hx; cases hx) (fun x hx => by
    rcases List.mem_append.1 hx with hx | hx
    · exact (digs_plain _ x hx).2
    · exact he.2 x hx) (by simp [Chk.zero]; omega) (fun h => absurd h (by decide))]
  rw [show bumpN .zero ((digs 16 d.length ++ e).length + 2) [] = .zero from rfl, show Chk.zero.ln ++ (digs 16 d.length ++ e) = digs 16 d.length ++ e from rfl, size_line hdl he, if_neg hd0]
  simp only [ne_eq, not_true, if_false]
  rw [feedU_data _ d _ _ _ rfl hd rfl, feedU_line (out ++ d) rest [] ⟨2, 0, 0, []⟩ _ (by decide) (by decide) (by intro x hx; cases hx) (by intro x hx; cases hx) (by simp) (fun h => absurd h (by decide))]
  have : lineC (bumpN ⟨2, 0, 0, []⟩ (([] : List UInt8).length + 2) []) ((⟨2, 0, 0, []⟩ : Chk).ln ++ []) = (.zero, 0) := by
    unfold lineC bumpN; simp [Chk.zero]
  rw [this]
  simp only [ne_eq, not_true, if_false]
  rw [hlen]
  congr 1
  simp only [List.length_append, List.length_nil]; omega

/-- Trailer lines and the end. -/
def trLines (ts : List (List UInt8)) : List UInt8 := (ts.map (· ++ [13, 10])).flatten
theorem trLines_cons (t : List UInt8) (ts : List (List UInt8)) : trLines (t :: ts) = t ++ [13, 10] ++ trLines ts := by simp [trLines]
theorem feedU_trail (out rest : List UInt8) : ∀ (ts : List (List UInt8)) (tr : Int) (i : Nat), (∀ t, t ∈ ts → t ≠ [] ∧ t.length ≤ 128 ∧ (∀ x, x ∈ t → x ≠ 13 ∧ x ≠ 10) ∧ (fparseF t).2 = 0) → tr + ((trLines ts).length : Int) + 2 ≤ 1024 →
    feedU ⟨3, 0, tr, []⟩ out (trLines ts ++ 13 :: 10 :: rest) i = ⟨⟨4, 0, tr + ((trLines ts).length : Int) + 2, []⟩, out, i + (trLines ts).length + 2, 0⟩
  | [], tr, i, _, h => by
    have hz : (trLines []).length = 0 := rfl
    rw [hz] at h ⊢
    have := feedU_line out rest [] ⟨3, 0, tr, []⟩ i (by show ¬ (3 : Int) = 1; decide) (by show ¬ (3 : Int) = 4; decide) (by intro x hx; cases hx) (by intro x hx; cases hx) (by simp) (fun _ => by simp; simp at h; omega)
    rw [show trLines [] ++ 13 :: 10 :: rest = [] ++ 13 :: 10 :: rest from rfl, this]
    have hl : lineC (bumpN ⟨3, 0, tr, []⟩ (([] : List UInt8).length + 2) []) ((⟨3, 0, tr, []⟩ : Chk).ln ++ []) = (⟨4, 0, tr + 2, []⟩, 0) := by
      unfold lineC bumpN; simp
    rw [hl]
    simp only [ne_eq, not_true, if_false]
    cases rest with
    | nil => simp [feedU]
    | cons x r => simp [feedU]
  | t :: ts, tr, i, ht, h => by
    obtain ⟨h1, h2, h3, h4⟩ := ht t (by simp)
    have hz : (trLines (t :: ts)).length = t.length + 2 + (trLines ts).length := by rw [trLines_cons]; simp only [List.length_append, List.length_cons, List.length_nil]
    rw [hz] at h ⊢
    have he : trLines (t :: ts) ++ 13 :: 10 :: rest = t ++ 13 :: 10 :: (trLines ts ++ 13 :: 10 :: rest) := by simp [trLines]
    have := feedU_line out (trLines ts ++ 13 :: 10 :: rest) t ⟨3, 0, tr, []⟩ i (by show ¬ (3 : Int) = 1; decide) (by show ¬ (3 : Int) = 4; decide) (by intro x hx; cases hx) h3 (by simpa using h2) (fun _ => by simp only; omega)
    rw [he, this]
    have hl : lineC (bumpN ⟨3, 0, tr, []⟩ (t.length + 2) []) ((⟨3, 0, tr, []⟩ : Chk).ln ++ t) = (⟨3, 0, tr + (t.length + 2 : Nat), []⟩, 0) := by
      unfold lineC bumpN
      simp [h1, h4]
    rw [hl]
    simp only [ne_eq, not_true, if_false]
    rw [feedU_trail out rest ts _ _ (fun t ht' => ht t (by simp [ht'])) (by omega)]
    simp only [FeedR.mk.injEq, Chk.mk.injEq, true_and, and_true]
    omega

theorem size_zero {w e : List UInt8} (hw : w = [48] ∨ w = [48, 48, 48]) (he : ExtK e) : lineC .zero (w ++ e) = (⟨3, 0, 0, []⟩, 0) := by
  have hd0 : digs 16 0 = [48] := by rw [digs_one (by decide)]; rfl
  rcases hw with rfl | rfl
  · have := size_line (u := 0) (by decide) he
    rw [hd0, if_pos rfl] at this
    exact this
  · obtain ⟨h1, h2⟩ := cut_ext (u := [48, 48, 48]) (by decide) he
    have hp := parse_zeros 16 (by decide) 1000000000 (by decide) 0
    rw [hd0, if_pos (by decide)] at hp
    have hp : parseF 16 1000000000 [48, 48, 48] = (0, 0) := hp
    unfold lineC
    rw [if_pos (show Chk.zero.ph = 0 from rfl)]
    unfold sizedF
    rw [h1, h2, hp]
    simp [Chk.zero]

theorem feedU_last (w e out rest : List UInt8) (ts : List (List UInt8)) (i : Nat) (hw : w = [48] ∨ w = [48, 48, 48]) (he : ExtK e) (hl : e.length ≤ 120) (ht : ∀ t, t ∈ ts → t ≠ [] ∧ t.length ≤ 128 ∧ (∀ x, x ∈ t → x ≠ 13 ∧ x ≠ 10) ∧ (fparseF t).2 = 0) (htl : ((trLines ts).length : Int) + 2 ≤ 1024) :
    feedU .zero out ((w ++ e) ++ 13 :: 10 :: (trLines ts ++ 13 :: 10 :: rest)) i = ⟨⟨4, 0, ((trLines ts).length : Int) + 2, []⟩, out, i + w.length + e.length + 2 + (trLines ts).length + 2, 0⟩ := by
  have hwl : w.length ≤ 3 := by rcases hw with rfl | rfl <;> decide
  have hwp : ∀ x, x ∈ w → x ≠ 13 ∧ x ≠ 10 := by rcases hw with rfl | rfl <;> decide
  rw [feedU_line out _ (w ++ e) .zero i (by decide) (by decide) (by intro x hx; cases hx) (fun x hx => by
    rcases List.mem_append.1 hx with hx | hx
    · exact hwp x hx
    · exact he.2 x hx) (by simp [Chk.zero]; omega) (fun h => absurd h (by decide))]
  rw [show bumpN .zero ((w ++ e).length + 2) [] = .zero from rfl, show Chk.zero.ln ++ (w ++ e) = w ++ e from rfl, size_zero hw he]
  simp only [ne_eq, not_true, if_false]
  rw [feedU_trail out rest ts 0 _ ht (by omega)]
  simp only [FeedR.mk.injEq, Chk.mk.injEq, true_and, and_true, List.length_append]
  omega

/-- What the decoder answers. -/
theorem decF_U (b : List UInt8) : decF b = if (feedU .zero [] b 0).e ≠ 0 then ⟨[], 0, (feedU .zero [] b 0).e⟩ else if (feedU .zero [] b 0).c.ph ≠ 4 then ⟨[], 0, 4⟩ else ⟨(feedU .zero [] b 0).out, (feedU .zero [] b 0).n, 0⟩ := by
  unfold decF
  rw [feedG_U _ b .zero [] 0 (Nat.le_refl _) (by omega)]

theorem encChunk_eq (b : List UInt8) (h : b ≠ []) : encChunk b = lineW [] b := by unfold encChunk lineW; rw [if_neg h]; simp
theorem digs_len16 (u : Nat) (h : u ≤ 1000000000) : (digs 16 u).length ≤ 128 := by
  have : ∀ (k u : Nat), u < 16 ^ (k + 1) → (digs 16 u).length ≤ k + 1 := by
    intro k
    induction k with
    | zero => intro u hu; rw [digs_one (by simpa using hu)]; simp
    | succ k ih =>
      intro u hu
      by_cases h : u < 16
      · rw [digs_one h]; simp
      · rw [digs_more (by decide) h]
        have := ih (u / 16) (by rw [Nat.div_lt_iff_lt_mul (by decide)]; rw [Nat.pow_succ] at hu; exact hu)
        simp; omega
  exact Nat.le_trans (this 7 u (by omega)) (by decide)

theorem feedU_chunks (rest : List UInt8) : ∀ (ps : List (List UInt8)) (out : List UInt8) (i : Nat), (∀ p, p ∈ ps → p.length ≤ 1000000000) →
    feedU .zero out ((ps.map encChunk).flatten ++ rest) i = feedU .zero (out ++ ps.flatten) rest (i + (ps.map encChunk).flatten.length)
  | [], out, i, _ => by simp
  | p :: ps, out, i, h => by
    have hp := h p (by simp)
    have ih := feedU_chunks rest ps
    by_cases h0 : p = []
    · subst h0
      simp only [List.map_cons, List.flatten_cons, show encChunk [] = [] from rfl, List.nil_append]
      exact ih out i fun q hq => h q (by simp [hq])
    · simp only [List.map_cons, List.flatten_cons, List.append_assoc]
      rw [encChunk_eq p h0, feedU_chunk [] p out _ i h0 hp ⟨.inl rfl, by intro x hx; cases hx⟩ (by have := digs_len16 p.length hp; simpa using this), ih _ _ fun q hq => h q (by simp [hq])]
      simp only [List.append_assoc, List.length_append]
      rw [Nat.add_assoc]

/-- DECODING WHAT WAS ENCODED, whatever follows. -/
theorem dec_enc (ps : List (List UInt8)) (more : List UInt8) (h : ∀ p, p ∈ ps → p.length ≤ 1000000000) : decF (encF ps ++ more) = ⟨ps.flatten, (encF ps).length, 0⟩ := by
  have e : feedU .zero [] (encF ps ++ more) 0 = ⟨⟨4, 0, 2, []⟩, ps.flatten, (encF ps).length, 0⟩ := by
    unfold encF
    rw [List.append_assoc, feedU_chunks _ ps [] 0 h]
    have := feedU_last [48] [] ([] ++ ps.flatten) more [] (0 + (ps.map encChunk).flatten.length) (.inl rfl) ⟨.inl rfl, by intro x hx; cases hx⟩ (by decide) (by intro t ht; cases ht) (by decide)
    have e2 : [48, 13, 10, 13, 10] ++ more = ([48] ++ []) ++ 13 :: 10 :: (trLines [] ++ 13 :: 10 :: more) := rfl
    rw [e2, this]
    simp [trLines]
  rw [decF_U, e]
  simp
end Go.Proofs.YtiokdhklhnhfhaaDoor

