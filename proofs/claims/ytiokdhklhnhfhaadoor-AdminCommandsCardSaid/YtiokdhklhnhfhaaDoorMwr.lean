import Derived.Test.YtiokdhklhnhfhaaDoorMe
import Derived.Test.YtiokdhklhnhfhaaDoorMn
import Derived.Laws.StructEq
import Derived.WalkKit
import Derived.Test.YtiokdhklhnhfhaaDoorMi
import Derived.Test.YtiokdhklhnhfhaaDoorMl
namespace Go.Proofs.YtiokdhklhnhfhaaDoor
variable {G : List Go.Eng.Gl}
open Go.Eng
attribute [local irreducible] Hold
set_option maxRecDepth 100000

theorem split50 (l : List UInt8) (h : l.length ≤ 9223372036854775807) : Does (CG G) 50 [.s l] [.s (cutF 63 l).1, .s (cutF 63 l).2.1] := by
  refine Does.mk (n := 15) Tryd.func50 rfl rfl rfl (Nat.le_of_ble_eq_true rfl) ?_
  refine call_by (cutS l 63 h) ?_
  rfl
theorem split62 (l : List UInt8) (h : l.length ≤ 9223372036854775807) : Does (CG G) 62 [.s l] [.s (cutF 63 l).1, .s (cutF 63 l).2.1] := by
  refine Does.mk (n := 23) Tryd.func62 rfl rfl rfl (Nat.le_of_ble_eq_true rfl) ?_
  repeat refine seq_on ?_
  apply loop_inv (fun i : Nat => i ≤ l.length ∧ 63 ∉ l.take i) (fun i => ⟨[(0, .d (.s l)), (4, .d (.i .i64 (i : Int)))], [], 2⟩) (fun i => l.length - i) 0 ⟨Nat.zero_le _, by simp⟩ []
  · ((repeat' constructor) <;> (first | refine hold ?_ | rfl) <;> first | with_reducible rfl | (congr 1 <;> omega) | (congr 1 <;> simp; done) | (simp; done) | exact encB_snoc _ _ | skip)
  · rintro i ⟨hi, hn⟩
    repeat refine seq_on ?_
    refine cmp_dec (fun h1 => ?_) (fun h1 => ?_)
    · have hi' : i < l.length := by omega
      repeat refine seq_on ?_
      refine Eng.get_at i rfl (x := l[i]) (by simp [hi']) ?_
      refine cmp_dec (fun h2 => ?_) (fun h2 => ?_)
      · have hc : l[i] = 63 := UInt8.toNat_inj.1 (by have h2 : ((l[i].toNat : Nat) : Int) = 63 := h2; show l[i].toNat = 63; omega)
        have hid : idxO 63 l = some i := idxO_at (by simp [hi', hc]) hn
        have hcf : cutF 63 l = (l.take i, l.drop (i + 1), true) := by unfold cutF; rw [hid]
        repeat refine seq_on ?_
        refine bnd i rfl (by omega) ?_
        refine ar ⟨by omega, by omega⟩ ?_
        refine bnd (i + 1) (by omega) (by omega) ?_
        (refine ⟨draw_ok (by kernel_rfl), ?_⟩; repeat refine seq_on ?_)
        rw [hcf]
        rfl
      · have hc : l[i] ≠ 63 := fun e => h2 (by rw [e]; rfl)
        repeat refine seq_on ?_
        refine ar ⟨by omega, by omega⟩ ?_
        apply again (i + 1) [] ⟨by omega, by
          rw [List.take_succ_eq_append_getElem hi']
          intro hm
          rcases List.mem_append.1 hm with hm | hm
          · exact hn hm
          · simp at hm; exact hc hm.symm⟩ (by omega)
        ((repeat' constructor) <;> (first | refine hold ?_ | rfl) <;> first | with_reducible rfl | (congr 1 <;> omega) | (congr 1 <;> simp; done) | (simp; done) | exact encB_snoc _ _ | skip)
    · have hid : idxO 63 l = none := idxO_mem.2 (by rw [← List.take_of_length_le (show l.length ≤ i by omega)]; exact hn)
      have hcf : cutF 63 l = (l, [], false) := by unfold cutF; rw [hid]
      repeat refine seq_on ?_
      rw [hcf]
      rfl

theorem with100 (a b : List D) (h : a.length + b.length ≤ 68719476736) : Does (CG G) 100 [.sl 2 a, .sl 2 b] [.sl 2 (a ++ b)] := by
  have hc := concatF (G := G) [a, b] (by simp; omega) (by simp)
  have hf : [a, b].flatten = a ++ b := by simp
  rw [hf] at hc
  refine Does.mk (n := 9) Tryd.func100 rfl rfl rfl (Nat.le_of_ble_eq_true rfl) ?_
  refine call_alt (callh [] hc ?_ ?_)
  · ((repeat' constructor) <;> (first | refine hold ?_ | rfl) <;> first | with_reducible rfl | (congr 1 <;> omega) | (congr 1 <;> simp; done) | (simp; done) | exact encB_snoc _ _ | skip)
  rfl

def reasonG (n : Int) : List (Int × List UInt8) → List UInt8
  | [] => [69, 114, 114, 111, 114]
  | x :: r => if x.1 = n then x.2 else reasonG n r
def reasonF (n : Int) : List UInt8 := reasonG n reasonsT

theorem reason99 (n : Int) : Does (CR G) 99 [.i .i64 n] [.s (reasonF n)] := by
  have hlen : reasonsT.length = 12 := rfl
  have hall : ∀ x, x ∈ reasonsT.map rec2 → x.cells.length = 2 := by
    intro x hx
    obtain ⟨y, _, rfl⟩ := List.mem_map.1 hx
    rfl
  refine Does.mk (n := 16) Tryd.func99 rfl rfl rfl (Nat.le_of_ble_eq_true rfl) ?_
  repeat refine seq_on ?_
  apply loop_inv (fun i : Nat => i ≤ 12 ∧ reasonG n (reasonsT.drop i) = reasonF n) (fun i => ⟨[(0, .d (.i .i64 n)), (5, .d (.agg ((reasonsT.map rec2).flatMap D.cells))), (6, .d (.i .i64 (i : Int)))], [], 2⟩) (fun i => 12 - i) 0 ⟨by omega, rfl⟩ []
  · ((repeat' constructor) <;> (first | refine hold ?_ | rfl) <;> first | with_reducible rfl | (congr 1 <;> omega) | (congr 1 <;> simp; done) | (simp; done) | exact encB_snoc _ _ | skip)
  · rintro i ⟨hi, hr⟩
    repeat refine seq_on ?_
    refine cmp_dec (fun h => ?_) (fun h => ?_)
    · have hi' : i < reasonsT.length := by omega
      rw [List.drop_eq_getElem_cons hi', reasonG] at hr
      repeat refine seq_on ?_
      refine arr_row i rfl (by omega) hall (r := [.i .i64 reasonsT[i].1, .s reasonsT[i].2]) (by simp [hi', rec2]) ?_
      repeat refine seq_on ?_
      refine cmp_dec (fun h2 => ?_) (fun h2 => ?_)
      · rw [if_pos h2] at hr
        repeat refine seq_on ?_
        rw [← hr]
        rfl
      · rw [if_neg h2] at hr
        repeat refine seq_on ?_
        refine ar ⟨by omega, by omega⟩ ?_
        apply again (i + 1) [] ⟨by omega, hr⟩ (by omega)
        ((repeat' constructor) <;> (first | refine hold ?_ | rfl) <;> first | with_reducible rfl | (congr 1 <;> omega) | (congr 1 <;> simp; done) | (simp; done) | exact encB_snoc _ _ | skip)
    · have : i = 12 := by omega
      subst this
      repeat refine seq_on ?_
      rw [← hr]
      rfl
theorem reason153 (n : Int) : Does (CG G) 153 [.i .i64 n] [.s (reasonF n)] := by
  have e : reasonF n = if n = 200 then [79, 75] else if n = 400 then [66, 97, 100, 32, 82, 101, 113, 117, 101, 115, 116] else if n = 404 then [78, 111, 116, 32, 70, 111, 117, 110, 100] else if n = 405 then [77, 101, 116, 104, 111, 100, 32, 78, 111, 116, 32, 65, 108, 108, 111, 119, 101, 100] else if n = 408 then [82, 101, 113, 117, 101, 115, 116, 32, 84, 105, 109, 101, 111, 117, 116] else if n = 409 then [67, 111, 110, 102, 108, 105, 99, 116] else if n = 413 then [67, 111, 110, 116, 101, 110, 116, 32, 84, 111, 111, 32, 76, 97, 114, 103, 101] else if n = 431 then [82, 101, 113, 117, 101, 115, 116, 32, 72, 101, 97, 100, 101, 114, 32, 70, 105, 101, 108, 100, 115, 32, 84, 111, 111, 32, 76, 97, 114, 103, 101] else if n = 502 then [66, 97, 100, 32, 71, 97, 116, 101, 119, 97, 121] else if n = 503 then [83, 101, 114, 118, 105, 99, 101, 32, 85, 110, 97, 118, 97, 105, 108, 97, 98, 108, 101] else if n = 504 then [71, 97, 116, 101, 119, 97, 121, 32, 84, 105, 109, 101, 111, 117, 116] else if n = 505 then [72, 84, 84, 80, 32, 86, 101, 114, 115, 105, 111, 110, 32, 78, 111, 116, 32, 83, 117, 112, 112, 111, 114, 116, 101, 100] else [69, 114, 114, 111, 114] := by
    unfold reasonF reasonsT
    simp only [reasonG, eq_comm]
  refine Does.mk (n := 28) Tryd.func153 rfl rfl rfl (Nat.le_of_ble_eq_true rfl) ?_
  rw [e]
  repeat refine seq_on ?_
  refine cmp_dec (fun h => ?_) (fun h => ?_)
  · repeat refine seq_on ?_
    rw [if_pos h]; rfl
  rw [if_neg h]
  iterate 10
    repeat refine seq_on ?_
    refine cmp_dec (fun h => ?_) (fun h => ?_)
    · repeat refine seq_on ?_
      rw [if_pos h]; rfl
    rw [if_neg h]
  repeat refine seq_on ?_
  refine cmp_dec (fun h => ?_) (fun h => ?_)
  · repeat refine seq_on ?_
    rw [if_pos h]; rfl
  repeat refine seq_on ?_
  rw [if_neg h]; rfl
end Go.Proofs.YtiokdhklhnhfhaaDoor

namespace Go.Proofs.YtiokdhklhnhfhaaDoor
variable {G : List Go.Eng.Gl}
open Go.Eng
attribute [local irreducible] Hold
set_option maxRecDepth 100000

theorem rd_nil {w : World} {X : Nat → Prop} {z z' : Nat} {v : Value} (h : Rd w X (.sl z []) v) : Rd w X (.sl z' []) v := by
  cases h with
  | slnil => exact .slnil z'
  | sle _ a => exact .sle z' a _
  | sl _ _ blk off len cap arr T fz f hh hX hl hc hw h1 h2 =>
    refine .sl z' [] blk off len cap arr T fz f hh hX hl hc ?_ ?_ ?_ <;> intro j <;> simp
theorem Does.conv {f : FuncId} {ds ds' rs : List D} (h : Does (CG G) f ds rs) (hl : ds'.length = ds.length) (hc : ∀ (j : Nat) (d' : D), ds'[j]? = some d' → ∃ d, ds[j]? = some d ∧ ∀ (w : World) (X : Nat → Prop) (v : Value), Rd w X d' v → Rd w X d v) : Does (CG G) f ds' rs := by
  refine ⟨h.1, fun w X vs hX hG hlen hr => h.2 w X vs hX hG (by omega) fun j d v hd hv => ?_⟩
  have hj : j < ds'.length := by rw [hl]; exact (List.getElem?_eq_some_iff.1 hd).1
  obtain ⟨d2, h2, h3⟩ := hc j ds'[j] (by simp [hj])
  rw [hd] at h2; cases h2
  exact h3 w X v (hr j _ v (by simp [hj]) hv)

def ctName : List UInt8 := [67, 111, 110, 116, 101, 110, 116, 45, 84, 121, 112, 101]
def clName : List UInt8 := [67, 111, 110, 116, 101, 110, 116, 45, 76, 101, 110, 103, 116, 104]
def hdr (ct body : List UInt8) : List Fld := [(ctName, ct), (clName, printF 10 (body.length : Int))]
def fldsD (fs : List Fld) : D := .sl 2 (fs.map fldD)
def replyD (code : Int) (fs : List Fld) (body : List UInt8) : D := .agg [.i .i64 code, .s (reasonF code), .i .i64 1, fldsD fs, .sl 1 (encB body)]

theorem make53 (code : Int) (ct body : List UInt8) (ex : List Fld) (hb : body.length ≤ 4611686018427387904) (he : ex.length ≤ 1000000) : Does (CR G) 53 [.i .i64 code, .s ct, .s body, fldsD ex] [replyD code (hdr ct body ++ ex) body] := by
  have h1 := dec16 (G := glReasons :: G) (body.length : Int) ⟨by omega, by omega⟩
  have h2 := reason99 (G := G) code
  have h3 := with100 (G := gR G) ((hdr ct body).map fldD) (ex.map fldD) (by simp [hdr]; omega)
  rw [← List.map_append] at h3
  refine Does.mk (n := 26) Tryd.func53 rfl rfl rfl (Nat.le_of_ble_eq_true rfl) ?_
  repeat refine seq_on ?_
  refine call_by h1 ?_
  refine call_by h2 ?_
  refine call_by h3 ?_
  rfl
theorem make106 (code : Int) (ct body : List UInt8) (ex : List Fld) (hb : body.length ≤ 4611686018427387904) (he : ex.length ≤ 1000000) : Does (CG G) 106 [.i .i64 code, .s ct, .s body, fldsD ex] [replyD code (hdr ct body ++ ex) body] := by
  have h1 := dec18 (G := G) (body.length : Int) ⟨by omega, by omega⟩
  have h2 := reason153 (G := G) code
  refine Does.mk (n := 26) Tryd.func106 rfl rfl rfl (Nat.le_of_ble_eq_true rfl) ?_
  repeat refine seq_on ?_
  refine call_by h1 ?_
  refine call_by h2 ?_
  refine app_ok (by simp; omega) ?_
  unfold replyD fldsD
  rw [List.map_append]
  rfl
def plainT : List UInt8 := [116, 101, 120, 116, 47, 112, 108, 97, 105, 110]
def jsonT : List UInt8 := [97, 112, 112, 108, 105, 99, 97, 116, 105, 111, 110, 47, 106, 115, 111, 110]
theorem text52 (code : Int) (body : List UInt8) (ex : List Fld) (hb : body.length ≤ 4611686018427387904) (he : ex.length ≤ 1000000) : Does (CR G) 52 [.i .i64 code, .s body, fldsD ex] [replyD code (hdr plainT body ++ ex) body] := by
  refine Does.mk (n := 11) Tryd.func52 rfl rfl rfl (Nat.le_of_ble_eq_true rfl) ?_
  refine call_by (make53 code plainT body ex hb he) ?_
  rfl
theorem text63 (code : Int) (body : List UInt8) (ex : List Fld) (hb : body.length ≤ 4611686018427387904) (he : ex.length ≤ 1000000) : Does (CG G) 63 [.i .i64 code, .s body, fldsD ex] [replyD code (hdr plainT body ++ ex) body] := by
  refine Does.mk (n := 11) Tryd.func63 rfl rfl rfl (Nat.le_of_ble_eq_true rfl) ?_
  refine call_by (make106 code plainT body ex hb he) ?_
  rfl
/-- With nil for the further fields. -/
theorem make53n (code : Int) (ct body : List UInt8) (hb : body.length ≤ 4611686018427387904) : Does (CR G) 53 [.i .i64 code, .s ct, .s body, .sl 1 []] [replyD code (hdr ct body) body] := by
  have h := make53 (G := G) code ct body [] hb (by simp)
  rw [List.append_nil] at h
  refine Does.conv h rfl fun j d' hd => ?_
  match j with
  | 0 => exact ⟨d', hd, fun _ _ _ h => h⟩
  | 1 => exact ⟨d', hd, fun _ _ _ h => h⟩
  | 2 => exact ⟨d', hd, fun _ _ _ h => h⟩
  | 3 => cases hd; exact ⟨_, rfl, fun _ _ _ h => rd_nil h⟩
theorem make106n (code : Int) (ct body : List UInt8) (hb : body.length ≤ 4611686018427387904) : Does (CG G) 106 [.i .i64 code, .s ct, .s body, .sl 1 []] [replyD code (hdr ct body) body] := by
  have h := make106 (G := G) code ct body [] hb (by simp)
  rw [List.append_nil] at h
  refine Does.conv h rfl fun j d' hd => ?_
  match j with
  | 0 => exact ⟨d', hd, fun _ _ _ h => h⟩
  | 1 => exact ⟨d', hd, fun _ _ _ h => h⟩
  | 2 => exact ⟨d', hd, fun _ _ _ h => h⟩
  | 3 => cases hd; exact ⟨_, rfl, fun _ _ _ h => rd_nil h⟩
theorem text52n (code : Int) (body : List UInt8) (hb : body.length ≤ 4611686018427387904) : Does (CR G) 52 [.i .i64 code, .s body, .sl 1 []] [replyD code (hdr plainT body) body] := by
  have h := text52 (G := G) code body [] hb (by simp)
  rw [List.append_nil] at h
  refine Does.conv h rfl fun j d' hd => ?_
  match j with
  | 0 => exact ⟨d', hd, fun _ _ _ h => h⟩
  | 1 => exact ⟨d', hd, fun _ _ _ h => h⟩
  | 2 => cases hd; exact ⟨_, rfl, fun _ _ _ h => rd_nil h⟩
theorem text63n (code : Int) (body : List UInt8) (hb : body.length ≤ 4611686018427387904) : Does (CG G) 63 [.i .i64 code, .s body, .sl 1 []] [replyD code (hdr plainT body) body] := by
  have h := text63 (G := G) code body [] hb (by simp)
  rw [List.append_nil] at h
  refine Does.conv h rfl fun j d' hd => ?_
  match j with
  | 0 => exact ⟨d', hd, fun _ _ _ h => h⟩
  | 1 => exact ⟨d', hd, fun _ _ _ h => h⟩
  | 2 => cases hd; exact ⟨_, rfl, fun _ _ _ h => rd_nil h⟩
end Go.Proofs.YtiokdhklhnhfhaaDoor

namespace Go.Proofs.YtiokdhklhnhfhaaDoor
variable {G : List Go.Eng.Gl}
open Go.Eng
attribute [local irreducible] Hold
set_option maxRecDepth 100000

theorem rd_fld {w : World} {X : Nat → Prop} {f : Fld} {v : Value} (h : Rd w X (fldD f) v) : v = .agg #[.string ⟨f.1.toArray⟩, .string ⟨f.2.toArray⟩] := by
  unfold fldD at h
  cases h with
  | agg _ vs hl hr =>
    obtain ⟨l⟩ := vs
    match l, hl, hr with
    | [a, b], _, hr =>
      rw [(hr 0 _ a rfl rfl).sinv, (hr 1 _ b rfl rfl).sinv]

theorem eqFld (f : Fld) : EqTy Tryd.prog 89 (fldD f) (fldD f) true := by
  refine ⟨by kernel_rfl, fun w X va vb ha hb => ?_⟩
  rw [rd_fld ha, rd_fld hb]
  have hS : Tryd.prog.underlying 89 = some (.struct (Tryd.prog.fieldsOf 89)) := by kernel_rfl
  have hp : Tryd.prog.stoodInHeld 89 = false := by kernel_rfl
  have u9 := Tryd.underlying9
  have a9 := Tryd.isAgg9
  have z9 := Tryd.sizeOf9
  show (Op.equalIn (9999 + 1) 89 _ _).run Tryd.prog w = _
  rw [run_equalIn_agg w 9999 89 _ _ hS hp]
  simp only [Program.fieldsOf, Tryd.underlying89]
  go_simp

theorem same22 (fs : List Fld) (h : fs.length ≤ 9223372036854775807) : Does (CG G) 22 [fldsD fs, fldsD fs] [.b true] := by
  have hl : (fs.map fldD).length = fs.length := by simp
  refine Does.mk (n := 26) Tryd.func22 rfl rfl rfl (Nat.le_of_ble_eq_true rfl) ?_
  unfold fldsD
  repeat refine seq_on ?_
  refine cmp_no (by simp) ?_
  repeat refine seq_on ?_
  apply loop_inv (fun i : Nat => i ≤ fs.length) (fun i => ⟨[(0, .d (.sl 2 (fs.map fldD))), (1, .d (.sl 2 (fs.map fldD))), (5, .d (.i .i64 (i : Int)))], [], 2⟩) (fun i => fs.length - i) 0 (by omega) []
  · ((repeat' constructor) <;> (first | refine hold ?_ | rfl) <;> first | with_reducible rfl | (congr 1 <;> omega) | (congr 1 <;> simp; done) | (simp; done) | exact encB_snoc _ _ | skip)
  · intro i hi
    repeat refine seq_on ?_
    refine cmp_dec (fun h1 => ?_) (fun h1 => ?_)
    · rw [hl] at h1
      have hi' : i < fs.length := by omega
      repeat refine seq_on ?_
      refine Eng.get_at i rfl (x := fldD fs[i]) (by simp [hi']) ?_
      refine Eng.get_at i rfl (x := fldD fs[i]) (by simp [hi']) ?_
      refine eq_agg (eqFld _) (cmp_is true rfl ?_)
      (refine ⟨draw_ok (by kernel_rfl), ?_⟩; repeat refine seq_on ?_)
      refine ar ⟨by omega, by omega⟩ ?_
      apply again (i + 1) [] (by omega) (by omega)
      ((repeat' constructor) <;> (first | refine hold ?_ | rfl) <;> first | with_reducible rfl | (congr 1 <;> omega) | (congr 1 <;> simp; done) | (simp; done) | exact encB_snoc _ _ | skip)
    · repeat refine seq_on ?_
      rfl
theorem same17 (code : Int) (fs : List Fld) (body : List UInt8) (h : fs.length ≤ 9223372036854775807) : Does (CG G) 17 [replyD code fs body, replyD code fs body] [.b true] := by
  refine Does.mk (n := 40) Tryd.func17 rfl rfl rfl (Nat.le_of_ble_eq_true rfl) ?_
  unfold replyD
  repeat refine seq_on ?_
  refine cmp_yes rfl ?_
  refine cmp_yes rfl ?_
  refine cmp_yes rfl ?_
  refine call_by (same22 fs h) ?_
  refine bytes_is body rfl ?_
  refine bytes_is body rfl ?_
  refine cmp_yes rfl ?_
  rfl
def headM : List UInt8 := [72, 69, 65, 68]
def getM : List UInt8 := [71, 69, 84]
theorem got64 (m ct body : List UInt8) (hb : body.length ≤ 4611686018427387904) : Does (CG G) 64 [.s m, .s ct, .s body] [replyD 200 (hdr ct body) (if m = headM then [] else body)] := by
  refine Does.mk (n := 15) Tryd.func64 rfl rfl rfl (Nat.le_of_ble_eq_true rfl) ?_
  repeat refine seq_on ?_
  refine call_by (make106n 200 ct body hb) ?_
  unfold replyD
  repeat refine seq_on ?_
  refine cmp_dec (fun h => ?_) (fun h => ?_)
  · repeat refine seq_on ?_
    rw [if_pos (show m = headM from h)]; rfl
  · repeat refine seq_on ?_
    rw [if_neg (show ¬ m = headM from h)]; rfl
end Go.Proofs.YtiokdhklhnhfhaaDoor

namespace Go.Proofs.YtiokdhklhnhfhaaDoor
variable {G : List Go.Eng.Gl}
open Go.Eng
attribute [local irreducible] Hold
set_option maxRecDepth 100000

def reportsP : List UInt8 := [47, 114, 101, 112, 111, 114, 116, 115]
def reportsJ : List UInt8 := [47, 114, 101, 112, 111, 114, 116, 115, 46, 106, 115, 111, 110]
def notF : List UInt8 := [110, 111, 116, 32, 102, 111, 117, 110, 100, 10]
def notA : List UInt8 := [109, 101, 116, 104, 111, 100, 32, 110, 111, 116, 32, 97, 108, 108, 111, 119, 101, 100, 10]
def listenF (m p tx js : List UInt8) : D :=
  let q := (cutF 63 p).1
  if q ≠ reportsP ∧ q ≠ reportsJ then replyD 404 (hdr plainT notF) notF
  else if m ≠ getM ∧ m ≠ headM then replyD 405 (hdr plainT notA) notA
  else if q = reportsP then replyD 200 (hdr plainT tx) (if m = headM then [] else tx) else replyD 200 (hdr jsonT js) (if m = headM then [] else js)

theorem listener20 (m p tx js : List UInt8) (mi : Int) (fl bo : List D) (fr : Bool) (cap ser : Int) (l : List Rec) (hp : p.length ≤ 9223372036854775807) (htx : tx.length ≤ 4611686018427387904) (hjs : js.length ≤ 4611686018427387904)
    (h1 : Does (CG G) 65 [repD cap ser l] [.s tx]) (h2 : Does (CG G) 66 [repD cap ser l] [.s js]) : Does (CG G) 20 [.agg [.s m, .s p, .i .i64 mi, .sl 2 fl, .b fr, .sl 1 bo], repD cap ser l] [listenF m p tx js] := by
  refine Does.mk (n := 41) Tryd.func20 rfl rfl rfl (Nat.le_of_ble_eq_true rfl) ?_
  unfold listenF
  simp only
  repeat refine seq_on ?_
  refine call_by (split62 p hp) ?_
  generalize (cutF 63 p).1 = q at *
  repeat refine seq_on ?_
  refine cmp_dec (fun a1 => ?_) (fun a1 => ?_)
  · have a1 : q ≠ reportsP := a1
    refine cmp_dec (fun a2 => ?_) (fun a2 => ?_)
    · have a2 : q ≠ reportsJ := a2
      repeat refine seq_on ?_
      refine call_by (text63n 404 notF (by decide)) ?_
      rw [if_pos ⟨a1, a2⟩]
      rfl
    · have a2 : q = reportsJ := Classical.not_not.1 a2
      subst a2
      rw [if_neg (fun h => h.2 rfl)]
      repeat refine seq_on ?_
      refine cmp_dec (fun b1 => ?_) (fun b1 => ?_)
      · have b1 : m ≠ getM := b1
        refine cmp_dec (fun b2 => ?_) (fun b2 => ?_)
        · have b2 : m ≠ headM := b2
          repeat refine seq_on ?_
          refine call_by (text63n 405 notA (by decide)) ?_
          rw [if_pos ⟨b1, b2⟩]
          rfl
        · have b2 : m = headM := Classical.not_not.1 b2
          repeat refine seq_on ?_
          refine cmp_no (by decide) ?_
          repeat refine seq_on ?_
          refine call_by h2 ?_
          refine call_by (got64 m jsonT js hjs) ?_
          (refine ⟨draw_ok (by kernel_rfl), ?_⟩; repeat refine seq_on ?_)
          rw [if_neg (show ¬ (m ≠ getM ∧ m ≠ headM) from fun h => h.2 b2), if_neg (show ¬ reportsJ = reportsP by decide)]
          rfl
      · have b1 : m = getM := Classical.not_not.1 b1
        repeat refine seq_on ?_
        refine cmp_no (by decide) ?_
        repeat refine seq_on ?_
        refine call_by h2 ?_
        refine call_by (got64 m jsonT js hjs) ?_
        (refine ⟨draw_ok (by kernel_rfl), ?_⟩; repeat refine seq_on ?_)
        rw [if_neg (show ¬ (m ≠ getM ∧ m ≠ headM) from fun h => h.1 b1), if_neg (show ¬ reportsJ = reportsP by decide)]
        rfl
  · have a1 : q = reportsP := Classical.not_not.1 a1
    subst a1
    rw [if_neg (fun h => h.1 rfl)]
    repeat refine seq_on ?_
    refine cmp_dec (fun b1 => ?_) (fun b1 => ?_)
    · have b1 : m ≠ getM := b1
      refine cmp_dec (fun b2 => ?_) (fun b2 => ?_)
      · have b2 : m ≠ headM := b2
        repeat refine seq_on ?_
        refine call_by (text63n 405 notA (by decide)) ?_
        rw [if_pos ⟨b1, b2⟩]
        rfl
      · have b2 : m = headM := Classical.not_not.1 b2
        repeat refine seq_on ?_
        refine cmp_yes (by decide) ?_
        repeat refine seq_on ?_
        refine call_by h1 ?_
        refine call_by (got64 m plainT tx htx) ?_
        (refine ⟨draw_ok (by kernel_rfl), ?_⟩; repeat refine seq_on ?_)
        rw [if_neg (show ¬ (m ≠ getM ∧ m ≠ headM) from fun h => h.2 b2), if_pos (show reportsP = reportsP from rfl)]
        rfl
    · have b1 : m = getM := Classical.not_not.1 b1
      repeat refine seq_on ?_
      refine cmp_yes (by decide) ?_
      repeat refine seq_on ?_
      refine call_by h1 ?_
      refine call_by (got64 m plainT tx htx) ?_
      (refine ⟨draw_ok (by kernel_rfl), ?_⟩; repeat refine seq_on ?_)
      rw [if_neg (show ¬ (m ≠ getM ∧ m ≠ headM) from fun h => h.1 b1), if_pos (show reportsP = reportsP from rfl)]
      rfl
end Go.Proofs.YtiokdhklhnhfhaaDoor

namespace Go.Proofs.YtiokdhklhnhfhaaDoor
variable {G : List Go.Eng.Gl}
open Go.Eng
attribute [local irreducible] Hold
set_option maxRecDepth 100000

def boxR (m p : List UInt8) (mi : Int) (fl bo : List D) (fr : Bool) (cap ser : Int) (l : List Rec) : List (Nat × Option Ent) := [(0, some (.box [.d (.s m), .d (.s p), .d (.i .i64 mi), .d (.sl 2 fl), .d (.b fr), .d (.sl 1 bo)])), (1, some (.box [.d (.i .i64 cap), .d (.i .i64 ser), .d (recs l)]))]
def badM (m : List UInt8) : Prop := m ≠ getM ∧ m ≠ headM
instance (m : List UInt8) : Decidable (badM m) := by unfold badM; infer_instance
def gotD (m ct body : List UInt8) : D := replyD (if badM m then 405 else 200) (if badM m then hdr plainT notA else hdr ct body) (if badM m then notA else if m = headM then [] else body)
theorem gotD_bad {m ct body : List UInt8} (h : badM m) : gotD m ct body = replyD 405 (hdr plainT notA) notA := by unfold gotD; simp only [if_pos h]
theorem gotD_ok {m ct body : List UInt8} (h : ¬ badM m) : gotD m ct body = replyD 200 (hdr ct body) (if m = headM then [] else body) := by unfold gotD; simp only [if_neg h]

theorem handle51 (f : FuncId) (m p ct tx : List UInt8) (mi : Int) (fl bo : List D) (fr : Bool) (cap ser : Int) (l : List Rec) (htx : tx.length ≤ 4611686018427387904) (h1 : Does (CR G) f [repD cap ser l] [.s tx]) :
    DoesH (CR G) 51 [.d (.s ct), .fn (.func f) [] [], .op 0 0 0, .op 1 0 0] (boxR m p mi fl bo fr cap ser l) [.d (gotD m ct tx)] [] := by
  refine DoesH.mk (n := 27) Tryd.func51 rfl rfl rfl (Nat.le_of_ble_eq_true rfl) rfl ?_
  unfold boxR
  repeat refine seq_on ?_
  refine cmp_dec (fun b1 => ?_) (fun b1 => ?_)
  · have b1 : m ≠ getM := b1
    refine cmp_dec (fun b2 => ?_) (fun b2 => ?_)
    · have b2 : m ≠ headM := b2
      repeat refine seq_on ?_
      refine call_by (text52n 405 notA (by decide)) ?_
      rw [gotD_bad ⟨b1, b2⟩]
      refine end_ok [] ?_
      ((repeat' constructor) <;> (first | refine hold ?_ | rfl) <;> first | with_reducible rfl | (congr 1 <;> omega) | (congr 1 <;> simp; done) | (simp; done) | exact encB_snoc _ _ | skip)
    · have b2 : m = headM := Classical.not_not.1 b2
      repeat refine seq_on ?_
      refine call_by h1 ?_
      refine call_by (make53n 200 ct tx htx) ?_
      unfold replyD
      repeat refine seq_on ?_
      refine cmp_yes b2 ?_
      repeat refine seq_on ?_
      rw [gotD_ok (fun h => h.2 b2), if_pos b2]
      refine end_ok [] ?_
      ((repeat' constructor) <;> (first | refine hold ?_ | rfl) <;> first | with_reducible rfl | (congr 1 <;> omega) | (congr 1 <;> simp; done) | (simp; done) | exact encB_snoc _ _ | skip)
  · have b1 : m = getM := Classical.not_not.1 b1
    have b2 : m ≠ headM := by rw [b1]; decide
    repeat refine seq_on ?_
    refine call_by h1 ?_
    refine call_by (make53n 200 ct tx htx) ?_
    unfold replyD
    repeat refine seq_on ?_
    refine cmp_no b2 ?_
    repeat refine seq_on ?_
    rw [gotD_ok (fun h => h.1 b1), if_neg b2]
    refine end_ok [] ?_
    ((repeat' constructor) <;> (first | refine hold ?_ | rfl) <;> first | with_reducible rfl | (congr 1 <;> omega) | (congr 1 <;> simp; done) | (simp; done) | exact encB_snoc _ _ | skip)

theorem listenF_P (m p tx js : List UInt8) (h : (cutF 63 p).1 = reportsP) : listenF m p tx js = gotD m plainT tx := by
  unfold listenF
  simp only
  rw [h, if_neg (fun e => e.1 rfl), if_pos rfl]
  by_cases hb : badM m
  · rw [gotD_bad hb]; exact if_pos hb
  · rw [gotD_ok hb]; exact if_neg hb
theorem listenF_J (m p tx js : List UInt8) (h : (cutF 63 p).1 = reportsJ) : listenF m p tx js = gotD m jsonT js := by
  unfold listenF
  simp only
  rw [h, if_neg (fun e => e.2 rfl), if_neg (show ¬ reportsJ = reportsP by decide)]
  by_cases hb : badM m
  · rw [gotD_bad hb]; exact if_pos hb
  · rw [gotD_ok hb]; exact if_neg hb
theorem listenF_N (m p tx js : List UInt8) (h : (cutF 63 p).1 ≠ reportsP) (h' : (cutF 63 p).1 ≠ reportsJ) : listenF m p tx js = replyD 404 (hdr plainT notF) notF := by
  unfold listenF
  simp only
  rw [if_pos ⟨h, h'⟩]

theorem handle18 (m p tx js : List UInt8) (mi : Int) (fl bo : List D) (fr : Bool) (cap ser : Int) (l : List Rec) (hp : p.length ≤ 9223372036854775807) (htx : tx.length ≤ 4611686018427387904) (hjs : js.length ≤ 4611686018427387904)
    (h1 : Does (CR G) 54 [repD cap ser l] [.s tx]) (h2 : Does (CR G) 55 [repD cap ser l] [.s js]) : Does (CR G) 18 [.agg [.s m, .s p, .i .i64 mi, .sl 2 fl, .b fr, .sl 1 bo], repD cap ser l] [listenF m p tx js] := by
  have e1 := handle51 (G := G) 54 m p plainT tx mi fl bo fr cap ser l htx h1
  have e2 := handle51 (G := G) 55 m p jsonT js mi fl bo fr cap ser l hjs h2
  simp only [gotD, replyD, boxR] at e1 e2
  refine Does.mk (n := 25) Tryd.func18 rfl rfl rfl (Nat.le_of_ble_eq_true rfl) ?_
  repeat refine seq_on ?_
  refine call_by (split50 p hp) ?_
  repeat refine seq_on ?_
  refine cmp_dec (fun a1 => ?_) (fun a1 => ?_)
  · rw [listenF_P m p tx js a1]
    repeat refine seq_on ?_
    refine callh [(0, 16), (1, 32)] e1 ?_ ?_
    · ((repeat' constructor) <;> (first | refine hold ?_ | rfl) <;> first | with_reducible rfl | (congr 1 <;> omega) | (congr 1 <;> simp; done) | (simp; done) | exact encB_snoc _ _ | skip)
    rfl
  · refine cmp_dec (fun a2 => ?_) (fun a2 => ?_)
    · rw [listenF_J m p tx js a2]
      repeat refine seq_on ?_
      refine callh [(0, 16), (1, 32)] e2 ?_ ?_
      · ((repeat' constructor) <;> (first | refine hold ?_ | rfl) <;> first | with_reducible rfl | (congr 1 <;> omega) | (congr 1 <;> simp; done) | (simp; done) | exact encB_snoc _ _ | skip)
      rfl
    · rw [listenF_N m p tx js a1 a2]
      repeat refine seq_on ?_
      refine call_by (text52n 404 notF (by decide)) ?_
      rfl
end Go.Proofs.YtiokdhklhnhfhaaDoor

namespace Go.Proofs.YtiokdhklhnhfhaaDoor
variable {G : List Go.Eng.Gl}
open Go.Eng
attribute [local irreducible] Hold
set_option maxRecDepth 100000

def etag2 : List (List UInt8) := [[101, 116, 97, 103], [120, 34, 121]]
def recAt (l : List Int) (i : Nat) (ser : Int) : Rec := ⟨serF ser, (nxV l i 40 : Int), 1 + (nxV l (nxt l i) 7 : Int), decide ((nxV l (nxt l (nxt l i)) 2 : Int) = 1), false, [ofF l (nxt l (nxt l (nxt l i))) etag2]⟩
def repWalk (l : List Int) : Nat → Nat → Int → List Rec → Int × List Rec
  | 0, _, ser, rs => (ser, rs)
  | k + 1, i, ser, rs => if i < l.length then repWalk l k (nxt l (nxt l (nxt l (nxt l i)))) (serF ser) (lastF 5 (rs ++ [recAt l i ser])) else (ser, rs)

theorem reports19 (m l : List Int) (hm : l = m.take 60) : Does (CG G) 19 [ints m] [repD 5 (repWalk l l.length 0 0 []).1 (repWalk l l.length 0 0 []).2] := by
  have h0 := cut51 (G := G) m 60
  have hl : l.length ≤ 60 := by rw [hm]; simp; omega
  rw [← hm] at h0
  have hn := new65 (G := G) 5
  generalize hfin : repWalk l l.length 0 0 [] = fin
  refine Does.mk (n := 28) Tryd.func19 rfl rfl rfl (Nat.le_of_ble_eq_true rfl) ?_
  repeat refine seq_on ?_
  refine call_by h0 ?_
  refine call_by hn ?_
  repeat refine seq_on ?_
  apply loop_inv (fun y : Nat × Int × List Rec => y.1 ≤ l.length ∧ y.2.2.length ≤ 5 ∧ (0 ≤ y.2.1 ∧ y.2.1 ≤ 1000000000) ∧ ∃ k, l.length ≤ k + y.1 ∧ repWalk l k y.1 y.2.1 y.2.2 = fin) (fun y => ⟨[(2, .op 18 0 0), (3, .op 16 0 0), (4, .op 17 0 0)], [(16, some (.box [.d (ints l), .d (.i .i64 (y.1 : Int))])), (17, some (.box [.d (.i .i64 5), .d (.i .i64 y.2.1), .d (recs y.2.2)])), (18, some (.box [.d (.i .i64 0), .d (.i .i64 0), .nl 6]))], 2⟩) (fun y => l.length - y.1) (0, 0, []) ⟨Nat.zero_le _, by simp, by decide, l.length, by simp, hfin⟩ [(16, _), (17, _), (18, _)]
  · ((repeat' constructor) <;> (first | refine hold ?_ | rfl) <;> first | with_reducible rfl | (congr 1 <;> omega) | (congr 1 <;> simp; done) | (simp; done) | exact encB_snoc _ _ | skip)
  · rintro ⟨i, ser, rs⟩ ⟨h1, h2, h3, k, h4, h5⟩
    simp only at h1 h2 h3 h4 h5
    have hlf := left66 (G := G) l i
    repeat refine seq_on ?_
    by_cases hi : i < l.length
    · rw [decide_eq_true (by omega)] at hlf
      refine callh [(0, 16)] hlf ?_ ?_
      · ((repeat' constructor) <;> (first | refine hold ?_ | rfl) <;> first | with_reducible rfl | (congr 1 <;> omega) | (congr 1 <;> simp; done) | (simp; done) | exact encB_snoc _ _ | skip)
      repeat refine seq_on ?_
      obtain ⟨k, rfl⟩ : ∃ q, k = q + 1 := ⟨k - 1, by omega⟩
      rw [repWalk, if_pos hi] at h5
      have n1 := nxt_le' h1
      have n2 := nxt_le' n1.2
      have n3 := nxt_le' n2.2
      have n4 := nxt_le' n3.2
      have e1 : nxt l i = i + 1 := by unfold nxt; rw [if_pos hi]
      have c1 := nextV (G := G) l i 40 h1 (by omega) (by decide)
      have c2 := nextV (G := G) l (nxt l i) 7 n1.2 (by omega) (by decide)
      have c3 := nextV (G := G) l (nxt l (nxt l i)) 2 n2.2 (by omega) (by decide)
      have c4 := ofV (G := G) l (nxt l (nxt l (nxt l i))) etag2 n3.2 (by omega) (by decide)
      have b2 := nxV_lt l (nxt l i) 7 (by decide)
      have c5 := add43 (G := G) 5 ser (nxV l i 40 : Int) (1 + (nxV l (nxt l i) 7 : Int)) (decide ((nxV l (nxt l (nxt l i)) 2 : Int) = 1)) false [ofF l (nxt l (nxt l (nxt l i))) etag2] rs (by omega) (by decide) ⟨by omega, by omega⟩
      refine callh [(0, 16)] c1 ?_ ?_
      · simp only [srcB]
        ((repeat' constructor) <;> (first | refine hold ?_ | rfl) <;> first | with_reducible rfl | (congr 1 <;> omega) | (congr 1 <;> simp; done) | (simp; done) | exact encB_snoc _ _ | skip)
      refine callh [(0, 16)] c2 ?_ ?_
      · simp only [srcB]
        ((repeat' constructor) <;> (first | refine hold ?_ | rfl) <;> first | with_reducible rfl | (congr 1 <;> omega) | (congr 1 <;> simp; done) | (simp; done) | exact encB_snoc _ _ | skip)
      refine ar ⟨by omega, by omega⟩ ?_
      refine callh [(0, 16)] c3 ?_ ?_
      · simp only [srcB]
        ((repeat' constructor) <;> (first | refine hold ?_ | rfl) <;> first | with_reducible rfl | (congr 1 <;> omega) | (congr 1 <;> simp; done) | (simp; done) | exact encB_snoc _ _ | skip)
      refine cmp_keep ?_
      refine callh [(0, 16)] c4 ?_ ?_
      · simp only [srcB]
        ((repeat' constructor) <;> (first | refine hold ?_ | rfl) <;> first | with_reducible rfl | (congr 1 <;> omega) | (congr 1 <;> simp; done) | (simp; done) | exact encB_snoc _ _ | skip)
      refine call_by c5 ?_
      (refine ⟨draw_ok (by kernel_rfl), ?_⟩; repeat refine seq_on ?_)
      have hs : 0 ≤ serF ser ∧ serF ser ≤ 1000000000 := by unfold serF; split <;> omega
      apply again (nxt l (nxt l (nxt l (nxt l i))), serF ser, lastF 5 (rs ++ [recAt l i ser])) [(16, _), (17, _), (18, _)] ⟨n4.2, by unfold lastF; simp; omega, hs, k, by simp only; omega, h5⟩ (by simp only; omega)
      simp only [recAt]
      ((repeat' constructor) <;> (first | refine hold ?_ | rfl) <;> first | with_reducible rfl | (congr 1 <;> omega) | (congr 1 <;> simp; done) | (simp; done) | exact encB_snoc _ _ | skip)
    · have hf : (ser, rs) = fin := by
        rw [← h5]
        cases k with
        | zero => rfl
        | succ k => rw [repWalk, if_neg hi]
      subst hf
      rw [decide_eq_false (by omega)] at hlf
      simp only [srcB] at hlf
      refine callh [(0, 16)] hlf ?_ ?_
      · ((repeat' constructor) <;> (first | refine hold ?_ | rfl) <;> first | with_reducible rfl | (congr 1 <;> omega) | (congr 1 <;> simp; done) | (simp; done) | exact encB_snoc _ _ | skip)
      rfl
end Go.Proofs.YtiokdhklhnhfhaaDoor

namespace Go.Proofs.YtiokdhklhnhfhaaDoor
variable {G : List Go.Eng.Gl}
open Go.Eng
attribute [local irreducible] Hold
set_option maxRecDepth 100000

structure Texts (G : List Gl) (cap ser : Int) (l : List Rec) : Prop where
  t1 : Does (CR G) 54 [repD cap ser l] [.s (textF l)]
  t2 : Does (CR G) 65 [repD cap ser l] [.s (textF l)]
  t3 : Does (CR G) 55 [repD cap ser l] [.s (jsonF l)]
  t4 : Does (CR G) 66 [repD cap ser l] [.s (jsonF l)]
  l1 : (textF l).length ≤ 4611686018427387904
  l2 : (jsonF l).length ≤ 4611686018427387904
theorem texts_of (cap ser : Int) (l : List Rec) (hg : ∀ y, y ∈ l → Fits y) (hl : l.length ≤ 121) : Texts G cap ser l := by
  have h4 := text_len l hg
  have h5 := objs_len l hg
  have ho : ∀ y, y ∈ l → RecOk y ∧ JsOk y := fun y hy => ⟨recOk_of y (hg y hy), jsOk_of y (hg y hy)⟩
  refine ⟨text46 cap ser l (by omega) (fun y hy => (ho y hy).1) (by omega), text47 cap ser l (by omega) (fun y hy => (ho y hy).1) (by omega), json48 cap ser l (by omega) ho (by omega), json49 cap ser l (by omega) ho (by omega), by omega, ?_⟩
  simp only [jsonF, arrF, List.length_append, List.length_cons, List.length_nil]; omega

theorem repWalk_fits (l : List Int) : ∀ (k i : Nat) (ser : Int) (rs : List Rec), (0 ≤ ser ∧ ser ≤ 1000000000) → (∀ y, y ∈ rs → Fits y) → rs.length ≤ 5 → (∀ y, y ∈ (repWalk l k i ser rs).2 → Fits y) ∧ (repWalk l k i ser rs).2.length ≤ 5
  | 0, i, ser, rs, _, h2, h3 => ⟨h2, h3⟩
  | k + 1, i, ser, rs, h1, h2, h3 => by
    rw [repWalk]
    split
    · have hs : 0 ≤ serF ser ∧ serF ser ≤ 1000000000 := by unfold serF; split <;> omega
      refine repWalk_fits l k _ _ _ hs (fun y hy => ?_) (by unfold lastF; simp; omega)
      have := lastF_mem _ _ _ hy
      rcases List.mem_append.1 this with hy | hy
      · exact h2 y hy
      · simp at hy; subst hy
        have b1 := nxV_lt l i 40 (by decide)
        have b2 := nxV_lt l (nxt l i) 7 (by decide)
        have b4 := ofF_mem l (nxt l (nxt l (nxt l i))) etag2 (by decide)
        refine ⟨⟨by simp only [recAt]; omega, by simp only [recAt]; omega⟩, ⟨by simp only [recAt]; omega, by simp only [recAt]; omega⟩, ⟨by simp only [recAt]; omega, by simp only [recAt]; omega⟩, ?_⟩
        simp only [recAt, sumL, List.map_cons, List.map_nil, List.sum_cons, List.sum_nil]
        generalize ofF l (nxt l (nxt l (nxt l i))) etag2 = z at b4
        simp only [etag2, List.mem_cons, List.not_mem_nil, or_false] at b4
        rcases b4 with rfl | rfl <;> decide
    · exact ⟨h2, h3⟩

def js0 : List UInt8 := [91, 93, 10]
theorem awake21 : Does (CR G) 21 [] [.b true] := by
  obtain ⟨t1, t2, t3, t4, _, _⟩ := texts_of (G := G) 0 0 [] (by simp) (by simp)
  have e1 : textF [] = [] := rfl
  have e2 : jsonF [] = js0 := by decide
  rw [e1] at t1
  rw [e2] at t3
  have h1 := handle18 (G := G) getM [47, 114, 101, 112, 111, 114, 116, 115, 46, 106, 115, 111, 110, 63, 120] [] js0 0 [] [] false 0 0 [] (by decide) (by decide) (by decide) t1 t3
  have h2 := handle18 (G := G) [80, 79, 83, 84] reportsP [] js0 0 [] [] false 0 0 [] (by decide) (by decide) (by decide) t1 t3
  rw [listenF_J _ _ _ _ (by decide), gotD_ok (by decide), if_neg (by decide)] at h1
  rw [listenF_P _ _ _ _ (by decide), gotD_bad (by decide)] at h2
  unfold replyD at h1 h2
  refine Does.mk (n := 23) Tryd.func21 rfl rfl rfl (Nat.le_of_ble_eq_true rfl) ?_
  repeat refine seq_on ?_
  refine call_by h1 ?_
  refine call_by h2 ?_
  refine cmp_yes (by decide) ?_
  refine bytes_is js0 rfl ?_
  refine cmp_yes (by decide) ?_
  refine cmp_yes (by decide) ?_
  ((try refine And.intro (draw_ok (by kernel_rfl)) ?_); repeat refine seq_on ?_)
  rfl

def meths : List (List UInt8) := [getM, headM, [80, 79, 83, 84], [103, 101, 116]]
def targs : List (List UInt8) := [reportsP, reportsJ, [47, 114, 101, 112, 111, 114, 116, 115, 63, 97], [47, 114, 101, 112, 111, 114, 116, 115, 47], [47]]
theorem listenF_ok (m p tx js : List UInt8) : ∃ code fs body, listenF m p tx js = replyD code fs body ∧ fs.length = 2 := by
  unfold listenF
  simp only
  repeat' split
  all_goals exact ⟨_, _, _, rfl, rfl⟩
theorem lawLisHandle (m : List Int) (q p : List UInt8) (mi : Int) (fl : List Fld) (fr : Bool) (bo : List UInt8) (a b : Int) (wild : Bool) (hp : p.length ≤ 9223372036854775807) :
    Does (CR G) 3 [ints m, .agg [.s q, .s p, .i .i64 mi, .sl 2 (fl.map fldD), .b fr, .sl 1 (encB bo)], .i .i64 a, .i .i64 b, .b wild] [.b true] := by
  have hr := reports19 (G := gR G) m (m.take 60) rfl
  obtain ⟨hf1, hf2⟩ := repWalk_fits (m.take 60) (m.take 60).length 0 0 [] (by decide) (by simp) (by simp)
  generalize repWalk (m.take 60) (m.take 60).length 0 0 [] = w at hr hf1 hf2
  obtain ⟨ser, l⟩ := w
  simp only at hr hf1 hf2
  obtain ⟨t1, t2, t3, t4, u1, u2⟩ := texts_of (G := G) 5 ser l hf1 (by omega)
  have haw := awake21 (G := G)
  have ha := withinV (G := gR G) a 4 (by decide)
  have hb := withinV (G := gR G) b 5 (by decide)
  have ha' := wiV_lt a 4 (by decide)
  have hb' := wiV_lt b 5 (by decide)
  generalize wiV a 4 = i at ha ha'
  generalize wiV b 5 = j at hb hb'
  have hi : i < meths.length := by have : meths.length = 4 := rfl
                                   omega
  have hj : j < targs.length := by have : targs.length = 5 := rfl
                                   omega
  have hgi : (meths.map D.s)[i]? = some (.s meths[i]) := by simp [hi]
  have hgj : (targs.map D.s)[j]? = some (.s targs[j]) := by simp [hj]
  have htl : targs[j].length ≤ 9223372036854775807 := by
    have : ∀ x, x ∈ targs → x.length ≤ 20 := by decide
    have := this _ (List.getElem_mem hj)
    omega
  generalize meths[i] = mm at hgi
  generalize targs[j] = tt at hgj htl
  cases wild
  · obtain ⟨code, fs, body, he, hfs⟩ := listenF_ok mm tt (textF l) (jsonF l)
    have h1 := handle18 (G := G) mm tt (textF l) (jsonF l) 0 [] [] false 5 ser l htl u1 u2 t1 t3
    have h2 := listener20 (G := gR G) mm tt (textF l) (jsonF l) 0 [] [] false 5 ser l htl u1 u2 t2 t4
    rw [he] at h1 h2
    have hs := same17 (G := gR G) code fs body (by omega)
    refine Does.mk (n := 37) Tryd.func3 rfl rfl rfl (Nat.le_of_ble_eq_true rfl) ?_
    repeat refine seq_on ?_
    refine call_by ha ?_

    refine idx i rfl hi ?_
    refine at_is hgi ?_
    refine call_by hb ?_
    refine idx j rfl hj ?_
    refine at_is hgj ?_
    ((try refine And.intro (draw_ok (by kernel_rfl)) ?_); repeat refine seq_on ?_)
    refine call_by hr ?_
    refine call_by h1 ?_
    refine call_by hr ?_
    refine call_by h2 ?_
    refine call_by hs ?_
    refine call_by haw ?_
    ((try refine And.intro (draw_ok (by kernel_rfl)) ?_); repeat refine seq_on ?_)
    rfl
  · obtain ⟨code, fs, body, he, hfs⟩ := listenF_ok q p (textF l) (jsonF l)
    have h1 := handle18 (G := G) q p (textF l) (jsonF l) mi (fl.map fldD) (encB bo) fr 5 ser l hp u1 u2 t1 t3
    have h2 := listener20 (G := gR G) q p (textF l) (jsonF l) mi (fl.map fldD) (encB bo) fr 5 ser l hp u1 u2 t2 t4
    rw [he] at h1 h2
    have hs := same17 (G := gR G) code fs body (by omega)
    refine Does.mk (n := 37) Tryd.func3 rfl rfl rfl (Nat.le_of_ble_eq_true rfl) ?_
    repeat refine seq_on ?_
    refine call_by ha ?_
    refine idx i rfl hi ?_
    refine at_is hgi ?_
    refine call_by hb ?_
    refine idx j rfl hj ?_
    refine at_is hgj ?_
    ((try refine And.intro (draw_ok (by kernel_rfl)) ?_); repeat refine seq_on ?_)
    refine call_by hr ?_
    refine call_by h1 ?_
    refine call_by hr ?_
    refine call_by h2 ?_
    refine call_by hs ?_
    refine call_by haw ?_
    ((try refine And.intro (draw_ok (by kernel_rfl)) ?_); repeat refine seq_on ?_)
    rfl

theorem lawLisHead (m : List Int) (b : Bool) : Does (CR G) 4 [ints m, .b b] [.b true] := by
  have hr := reports19 (G := gR G) m (m.take 60) rfl
  obtain ⟨hf1, hf2⟩ := repWalk_fits (m.take 60) (m.take 60).length 0 0 [] (by decide) (by simp) (by simp)
  generalize repWalk (m.take 60) (m.take 60).length 0 0 [] = w at hr hf1 hf2
  obtain ⟨ser, l⟩ := w
  simp only at hr hf1 hf2
  obtain ⟨t1, t2, t3, t4, u1, u2⟩ := texts_of (G := G) 5 ser l hf1 (by omega)
  have haw := awake21 (G := G)
  have hs : ∀ fs : List Fld, fs.length = 2 → Does (CR G) 22 [fldsD fs, fldsD fs] [.b true] := fun fs h => same22 (G := gR G) fs (by omega)
  cases b
  · have h1 := handle18 (G := G) getM reportsP (textF l) (jsonF l) 0 [] [] false 5 ser l (by decide) u1 u2 t1 t3
    have h2 := handle18 (G := G) headM reportsP (textF l) (jsonF l) 0 [] [] false 5 ser l (by decide) u1 u2 t1 t3
    rw [listenF_P _ _ _ _ (by decide), gotD_ok (by decide)] at h1 h2
    rw [if_neg (by decide)] at h1
    rw [if_pos rfl] at h2
    have hs := hs (hdr plainT (textF l)) rfl
    unfold replyD at h1 h2
    refine Does.mk (n := 43) Tryd.func4 rfl rfl rfl (Nat.le_of_ble_eq_true rfl) ?_
    repeat refine seq_on ?_
    refine call_by hr ?_
    refine call_by h1 ?_
    ((try refine And.intro (draw_ok (by kernel_rfl)) ?_); repeat refine seq_on ?_)
    refine call_by hr ?_
    refine call_by h2 ?_
    ((try refine And.intro (draw_ok (by kernel_rfl)) ?_); repeat refine seq_on ?_)
    refine call_by hs ?_
    refine cmp_yes (by decide) ?_
    refine cmp_yes (by decide) ?_
    refine cmp_yes (by decide) ?_
    refine call_by haw ?_
    ((try refine And.intro (draw_ok (by kernel_rfl)) ?_); repeat refine seq_on ?_)
    rfl
  · have h1 := handle18 (G := G) getM reportsJ (textF l) (jsonF l) 0 [] [] false 5 ser l (by decide) u1 u2 t1 t3
    have h2 := handle18 (G := G) headM reportsJ (textF l) (jsonF l) 0 [] [] false 5 ser l (by decide) u1 u2 t1 t3
    rw [listenF_J _ _ _ _ (by decide), gotD_ok (by decide)] at h1 h2
    rw [if_neg (by decide)] at h1
    rw [if_pos rfl] at h2
    have hs := hs (hdr jsonT (jsonF l)) rfl
    unfold replyD at h1 h2
    refine Does.mk (n := 43) Tryd.func4 rfl rfl rfl (Nat.le_of_ble_eq_true rfl) ?_
    repeat refine seq_on ?_
    refine call_by hr ?_
    refine call_by h1 ?_
    ((try refine And.intro (draw_ok (by kernel_rfl)) ?_); repeat refine seq_on ?_)
    refine call_by hr ?_
    refine call_by h2 ?_
    ((try refine And.intro (draw_ok (by kernel_rfl)) ?_); repeat refine seq_on ?_)
    refine call_by hs ?_
    refine cmp_yes (by decide) ?_
    refine cmp_yes (by decide) ?_
    refine cmp_yes (by decide) ?_
    refine call_by haw ?_
    ((try refine And.intro (draw_ok (by kernel_rfl)) ?_); repeat refine seq_on ?_)
    rfl
end Go.Proofs.YtiokdhklhnhfhaaDoor

