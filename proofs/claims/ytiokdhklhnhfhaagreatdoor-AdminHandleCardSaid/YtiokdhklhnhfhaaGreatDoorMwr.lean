import Derived.Test.YtiokdhklhnhfhaaGreatDoorMe
import Derived.Test.YtiokdhklhnhfhaaGreatDoorMn
import Derived.Laws.StructEq
import Derived.WalkKit
import Derived.Test.YtiokdhklhnhfhaaGreatDoorMi
import Derived.Test.YtiokdhklhnhfhaaGreatDoorMl
namespace Go.Proofs.YtiokdhklhnhfhaaGreatDoor
variable {G : List Go.Eng.Gl}
open Go.Eng
attribute [local irreducible] Hold
set_option maxRecDepth 100000

theorem split50 (l : List UInt8) (h : l.length ≤ 9223372036854775807) : Does (CG G) 47 [.s l] [.s (cutF 63 l).1, .s (cutF 63 l).2.1] := by
  refine Does.mk (n := 15) Tryz.func47 rfl rfl rfl (Nat.le_of_ble_eq_true rfl) ?_
  refine call_by (cutS l 63 h) ?_
  rfl
theorem split62 (l : List UInt8) (h : l.length ≤ 9223372036854775807) : Does (CG G) 52 [.s l] [.s (cutF 63 l).1, .s (cutF 63 l).2.1] := by
  refine Does.mk (n := 23) Tryz.func52 rfl rfl rfl (Nat.le_of_ble_eq_true rfl) ?_
  repeat refine seq_on ?_
  apply loop_inv (fun i : Nat => i ≤ l.length ∧ 63 ∉ l.take i) (fun i => ⟨[(0, .d (.s l)), (4, .d (.i .i64 (i : Int)))], [], 2⟩) (fun i => l.length - i) 0 ⟨Nat.zero_le _, by simp⟩ []
  · ((repeat' constructor) <;> (first | refine hold ?_ | rfl) <;> first | with_reducible rfl | (congr 1 <;> omega) | (congr 1 <;> simp; done) | (simp; done) | exact encB_snoc _ _ | skip)
  · rintro i ⟨hi, hn⟩
    repeat refine seq_on ?_
    refine cmp_dec (fun h1 => ?_) (fun h1 => ?_)
    · have hi' : i < l.length := by omega
      repeat refine seq_on ?_
      refine Eng.get_at i rfl (x := l[i]) (by simp [hi']) ?_
      refine cmp_dec (fun h2 => ?_) (fun h2 => ?_)
      · have hc : l[i] = 63 := UInt8.toNat_inj.1 (by have h2 : ((l[i].toNat : Nat) : Int) = 63 := h2; show l[i].toNat = 63; omega)
        have hid : idxO 63 l = some i := idxO_at (by simp [hi', hc]) hn
        have hcf : cutF 63 l = (l.take i, l.drop (i + 1), true) := by unfold cutF; rw [hid]
        repeat refine seq_on ?_
        refine bnd i rfl (by omega) ?_
        refine ar ⟨by omega, by omega⟩ ?_
        refine bnd (i + 1) (by omega) (by omega) ?_
        (refine ⟨draw_ok (by kernel_rfl), ?_⟩; repeat refine seq_on ?_)
        rw [hcf]
        rfl
      · have hc : l[i] ≠ 63 := fun e => h2 (by rw [e]; rfl)
        repeat refine seq_on ?_
        refine ar ⟨by omega, by omega⟩ ?_
        apply again (i + 1) [] ⟨by omega, by
          rw [List.take_succ_eq_append_getElem hi']
          intro hm
          rcases List.mem_append.1 hm with hm | hm
          · exact hn hm
          · simp at hm; exact hc hm.symm⟩ (by omega)
        ((repeat' constructor) <;> (first | refine hold ?_ | rfl) <;> first | with_reducible rfl | (congr 1 <;> omega) | (congr 1 <;> simp; done) | (simp; done) | exact encB_snoc _ _ | skip)
    · have hid : idxO 63 l = none := idxO_mem.2 (by rw [← List.take_of_length_le (show l.length ≤ i by omega)]; exact hn)
      have hcf : cutF 63 l = (l, [], false) := by unfold cutF; rw [hid]
      repeat refine seq_on ?_
      rw [hcf]
      rfl

theorem with100 (a b : List D) (h : a.length + b.length ≤ 68719476736) : Does (CG G) 94 [.sl 2 a, .sl 2 b] [.sl 2 (a ++ b)] := by
  have hc := concatF (G := G) [a, b] (by simp; omega) (by simp)
  have hf : [a, b].flatten = a ++ b := by simp
  rw [hf] at hc
  refine Does.mk (n := 9) Tryz.func94 rfl rfl rfl (Nat.le_of_ble_eq_true rfl) ?_
  refine call_alt (callh [] hc ?_ ?_)
  · ((repeat' constructor) <;> (first | refine hold ?_ | rfl) <;> first | with_reducible rfl | (congr 1 <;> omega) | (congr 1 <;> simp; done) | (simp; done) | exact encB_snoc _ _ | skip)
  rfl

def reasonG (n : Int) : List (Int × List UInt8) → List UInt8
  | [] => [69, 114, 114, 111, 114]
  | x :: r => if x.1 = n then x.2 else reasonG n r
def reasonF (n : Int) : List UInt8 := reasonG n reasonsT

theorem reason99 (n : Int) : Does (CR G) 93 [.i .i64 n] [.s (reasonF n)] := by
  have hlen : reasonsT.length = 12 := rfl
  have hall : ∀ x, x ∈ reasonsT.map rec2 → x.cells.length = 2 := by
    intro x hx
    obtain ⟨y, _, rfl⟩ := List.mem_map.1 hx
    rfl
  refine Does.mk (n := 16) Tryz.func93 rfl rfl rfl (Nat.le_of_ble_eq_true rfl) ?_
  repeat refine seq_on ?_
  apply loop_inv (fun i : Nat => i ≤ 12 ∧ reasonG n (reasonsT.drop i) = reasonF n) (fun i => ⟨[(0, .d (.i .i64 n)), (5, .d (.agg ((reasonsT.map rec2).flatMap D.cells))), (6, .d (.i .i64 (i : Int)))], [], 2⟩) (fun i => 12 - i) 0 ⟨by omega, rfl⟩ []
  · ((repeat' constructor) <;> (first | refine hold ?_ | rfl) <;> first | with_reducible rfl | (congr 1 <;> omega) | (congr 1 <;> simp; done) | (simp; done) | exact encB_snoc _ _ | skip)
  · rintro i ⟨hi, hr⟩
    repeat refine seq_on ?_
    refine cmp_dec (fun h => ?_) (fun h => ?_)
    · have hi' : i < reasonsT.length := by omega
      rw [List.drop_eq_getElem_cons hi', reasonG] at hr
      repeat refine seq_on ?_
      refine arr_row i rfl (by omega) hall (r := [.i .i64 reasonsT[i].1, .s reasonsT[i].2]) (by simp [hi', rec2]) ?_
      repeat refine seq_on ?_
      refine cmp_dec (fun h2 => ?_) (fun h2 => ?_)
      · rw [if_pos h2] at hr
        repeat refine seq_on ?_
        rw [← hr]
        rfl
      · rw [if_neg h2] at hr
        repeat refine seq_on ?_
        refine ar ⟨by omega, by omega⟩ ?_
        apply again (i + 1) [] ⟨by omega, hr⟩ (by omega)
        ((repeat' constructor) <;> (first | refine hold ?_ | rfl) <;> first | with_reducible rfl | (congr 1 <;> omega) | (congr 1 <;> simp; done) | (simp; done) | exact encB_snoc _ _ | skip)
    · have : i = 12 := by omega
      subst this
      repeat refine seq_on ?_
      rw [← hr]
      rfl
theorem reason153 (n : Int) : Does (CG G) 137 [.i .i64 n] [.s (reasonF n)] := by
  have e : reasonF n = if n = 200 then [79, 75] else if n = 400 then [66, 97, 100, 32, 82, 101, 113, 117, 101, 115, 116] else if n = 404 then [78, 111, 116, 32, 70, 111, 117, 110, 100] else if n = 405 then [77, 101, 116, 104, 111, 100, 32, 78, 111, 116, 32, 65, 108, 108, 111, 119, 101, 100] else if n = 408 then [82, 101, 113, 117, 101, 115, 116, 32, 84, 105, 109, 101, 111, 117, 116] else if n = 409 then [67, 111, 110, 102, 108, 105, 99, 116] else if n = 413 then [67, 111, 110, 116, 101, 110, 116, 32, 84, 111, 111, 32, 76, 97, 114, 103, 101] else if n = 431 then [82, 101, 113, 117, 101, 115, 116, 32, 72, 101, 97, 100, 101, 114, 32, 70, 105, 101, 108, 100, 115, 32, 84, 111, 111, 32, 76, 97, 114, 103, 101] else if n = 502 then [66, 97, 100, 32, 71, 97, 116, 101, 119, 97, 121] else if n = 503 then [83, 101, 114, 118, 105, 99, 101, 32, 85, 110, 97, 118, 97, 105, 108, 97, 98, 108, 101] else if n = 504 then [71, 97, 116, 101, 119, 97, 121, 32, 84, 105, 109, 101, 111, 117, 116] else if n = 505 then [72, 84, 84, 80, 32, 86, 101, 114, 115, 105, 111, 110, 32, 78, 111, 116, 32, 83, 117, 112, 112, 111, 114, 116, 101, 100] else [69, 114, 114, 111, 114] := by
    unfold reasonF reasonsT
    simp only [reasonG, eq_comm]
  refine Does.mk (n := 28) Tryz.func137 rfl rfl rfl (Nat.le_of_ble_eq_true rfl) ?_
  rw [e]
  repeat refine seq_on ?_
  refine cmp_dec (fun h => ?_) (fun h => ?_)
  · repeat refine seq_on ?_
    rw [if_pos h]; rfl
  rw [if_neg h]
  iterate 10
    repeat refine seq_on ?_
    refine cmp_dec (fun h => ?_) (fun h => ?_)
    · repeat refine seq_on ?_
      rw [if_pos h]; rfl
    rw [if_neg h]
  repeat refine seq_on ?_
  refine cmp_dec (fun h => ?_) (fun h => ?_)
  · repeat refine seq_on ?_
    rw [if_pos h]; rfl
  repeat refine seq_on ?_
  rw [if_neg h]; rfl
end Go.Proofs.YtiokdhklhnhfhaaGreatDoor

namespace Go.Proofs.YtiokdhklhnhfhaaGreatDoor
variable {G : List Go.Eng.Gl}
open Go.Eng
attribute [local irreducible] Hold
set_option maxRecDepth 100000

theorem rd_nil {w : World} {X : Nat → Prop} {z z' : Nat} {v : Value} (h : Rd w X (.sl z []) v) : Rd w X (.sl z' []) v := by
  cases h with
  | slnil => exact .slnil z'
  | sle _ a => exact .sle z' a _
  | sl _ _ blk off len cap arr T fz f hh hX hl hc hw h1 h2 =>
    refine .sl z' [] blk off len cap arr T fz f hh hX hl hc ?_ ?_ ?_ <;> intro j <;> simp
theorem Does.conv {f : FuncId} {ds ds' rs : List D} (h : Does (CG G) f ds rs) (hl : ds'.length = ds.length) (hc : ∀ (j : Nat) (d' : D), ds'[j]? = some d' → ∃ d, ds[j]? = some d ∧ ∀ (w : World) (X : Nat → Prop) (v : Value), Rd w X d' v → Rd w X d v) : Does (CG G) f ds' rs := by
  refine ⟨h.1, fun w X vs hX hG hlen hr => h.2 w X vs hX hG (by omega) fun j d v hd hv => ?_⟩
  have hj : j < ds'.length := by rw [hl]; exact (List.getElem?_eq_some_iff.1 hd).1
  obtain ⟨d2, h2, h3⟩ := hc j ds'[j] (by simp [hj])
  rw [hd] at h2; cases h2
  exact h3 w X v (hr j _ v (by simp [hj]) hv)

def ctName : List UInt8 := [67, 111, 110, 116, 101, 110, 116, 45, 84, 121, 112, 101]
def clName : List UInt8 := [67, 111, 110, 116, 101, 110, 116, 45, 76, 101, 110, 103, 116, 104]
def hdr (ct body : List UInt8) : List Fld := [(ctName, ct), (clName, printF 10 (body.length : Int))]
def fldsD (fs : List Fld) : D := .sl 2 (fs.map fldD)
def replyD (code : Int) (fs : List Fld) (body : List UInt8) : D := .agg [.i .i64 code, .s (reasonF code), .i .i64 1, fldsD fs, .sl 1 (encB body)]

theorem make53 (code : Int) (ct body : List UInt8) (ex : List Fld) (hb : body.length ≤ 4611686018427387904) (he : ex.length ≤ 1000000) : Does (CR G) 49 [.i .i64 code, .s ct, .s body, fldsD ex] [replyD code (hdr ct body ++ ex) body] := by
  have h1 := dec16 (G := glReasons :: G) (body.length : Int) ⟨by omega, by omega⟩
  have h2 := reason99 (G := G) code
  have h3 := with100 (G := gR G) ((hdr ct body).map fldD) (ex.map fldD) (by simp [hdr]; omega)
  rw [← List.map_append] at h3
  refine Does.mk (n := 26) Tryz.func49 rfl rfl rfl (Nat.le_of_ble_eq_true rfl) ?_
  repeat refine seq_on ?_
  refine call_by h1 ?_
  refine call_by h2 ?_
  refine call_by h3 ?_
  rfl
theorem make106 (code : Int) (ct body : List UInt8) (ex : List Fld) (hb : body.length ≤ 4611686018427387904) (he : ex.length ≤ 1000000) : Does (CG G) 97 [.i .i64 code, .s ct, .s body, fldsD ex] [replyD code (hdr ct body ++ ex) body] := by
  have h1 := dec18 (G := G) (body.length : Int) ⟨by omega, by omega⟩
  have h2 := reason153 (G := G) code
  refine Does.mk (n := 26) Tryz.func97 rfl rfl rfl (Nat.le_of_ble_eq_true rfl) ?_
  repeat refine seq_on ?_
  refine call_by h1 ?_
  refine call_by h2 ?_
  refine app_ok (by simp; omega) ?_
  unfold replyD fldsD
  rw [List.map_append]
  rfl
def plainT : List UInt8 := [116, 101, 120, 116, 47, 112, 108, 97, 105, 110]
def jsonT : List UInt8 := [97, 112, 112, 108, 105, 99, 97, 116, 105, 111, 110, 47, 106, 115, 111, 110]
theorem text52 (code : Int) (body : List UInt8) (ex : List Fld) (hb : body.length ≤ 4611686018427387904) (he : ex.length ≤ 1000000) : Does (CR G) 51 [.i .i64 code, .s body, fldsD ex] [replyD code (hdr plainT body ++ ex) body] := by
  refine Does.mk (n := 11) Tryz.func51 rfl rfl rfl (Nat.le_of_ble_eq_true rfl) ?_
  refine call_by (make53 code plainT body ex hb he) ?_
  rfl
theorem text63 (code : Int) (body : List UInt8) (ex : List Fld) (hb : body.length ≤ 4611686018427387904) (he : ex.length ≤ 1000000) : Does (CG G) 56 [.i .i64 code, .s body, fldsD ex] [replyD code (hdr plainT body ++ ex) body] := by
  refine Does.mk (n := 11) Tryz.func56 rfl rfl rfl (Nat.le_of_ble_eq_true rfl) ?_
  refine call_by (make106 code plainT body ex hb he) ?_
  rfl
/-- With nil for the further fields. -/
theorem make53n (code : Int) (ct body : List UInt8) (hb : body.length ≤ 4611686018427387904) : Does (CR G) 49 [.i .i64 code, .s ct, .s body, .sl 1 []] [replyD code (hdr ct body) body] := by
  have h := make53 (G := G) code ct body [] hb (by simp)
  rw [List.append_nil] at h
  refine Does.conv h rfl fun j d' hd => ?_
  match j with
  | 0 => exact ⟨d', hd, fun _ _ _ h => h⟩
  | 1 => exact ⟨d', hd, fun _ _ _ h => h⟩
  | 2 => exact ⟨d', hd, fun _ _ _ h => h⟩
  | 3 => cases hd; exact ⟨_, rfl, fun _ _ _ h => rd_nil h⟩
theorem make106n (code : Int) (ct body : List UInt8) (hb : body.length ≤ 4611686018427387904) : Does (CG G) 97 [.i .i64 code, .s ct, .s body, .sl 1 []] [replyD code (hdr ct body) body] := by
  have h := make106 (G := G) code ct body [] hb (by simp)
  rw [List.append_nil] at h
  refine Does.conv h rfl fun j d' hd => ?_
  match j with
  | 0 => exact ⟨d', hd, fun _ _ _ h => h⟩
  | 1 => exact ⟨d', hd, fun _ _ _ h => h⟩
  | 2 => exact ⟨d', hd, fun _ _ _ h => h⟩
  | 3 => cases hd; exact ⟨_, rfl, fun _ _ _ h => rd_nil h⟩
theorem text52n (code : Int) (body : List UInt8) (hb : body.length ≤ 4611686018427387904) : Does (CR G) 51 [.i .i64 code, .s body, .sl 1 []] [replyD code (hdr plainT body) body] := by
  have h := text52 (G := G) code body [] hb (by simp)
  rw [List.append_nil] at h
  refine Does.conv h rfl fun j d' hd => ?_
  match j with
  | 0 => exact ⟨d', hd, fun _ _ _ h => h⟩
  | 1 => exact ⟨d', hd, fun _ _ _ h => h⟩
  | 2 => cases hd; exact ⟨_, rfl, fun _ _ _ h => rd_nil h⟩
theorem text63n (code : Int) (body : List UInt8) (hb : body.length ≤ 4611686018427387904) : Does (CG G) 56 [.i .i64 code, .s body, .sl 1 []] [replyD code (hdr plainT body) body] := by
  have h := text63 (G := G) code body [] hb (by simp)
  rw [List.append_nil] at h
  refine Does.conv h rfl fun j d' hd => ?_
  match j with
  | 0 => exact ⟨d', hd, fun _ _ _ h => h⟩
  | 1 => exact ⟨d', hd, fun _ _ _ h => h⟩
  | 2 => cases hd; exact ⟨_, rfl, fun _ _ _ h => rd_nil h⟩
end Go.Proofs.YtiokdhklhnhfhaaGreatDoor

namespace Go.Proofs.YtiokdhklhnhfhaaGreatDoor
variable {G : List Go.Eng.Gl}
open Go.Eng
attribute [local irreducible] Hold
set_option maxRecDepth 100000

theorem rd_fld {w : World} {X : Nat → Prop} {f : Fld} {v : Value} (h : Rd w X (fldD f) v) : v = .agg #[.string ⟨f.1.toArray⟩, .string ⟨f.2.toArray⟩] := by
  unfold fldD at h
  cases h with
  | agg _ vs hl hr =>
    obtain ⟨l⟩ := vs
    match l, hl, hr with
    | [a, b], _, hr =>
      rw [(hr 0 _ a rfl rfl).sinv, (hr 1 _ b rfl rfl).sinv]

theorem eqFld (f : Fld) : EqTy Tryz.prog 75 (fldD f) (fldD f) true := by
  refine ⟨by kernel_rfl, fun w X va vb ha hb => ?_⟩
  rw [rd_fld ha, rd_fld hb]
  have hS : Tryz.prog.underlying 75 = some (.struct (Tryz.prog.fieldsOf 75)) := by kernel_rfl
  have hp : Tryz.prog.stoodInHeld 75 = false := by kernel_rfl
  have u9 := Tryz.underlying9
  have a9 := Tryz.isAgg9
  have z9 := Tryz.sizeOf9
  show (Op.equalIn (9999 + 1) 75 _ _).run Tryz.prog w = _
  rw [run_equalIn_agg w 9999 75 _ _ hS hp]
  simp only [Program.fieldsOf, Tryz.underlying75]
  go_simp

theorem same22 (fs : List Fld) (h : fs.length ≤ 9223372036854775807) : Does (CG G) 23 [fldsD fs, fldsD fs] [.b true] := by
  have hl : (fs.map fldD).length = fs.length := by simp
  refine Does.mk (n := 26) Tryz.func23 rfl rfl rfl (Nat.le_of_ble_eq_true rfl) ?_
  unfold fldsD
  repeat refine seq_on ?_
  refine cmp_no (by simp) ?_
  repeat refine seq_on ?_
  apply loop_inv (fun i : Nat => i ≤ fs.length) (fun i => ⟨[(0, .d (.sl 2 (fs.map fldD))), (1, .d (.sl 2 (fs.map fldD))), (5, .d (.i .i64 (i : Int)))], [], 2⟩) (fun i => fs.length - i) 0 (by omega) []
  · ((repeat' constructor) <;> (first | refine hold ?_ | rfl) <;> first | with_reducible rfl | (congr 1 <;> omega) | (congr 1 <;> simp; done) | (simp; done) | exact encB_snoc _ _ | skip)
  · intro i hi
    repeat refine seq_on ?_
    refine cmp_dec (fun h1 => ?_) (fun h1 => ?_)
    · rw [hl] at h1
      have hi' : i < fs.length := by omega
      repeat refine seq_on ?_
      refine Eng.get_at i rfl (x := fldD fs[i]) (by simp [hi']) ?_
      refine Eng.get_at i rfl (x := fldD fs[i]) (by simp [hi']) ?_
      refine eq_agg (eqFld _) (cmp_is true rfl ?_)
      (refine ⟨draw_ok (by kernel_rfl), ?_⟩; repeat refine seq_on ?_)
      refine ar ⟨by omega, by omega⟩ ?_
      apply again (i + 1) [] (by omega) (by omega)
      ((repeat' constructor) <;> (first | refine hold ?_ | rfl) <;> first | with_reducible rfl | (congr 1 <;> omega) | (congr 1 <;> simp; done) | (simp; done) | exact encB_snoc _ _ | skip)
    · repeat refine seq_on ?_
      rfl
theorem same17 (code : Int) (fs : List Fld) (body : List UInt8) (h : fs.length ≤ 9223372036854775807) : Does (CG G) 16 [replyD code fs body, replyD code fs body] [.b true] := by
  refine Does.mk (n := 40) Tryz.func16 rfl rfl rfl (Nat.le_of_ble_eq_true rfl) ?_
  unfold replyD
  repeat refine seq_on ?_
  refine cmp_yes rfl ?_
  refine cmp_yes rfl ?_
  refine cmp_yes rfl ?_
  refine call_by (same22 fs h) ?_
  refine bytes_is body rfl ?_
  refine bytes_is body rfl ?_
  refine cmp_yes rfl ?_
  rfl
def headM : List UInt8 := [72, 69, 65, 68]
def getM : List UInt8 := [71, 69, 84]
theorem got64 (m ct body : List UInt8) (hb : body.length ≤ 4611686018427387904) : Does (CG G) 54 [.s m, .s ct, .s body] [replyD 200 (hdr ct body) (if m = headM then [] else body)] := by
  refine Does.mk (n := 15) Tryz.func54 rfl rfl rfl (Nat.le_of_ble_eq_true rfl) ?_
  repeat refine seq_on ?_
  refine call_by (make106n 200 ct body hb) ?_
  unfold replyD
  repeat refine seq_on ?_
  refine cmp_dec (fun h => ?_) (fun h => ?_)
  · repeat refine seq_on ?_
    rw [if_pos (show m = headM from h)]; rfl
  · repeat refine seq_on ?_
    rw [if_neg (show ¬ m = headM from h)]; rfl
end Go.Proofs.YtiokdhklhnhfhaaGreatDoor

namespace Go.Proofs.YtiokdhklhnhfhaaGreatDoor
variable {G : List Go.Eng.Gl}
open Go.Eng
attribute [local irreducible] Hold
set_option maxRecDepth 100000

def reportsP : List UInt8 := [47, 114, 101, 112, 111, 114, 116, 115]
def reportsJ : List UInt8 := [47, 114, 101, 112, 111, 114, 116, 115, 46, 106, 115, 111, 110]
def notF : List UInt8 := [110, 111, 116, 32, 102, 111, 117, 110, 100, 10]
def notA : List UInt8 := [109, 101, 116, 104, 111, 100, 32, 110, 111, 116, 32, 97, 108, 108, 111, 119, 101, 100, 10]
def listenF (m p tx js : List UInt8) : D :=
  let q := (cutF 63 p).1
  if q ≠ reportsP ∧ q ≠ reportsJ then replyD 404 (hdr plainT notF) notF
  else if m ≠ getM ∧ m ≠ headM then replyD 405 (hdr plainT notA) notA
  else if q = reportsP then replyD 200 (hdr plainT tx) (if m = headM then [] else tx) else replyD 200 (hdr jsonT js) (if m = headM then [] else js)

end Go.Proofs.YtiokdhklhnhfhaaGreatDoor

namespace Go.Proofs.YtiokdhklhnhfhaaGreatDoor
variable {G : List Go.Eng.Gl}
open Go.Eng
attribute [local irreducible] Hold
set_option maxRecDepth 100000

def boxR (m p : List UInt8) (mi : Int) (fl bo : List D) (fr : Bool) (cap ser : Int) (l : List Rec) : List (Nat × Option Ent) := [(0, some (.box [.d (.s m), .d (.s p), .d (.i .i64 mi), .d (.sl 2 fl), .d (.b fr), .d (.sl 1 bo)])), (1, some (.box [.d (.i .i64 cap), .d (.i .i64 ser), .d (recs l)]))]
def badM (m : List UInt8) : Prop := m ≠ getM ∧ m ≠ headM
instance (m : List UInt8) : Decidable (badM m) := by unfold badM; infer_instance
def gotD (m ct body : List UInt8) : D := replyD (if badM m then 405 else 200) (if badM m then hdr plainT notA else hdr ct body) (if badM m then notA else if m = headM then [] else body)
theorem gotD_bad {m ct body : List UInt8} (h : badM m) : gotD m ct body = replyD 405 (hdr plainT notA) notA := by unfold gotD; simp only [if_pos h]
theorem gotD_ok {m ct body : List UInt8} (h : ¬ badM m) : gotD m ct body = replyD 200 (hdr ct body) (if m = headM then [] else body) := by unfold gotD; simp only [if_neg h]

theorem listenF_P (m p tx js : List UInt8) (h : (cutF 63 p).1 = reportsP) : listenF m p tx js = gotD m plainT tx := by
  unfold listenF
  simp only
  rw [h, if_neg (fun e => e.1 rfl), if_pos rfl]
  by_cases hb : badM m
  · rw [gotD_bad hb]; exact if_pos hb
  · rw [gotD_ok hb]; exact if_neg hb
theorem listenF_J (m p tx js : List UInt8) (h : (cutF 63 p).1 = reportsJ) : listenF m p tx js = gotD m jsonT js := by
  unfold listenF
  simp only
  rw [h, if_neg (fun e => e.2 rfl), if_neg (show ¬ reportsJ = reportsP by decide)]
  by_cases hb : badM m
  · rw [gotD_bad hb]; exact if_pos hb
  · rw [gotD_ok hb]; exact if_neg hb
theorem listenF_N (m p tx js : List UInt8) (h : (cutF 63 p).1 ≠ reportsP) (h' : (cutF 63 p).1 ≠ reportsJ) : listenF m p tx js = replyD 404 (hdr plainT notF) notF := by
  unfold listenF
  simp only
  rw [if_pos ⟨h, h'⟩]

end Go.Proofs.YtiokdhklhnhfhaaGreatDoor

namespace Go.Proofs.YtiokdhklhnhfhaaGreatDoor
variable {G : List Go.Eng.Gl}
open Go.Eng
attribute [local irreducible] Hold
set_option maxRecDepth 100000

def etag2 : List (List UInt8) := [[101, 116, 97, 103], [120, 34, 121]]
def recAt (l : List Int) (i : Nat) (ser : Int) : Rec := ⟨serF ser, (nxV l i 40 : Int), 1 + (nxV l (nxt l i) 7 : Int), decide ((nxV l (nxt l (nxt l i)) 2 : Int) = 1), false, [ofF l (nxt l (nxt l (nxt l i))) etag2]⟩
def repWalk (l : List Int) : Nat → Nat → Int → List Rec → Int × List Rec
  | 0, _, ser, rs => (ser, rs)
  | k + 1, i, ser, rs => if i < l.length then repWalk l k (nxt l (nxt l (nxt l (nxt l i)))) (serF ser) (lastF 5 (rs ++ [recAt l i ser])) else (ser, rs)

end Go.Proofs.YtiokdhklhnhfhaaGreatDoor

namespace Go.Proofs.YtiokdhklhnhfhaaGreatDoor
variable {G : List Go.Eng.Gl}
open Go.Eng
attribute [local irreducible] Hold
set_option maxRecDepth 100000

theorem repWalk_fits (l : List Int) : ∀ (k i : Nat) (ser : Int) (rs : List Rec), (0 ≤ ser ∧ ser ≤ 1000000000) → (∀ y, y ∈ rs → Fits y) → rs.length ≤ 5 → (∀ y, y ∈ (repWalk l k i ser rs).2 → Fits y) ∧ (repWalk l k i ser rs).2.length ≤ 5
  | 0, i, ser, rs, _, h2, h3 => ⟨h2, h3⟩
  | k + 1, i, ser, rs, h1, h2, h3 => by
    rw [repWalk]
    split
    · have hs : 0 ≤ serF ser ∧ serF ser ≤ 1000000000 := by unfold serF; split <;> omega
      refine repWalk_fits l k _ _ _ hs (fun y hy => ?_) (by unfold lastF; simp; omega)
      have := lastF_mem _ _ _ hy
      rcases List.mem_append.1 this with hy | hy
      · exact h2 y hy
      · simp at hy; subst hy
        have b1 := nxV_lt l i 40 (by decide)
        have b2 := nxV_lt l (nxt l i) 7 (by decide)
        have b4 := ofF_mem l (nxt l (nxt l (nxt l i))) etag2 (by decide)
        refine ⟨⟨by simp only [recAt]; omega, by simp only [recAt]; omega⟩, ⟨by simp only [recAt]; omega, by simp only [recAt]; omega⟩, ⟨by simp only [recAt]; omega, by simp only [recAt]; omega⟩, ?_⟩
        simp only [recAt, sumL, List.map_cons, List.map_nil, List.sum_cons, List.sum_nil]
        generalize ofF l (nxt l (nxt l (nxt l i))) etag2 = z at b4
        simp only [etag2, List.mem_cons, List.not_mem_nil, or_false] at b4
        rcases b4 with rfl | rfl <;> decide
    · exact ⟨h2, h3⟩

def js0 : List UInt8 := [91, 93, 10]
def meths : List (List UInt8) := [getM, headM, [80, 79, 83, 84], [103, 101, 116]]
def targs : List (List UInt8) := [reportsP, reportsJ, [47, 114, 101, 112, 111, 114, 116, 115, 63, 97], [47, 114, 101, 112, 111, 114, 116, 115, 47], [47]]
theorem listenF_ok (m p tx js : List UInt8) : ∃ code fs body, listenF m p tx js = replyD code fs body ∧ fs.length = 2 := by
  unfold listenF
  simp only
  repeat' split
  all_goals exact ⟨_, _, _, rfl, rfl⟩
end Go.Proofs.YtiokdhklhnhfhaaGreatDoor

