import Derived.Test.YtbfkfmpfdafogaaGreatDoorMd
import Derived.Test.YtbfkfmpfdafogaaGreatDoorMc2
import Derived.Lib.Bytealg
import Derived.Test.YtbfkfmpfdafogaaGreatDoorMi
namespace Go.Proofs.YtbfkfmpfdafogaaGreatDoor
variable {G : List Go.Eng.Gl}
open Go.Eng
attribute [local irreducible] Hold
set_option maxRecDepth 100000

theorem ext_idx (l : List UInt8) (c : UInt8) : ExtOk (CG G) 142 [.d (.s l), .d (.i .u8 (c.toNat : Int))] (.d (.i .i64 (Lib.indexByte l c))) := by
  intro w α X p vs hl hr _
  obtain ⟨vl⟩ := vs
  match vl, hl, hr with
  | [a, b], _, hr =>
    have ha := (hr 0 _ a rfl rfl).dinv.sinv
    have hb := (hr 1 _ b rfl rfl).dinv.iinv
    subst ha hb
    refine ⟨_, ?_, .d _ _ (.i _ _), .d _⟩
    show (callFunc 142 #[.string ⟨l.toArray⟩, .int .u8 (c.toNat : Int)]).run Tryz.prog w = _
    rw [run_callFunc_extern Tryz.func142 (by kernel_rfl) (by kernel_rfl) (by kernel_rfl) (e := Extern.BytealgIndexByte.indexByte) (by kernel_rfl)]
    simp [Lib.run_indexByteString, Result.andThen]

theorem idxByte (l : List UInt8) (c : UInt8) : Does (CG G) 138 [.s l, .i .u8 (c.toNat : Int)] [.i .i64 (Lib.indexByte l c)] := by
  refine Does.mk (n := 8) Tryz.func138 rfl rfl rfl (Nat.le_of_ble_eq_true rfl) ?_
  repeat refine seq_on ?_
  refine call_ext _ (ext_idx l c) ?_
  repeat refine seq_on ?_
  rfl
theorem index1 (l : List UInt8) (c : UInt8) : Does (CG G) 136 [.s l, .s [c]] [.i .i64 (Lib.indexByte l c)] := by
  refine Does.mk (n := 143) Tryz.func136 rfl rfl rfl (Nat.le_of_ble_eq_true rfl) ?_
  repeat refine seq_on ?_
  refine cmp_no (show ¬ ((1 : Nat) : Int) = 0 by decide) ?_
  refine cmp_dec (fun h => ?_) (fun h => ?_)
  · repeat refine seq_on ?_
    subst h
    simp [Lib.indexByte]; rfl
  · repeat refine seq_on ?_
    refine cmp_yes rfl ?_
    repeat refine seq_on ?_
    refine Eng.get_at 0 rfl rfl ?_
    refine call_by (idxByte l c) ?_
    repeat refine seq_on ?_
    rfl
end Go.Proofs.YtbfkfmpfdafogaaGreatDoor

namespace Go.Proofs.YtbfkfmpfdafogaaGreatDoor
variable {G : List Go.Eng.Gl}
open Go.Eng
attribute [local irreducible] Hold
set_option maxRecDepth 100000

theorem space1 (c : UInt8) : Does (CG G) 127 [.i .u8 (c.toNat : Int)] [.b (spF c)] := by
  refine Does.mk (n := 9) Tryz.func127 rfl rfl rfl (Nat.le_of_ble_eq_true rfl) ?_
  repeat refine seq_on ?_
  refine cmp_dec (fun h => ?_) (fun h => ?_)
  · repeat refine seq_on ?_
    (first | exact congrArg (fun x => [D.b x]) (Eq.symm (decide_eq_true (by omega))) | exact congrArg (fun x => [D.b x]) (Eq.symm (decide_eq_false (by omega))))
  · refine cmp_dec (fun h => ?_) (fun h => ?_)
    · repeat refine seq_on ?_
      (first | exact congrArg (fun x => [D.b x]) (Eq.symm (decide_eq_true (by omega))) | exact congrArg (fun x => [D.b x]) (Eq.symm (decide_eq_false (by omega))))
    · repeat refine seq_on ?_
      (first | exact congrArg (fun x => [D.b x]) (Eq.symm (decide_eq_true (by omega))) | exact congrArg (fun x => [D.b x]) (Eq.symm (decide_eq_false (by omega))))
theorem blank1 (c : UInt8) : Does (CG G) 108 [.i .u8 (c.toNat : Int)] [.b (spF c)] := by
  refine Does.mk (n := 9) Tryz.func108 rfl rfl rfl (Nat.le_of_ble_eq_true rfl) ?_
  repeat refine seq_on ?_
  refine cmp_dec (fun h => ?_) (fun h => ?_)
  · repeat refine seq_on ?_
    (first | exact congrArg (fun x => [D.b x]) (Eq.symm (decide_eq_true (by omega))) | exact congrArg (fun x => [D.b x]) (Eq.symm (decide_eq_false (by omega))))
  · refine cmp_dec (fun h => ?_) (fun h => ?_)
    · repeat refine seq_on ?_
      (first | exact congrArg (fun x => [D.b x]) (Eq.symm (decide_eq_true (by omega))) | exact congrArg (fun x => [D.b x]) (Eq.symm (decide_eq_false (by omega))))
    · repeat refine seq_on ?_
      (first | exact congrArg (fun x => [D.b x]) (Eq.symm (decide_eq_true (by omega))) | exact congrArg (fun x => [D.b x]) (Eq.symm (decide_eq_false (by omega))))
theorem trimA (l : List UInt8) (hl : l.length ≤ 9223372036854775807) : Does (CG G) 110 [.s l] [.s (trimF l)] := by
  refine Does.mk (n := 30) Tryz.func110 rfl rfl rfl (Nat.le_of_ble_eq_true rfl) ?_
  apply seq_inv (fun _ : Unit => True) (fun _ => ⟨[(0, .d (.s (trimLF l)))], [], 1⟩)
  · apply loop_inv (fun x : List UInt8 => trimLF x = trimLF l ∧ x.length ≤ l.length) (fun x => ⟨[(0, .d (.s x))], [], 1⟩) (fun x => x.length) l ⟨rfl, Nat.le_refl _⟩ []
    · ((repeat' constructor) <;> (first | refine hold ?_ | rfl) <;> first | with_reducible rfl | (congr 1 <;> omega) | (congr 1 <;> simp; done) | (simp; done) | exact encB_snoc _ _ | skip)
    rintro x ⟨hx, hxl⟩
    repeat refine seq_on ?_
    refine cmp_dec (fun h => ?_) (fun h => ?_)
    · have h0 : 0 < x.length := by omega
      refine Eng.get_at 0 rfl (x := x[0]) (by simp [h0]) ?_
      refine call_bool (space1 _) (fun hs => ?_) (fun hs => ?_)
      · repeat refine seq_on ?_
        refine bnd 1 rfl (by omega) ?_
        apply again (x.drop 1) [] ⟨by rw [trimLF_step h0 hs]; exact hx, by simp; omega⟩ (by simp; omega)
        ((repeat' constructor) <;> (first | refine hold ?_ | rfl) <;> first | with_reducible rfl | (congr 1 <;> omega) | (congr 1 <;> simp; done) | (simp; done) | exact encB_snoc _ _ | skip)
      · repeat refine seq_on ?_
        apply cut_inv () [] trivial
        rw [← hx, trimLF_stop h0 hs]
        ((repeat' constructor) <;> (first | refine hold ?_ | rfl) <;> first | with_reducible rfl | (congr 1 <;> omega) | (congr 1 <;> simp; done) | (simp; done) | exact encB_snoc _ _ | skip)
    · obtain rfl : x = [] := List.eq_nil_of_length_eq_zero (by omega)
      repeat refine seq_on ?_
      apply cut_inv () [] trivial
      rw [← hx]
      ((repeat' constructor) <;> (first | refine hold ?_ | rfl) <;> first | with_reducible rfl | (congr 1 <;> omega) | (congr 1 <;> simp; done) | (simp; done) | exact encB_snoc _ _ | skip)
  rintro ⟨⟩ _
  have hll := trimLF_len l
  apply seq_inv (fun _ : Unit => True) (fun _ => ⟨[(0, .d (.s (trimF l)))], [], 1⟩)
  · apply loop_inv (fun x : List UInt8 => trimRF x = trimF l ∧ x.length ≤ l.length) (fun x => ⟨[(0, .d (.s x))], [], 1⟩) (fun x => x.length) (trimLF l) ⟨rfl, hll⟩ []
    · ((repeat' constructor) <;> (first | refine hold ?_ | rfl) <;> first | with_reducible rfl | (congr 1 <;> omega) | (congr 1 <;> simp; done) | (simp; done) | exact encB_snoc _ _ | skip)
    rintro x ⟨hx, hxl⟩
    repeat refine seq_on ?_
    refine cmp_dec (fun h => ?_) (fun h => ?_)
    · have h0 : 0 < x.length := by omega
      refine ar ⟨by omega, by omega⟩ ?_
      refine Eng.get_at (x.length - 1) (by omega) (x := x[x.length - 1]'(by omega)) (by simp [h0]) ?_
      refine call_bool (space1 _) (fun hs => ?_) (fun hs => ?_)
      · repeat refine seq_on ?_
        refine ar ⟨by omega, by omega⟩ ?_
        refine bnd (x.length - 1) (by omega) (by omega) ?_
        apply again (x.take (x.length - 1)) [] ⟨by rw [trimRF_step h0 hs]; exact hx, by simp; omega⟩ (by simp; omega)
        ((repeat' constructor) <;> (first | refine hold ?_ | rfl) <;> first | with_reducible rfl | (congr 1 <;> omega) | (congr 1 <;> simp; done) | (simp; done) | exact encB_snoc _ _ | skip)
      · repeat refine seq_on ?_
        apply cut_inv () [] trivial
        rw [← hx, trimRF_stop h0 hs]
        ((repeat' constructor) <;> (first | refine hold ?_ | rfl) <;> first | with_reducible rfl | (congr 1 <;> omega) | (congr 1 <;> simp; done) | (simp; done) | exact encB_snoc _ _ | skip)
    · obtain rfl : x = [] := List.eq_nil_of_length_eq_zero (by omega)
      repeat refine seq_on ?_
      apply cut_inv () [] trivial
      rw [← hx]
      ((repeat' constructor) <;> (first | refine hold ?_ | rfl) <;> first | with_reducible rfl | (congr 1 <;> omega) | (congr 1 <;> simp; done) | (simp; done) | exact encB_snoc _ _ | skip)
  rintro ⟨⟩ _
  repeat refine seq_on ?_
  rfl
theorem trimR (l : List UInt8) (hl : l.length ≤ 9223372036854775807) : Does (CG G) 76 [.s l] [.s (trimF l)] := by
  refine Does.mk (n := 30) Tryz.func76 rfl rfl rfl (Nat.le_of_ble_eq_true rfl) ?_
  apply seq_inv (fun _ : Unit => True) (fun _ => ⟨[(0, .d (.s (trimLF l)))], [], 1⟩)
  · apply loop_inv (fun x : List UInt8 => trimLF x = trimLF l ∧ x.length ≤ l.length) (fun x => ⟨[(0, .d (.s x))], [], 1⟩) (fun x => x.length) l ⟨rfl, Nat.le_refl _⟩ []
    · ((repeat' constructor) <;> (first | refine hold ?_ | rfl) <;> first | with_reducible rfl | (congr 1 <;> omega) | (congr 1 <;> simp; done) | (simp; done) | exact encB_snoc _ _ | skip)
    rintro x ⟨hx, hxl⟩
    repeat refine seq_on ?_
    refine cmp_dec (fun h => ?_) (fun h => ?_)
    · have h0 : 0 < x.length := by omega
      refine Eng.get_at 0 rfl (x := x[0]) (by simp [h0]) ?_
      refine call_bool (blank1 _) (fun hs => ?_) (fun hs => ?_)
      · repeat refine seq_on ?_
        refine bnd 1 rfl (by omega) ?_
        apply again (x.drop 1) [] ⟨by rw [trimLF_step h0 hs]; exact hx, by simp; omega⟩ (by simp; omega)
        ((repeat' constructor) <;> (first | refine hold ?_ | rfl) <;> first | with_reducible rfl | (congr 1 <;> omega) | (congr 1 <;> simp; done) | (simp; done) | exact encB_snoc _ _ | skip)
      · repeat refine seq_on ?_
        apply cut_inv () [] trivial
        rw [← hx, trimLF_stop h0 hs]
        ((repeat' constructor) <;> (first | refine hold ?_ | rfl) <;> first | with_reducible rfl | (congr 1 <;> omega) | (congr 1 <;> simp; done) | (simp; done) | exact encB_snoc _ _ | skip)
    · obtain rfl : x = [] := List.eq_nil_of_length_eq_zero (by omega)
      repeat refine seq_on ?_
      apply cut_inv () [] trivial
      rw [← hx]
      ((repeat' constructor) <;> (first | refine hold ?_ | rfl) <;> first | with_reducible rfl | (congr 1 <;> omega) | (congr 1 <;> simp; done) | (simp; done) | exact encB_snoc _ _ | skip)
  rintro ⟨⟩ _
  have hll := trimLF_len l
  apply seq_inv (fun _ : Unit => True) (fun _ => ⟨[(0, .d (.s (trimF l)))], [], 1⟩)
  · apply loop_inv (fun x : List UInt8 => trimRF x = trimF l ∧ x.length ≤ l.length) (fun x => ⟨[(0, .d (.s x))], [], 1⟩) (fun x => x.length) (trimLF l) ⟨rfl, hll⟩ []
    · ((repeat' constructor) <;> (first | refine hold ?_ | rfl) <;> first | with_reducible rfl | (congr 1 <;> omega) | (congr 1 <;> simp; done) | (simp; done) | exact encB_snoc _ _ | skip)
    rintro x ⟨hx, hxl⟩
    repeat refine seq_on ?_
    refine cmp_dec (fun h => ?_) (fun h => ?_)
    · have h0 : 0 < x.length := by omega
      refine ar ⟨by omega, by omega⟩ ?_
      refine Eng.get_at (x.length - 1) (by omega) (x := x[x.length - 1]'(by omega)) (by simp [h0]) ?_
      refine call_bool (blank1 _) (fun hs => ?_) (fun hs => ?_)
      · repeat refine seq_on ?_
        refine ar ⟨by omega, by omega⟩ ?_
        refine bnd (x.length - 1) (by omega) (by omega) ?_
        apply again (x.take (x.length - 1)) [] ⟨by rw [trimRF_step h0 hs]; exact hx, by simp; omega⟩ (by simp; omega)
        ((repeat' constructor) <;> (first | refine hold ?_ | rfl) <;> first | with_reducible rfl | (congr 1 <;> omega) | (congr 1 <;> simp; done) | (simp; done) | exact encB_snoc _ _ | skip)
      · repeat refine seq_on ?_
        apply cut_inv () [] trivial
        rw [← hx, trimRF_stop h0 hs]
        ((repeat' constructor) <;> (first | refine hold ?_ | rfl) <;> first | with_reducible rfl | (congr 1 <;> omega) | (congr 1 <;> simp; done) | (simp; done) | exact encB_snoc _ _ | skip)
    · obtain rfl : x = [] := List.eq_nil_of_length_eq_zero (by omega)
      repeat refine seq_on ?_
      apply cut_inv () [] trivial
      rw [← hx]
      ((repeat' constructor) <;> (first | refine hold ?_ | rfl) <;> first | with_reducible rfl | (congr 1 <;> omega) | (congr 1 <;> simp; done) | (simp; done) | exact encB_snoc _ _ | skip)
  rintro ⟨⟩ _
  repeat refine seq_on ?_
  rfl

end Go.Proofs.YtbfkfmpfdafogaaGreatDoor

namespace Go.Proofs.YtbfkfmpfdafogaaGreatDoor
variable {G : List Go.Eng.Gl}
open Go.Eng
attribute [local irreducible] Hold
set_option maxRecDepth 100000

theorem splitR (l : List UInt8) (c : UInt8) (hl : l.length ≤ 4294967295) : Does (CG G) 118 [.s l, .i .u8 (c.toNat : Int)] [strs (splitF c l)] := by
  refine Does.mk (n := 35) Tryz.func118 rfl rfl rfl (Nat.le_of_ble_eq_true rfl) ?_
  repeat refine seq_on ?_
  apply loop_inv (fun x : Nat × Nat × List (List UInt8) => x.2.2.length ≤ x.1 ∧ x.2.1 ≤ x.1 ∧ ((x.1 ≤ l.length ∧ c ∉ (l.take x.1).drop x.2.1 ∧ x.2.2 ++ splitF c (l.drop x.2.1) = splitF c l) ∨ (x.1 = l.length + 1 ∧ x.2.2 = splitF c l)))
    (fun x => ⟨[(0, .d (.s l)), (1, .d (.i .u8 (c.toNat : Int))), (5, .os 16), (6, .d (.i .i64 (x.2.1 : Int))), (7, .d (.i .i64 (x.1 : Int)))], [(16, some (.buf 1 (x.2.2.map .s)))], 2⟩) (fun x => l.length + 1 - x.1) (0, 0, []) ⟨by simp, by simp, .inl ⟨by simp, by simp, by simp⟩⟩ [(16, _)]
  · ((repeat' constructor) <;> (first | refine hold ?_ | rfl) <;> first | with_reducible rfl | (congr 1 <;> omega) | (congr 1 <;> simp; done) | (simp; done) | exact encB_snoc _ _ | skip)
  rintro ⟨i, k, out⟩ ⟨ho, hk, hx⟩
  simp only at ho hk hx
  repeat refine seq_on ?_
  refine cmp_dec (fun h => ?_) (fun h => ?_)
  · obtain ⟨hi, hn, hs⟩ : i ≤ l.length ∧ c ∉ (l.take i).drop k ∧ out ++ splitF c (l.drop k) = splitF c l := by
      rcases hx with hx | ⟨hx, _⟩
      · exact hx
      · omega
    have seg : ∀ (q : List UInt8), l.drop k = (l.take i).drop k ++ q → l = l.take i ++ q := fun q hq => by
      conv => lhs; rw [← List.take_append_drop k l, hq, ← List.append_assoc]
      congr 1
      have := List.take_append_drop k (l.take i)
      rw [List.take_take, Nat.min_eq_left hk] at this
      exact this
    have hd : l.drop k = (l.take i).drop k ++ l.drop i := by
      conv => lhs; rw [← List.take_append_drop i l, List.drop_append_of_le_length (by simp; omega)]
    repeat refine seq_on ?_
    refine cmp_dec (fun h1 => ?_) (fun h1 => ?_)
    · repeat refine seq_on ?_
      refine bnd i rfl hi ?_
      refine bnd k rfl hk ?_
      refine app_ok (by simp; omega) ?_
      repeat refine seq_on ?_
      refine ar ⟨by omega, by omega⟩ ?_
      repeat refine seq_on ?_
      refine ar ⟨by omega, by omega⟩ ?_
      have he : l.drop i = [] := List.drop_eq_nil_of_le (by omega)
      rw [he, List.append_nil] at hd
      rw [hd, splitF_none hn] at hs
      apply again (i + 1, i + 1, out ++ [(l.take i).drop k]) [(16, _)] ⟨by simp; omega, by simp, .inr ⟨by simp only; omega, hs⟩⟩ (by simp only; omega)
      ((repeat' constructor) <;> (first | refine hold ?_ | rfl) <;> first | with_reducible rfl | (congr 1 <;> omega) | (congr 1 <;> simp; done) | (simp; done) | exact encB_snoc _ _ | skip)
    · have hi' : i < l.length := by omega
      refine Eng.get_at i rfl (x := l[i]) (by simp [hi']) ?_
      refine cmp_dec (fun h2 => ?_) (fun h2 => ?_)
      · have hc : l[i] = c := UInt8.toNat.inj (by omega)
        repeat refine seq_on ?_
        refine bnd i rfl hi ?_
        refine bnd k rfl hk ?_
        refine app_ok (by simp; omega) ?_
        repeat refine seq_on ?_
        refine ar ⟨by omega, by omega⟩ ?_
        repeat refine seq_on ?_
        refine ar ⟨by omega, by omega⟩ ?_
        rw [List.drop_eq_getElem_cons hi', hc] at hd
        rw [hd, splitF_seg hn] at hs
        apply again (i + 1, i + 1, out ++ [(l.take i).drop k]) [(16, _)] ⟨by simp; omega, by simp, .inl ⟨by simp only; omega, by simp, by simpa using hs⟩⟩ (by simp only; omega)
        ((repeat' constructor) <;> (first | refine hold ?_ | rfl) <;> first | with_reducible rfl | (congr 1 <;> omega) | (congr 1 <;> simp; done) | (simp; done) | exact encB_snoc _ _ | skip)
      · repeat refine seq_on ?_
        refine ar ⟨by omega, by omega⟩ ?_
        have hn' : c ∉ (l.take (i + 1)).drop k := by
          rw [List.take_succ_eq_append_getElem hi', List.drop_append_of_le_length (by simp; omega), List.mem_append]
          simp only [List.mem_singleton, not_or]
          exact ⟨hn, fun e => h2 (by rw [e])⟩
        apply again (i + 1, k, out) [(16, _)] ⟨by simp only; omega, by simp only; omega, .inl ⟨by simp only; omega, hn', hs⟩⟩ (by simp only; omega)
        ((repeat' constructor) <;> (first | refine hold ?_ | rfl) <;> first | with_reducible rfl | (congr 1 <;> omega) | (congr 1 <;> simp; done) | (simp; done) | exact encB_snoc _ _ | skip)
  · repeat refine seq_on ?_
    have : out = splitF c l := by
      rcases hx with ⟨hx, _⟩ | ⟨_, hx⟩
      · omega
      · exact hx
    rw [this]; rfl
end Go.Proofs.YtbfkfmpfdafogaaGreatDoor

namespace Go.Proofs.YtbfkfmpfdafogaaGreatDoor
variable {G : List Go.Eng.Gl}
open Go.Eng
attribute [local irreducible] Hold
set_option maxRecDepth 100000

/-! Lower, Fold, Values of the references -/
def low1 (c : UInt8) : UInt8 := if 65 ≤ c.toNat ∧ c.toNat ≤ 90 then UInt8.ofNat (c.toNat + 32) else c
def lowF (l : List UInt8) : List UInt8 := l.map low1
def lowU (s : List UInt8) (i : Nat) : List UInt8 := (s.take i).map low1 ++ s.drop i
theorem lowU_len (s : List UInt8) (i : Nat) : (lowU s i).length = s.length := by simp [lowU]; omega
theorem lowU_at {s : List UInt8} {i : Nat} (h : i < s.length) : (encB (lowU s i))[i]? = some (.i .u8 ((s[i]).toNat : Int)) := by
  have h1 : ((s.take i).map low1).length = i := by simp; omega
  unfold lowU encB
  rw [List.map_append, List.getElem?_append_right (by simp; omega), List.getElem?_map, List.getElem?_drop]
  simp [Nat.min_eq_left (Nat.le_of_lt h), h]
theorem lowU_step {s : List UInt8} {i : Nat} (h : i < s.length) : lowU s (i + 1) = (lowU s i).set i (low1 s[i]) := by
  have h1 : ((s.take i).map low1).length = i := by simp; omega
  unfold lowU
  rw [List.take_succ_eq_append_getElem h, List.map_append, List.set_append_right _ _ (by omega), h1, Nat.sub_self, show s.drop i = s[i] :: s.drop (i + 1) from List.drop_eq_getElem_cons h]
  simp only [List.map_cons, List.map_nil, List.append_assoc, List.singleton_append, List.set_cons_zero]
theorem lowU_keep {s : List UInt8} {i : Nat} (h : i < s.length) (hc : ¬ (65 ≤ (s[i]).toNat ∧ (s[i]).toNat ≤ 90)) : lowU s (i + 1) = lowU s i := by
  unfold lowU
  rw [List.take_succ_eq_append_getElem h, List.map_append, show s.drop i = s[i] :: s.drop (i + 1) from List.drop_eq_getElem_cons h]
  simp [low1, hc]
theorem encB_set (l : List UInt8) (i : Nat) (c : UInt8) : (encB l).set i (.i .u8 (c.toNat : Int)) = encB (l.set i c) := by
  simp [encB, List.map_set]
theorem low_same {c : UInt8} (h : ¬ (65 ≤ c.toNat ∧ c.toNat ≤ 90)) : low1 c = c := if_neg h
theorem low_up {c : UInt8} (h : 65 ≤ c.toNat ∧ c.toNat ≤ 90) : ((low1 c).toNat : Int) = (c.toNat : Int) + 32 := by
  unfold low1
  rw [if_pos h, UInt8.toNat_ofNat']
  omega
theorem lowR (s : List UInt8) (hl : s.length ≤ 140737488355328) : Does (CG G) 39 [.s s] [.s (lowF s)] := by
  refine Does.mk (n := 35) Tryz.func39 rfl rfl rfl (Nat.le_of_ble_eq_true rfl) ?_
  repeat refine seq_on ?_
  apply loop_inv (fun i : Nat => i ≤ s.length) (fun i => ⟨[(3, .os 16), (4, .d (.i .i64 (i : Int)))], [(16, some (.buf 1 (encB (lowU s i))))], 2⟩) (fun i => s.length - i) 0 (Nat.zero_le _) [(16, _)]
  · ((repeat' constructor) <;> (first | refine hold ?_ | rfl) <;> first | with_reducible rfl | (congr 1 <;> omega) | (congr 1 <;> simp; done) | (simp; done) | exact encB_snoc _ _ | skip)
  · intro i hi
    have hlen : (encB (lowU s i)).length = s.length := by rw [encB_len, lowU_len]
    repeat refine seq_on ?_
    refine cmp_dec (fun h1 => ?_) (fun h1 => ?_)
    · rw [hlen] at h1
      have hi' : i < s.length := by omega
      have hb := s[i].toNat_lt
      repeat refine seq_on ?_
      refine idx i rfl (by omega) ?_
      refine at_is (lowU_at hi') ?_
      refine cmp_dec (fun h2 => ?_) (fun h2 => ?_)
      · refine idx i rfl (by omega) ?_
        refine at_is (lowU_at hi') ?_
        refine cmp_dec (fun h3 => ?_) (fun h3 => ?_)
        · ((try refine And.intro (draw_ok (by kernel_rfl)) ?_); repeat refine seq_on ?_)
          refine idx i rfl (by omega) ?_
          refine at_is (lowU_at hi') ?_
          refine ar8 ⟨by omega, by omega⟩ ?_
          refine idx i rfl (by omega) ?_
          refine set_is (lowU_at hi') ?_
          ((try refine And.intro (draw_ok (by kernel_rfl)) ?_); repeat refine seq_on ?_)
          refine ar ⟨by omega, by omega⟩ ?_
          apply again (i + 1) [(16, _)] (by omega) (by omega)
          ((repeat' constructor) <;> (first | refine hold ?_ | rfl) <;> first | with_reducible rfl | (congr 1 <;> omega) | (congr 1 <;> simp; done) | (simp; done) | exact encB_snoc _ _ | skip)
          all_goals (rw [lowU_step hi', ← encB_set, low_up (by omega)])
        · ((try refine And.intro (draw_ok (by kernel_rfl)) ?_); repeat refine seq_on ?_)
          refine ar ⟨by omega, by omega⟩ ?_
          apply again (i + 1) [(16, _)] (by omega) (by omega)
          ((repeat' constructor) <;> (first | refine hold ?_ | rfl) <;> first | with_reducible rfl | (congr 1 <;> omega) | (congr 1 <;> simp; done) | (simp; done) | exact encB_snoc _ _ | skip)
          all_goals rw [lowU_keep hi' (by omega)]
      · ((try refine And.intro (draw_ok (by kernel_rfl)) ?_); repeat refine seq_on ?_)
        refine ar ⟨by omega, by omega⟩ ?_
        apply again (i + 1) [(16, _)] (by omega) (by omega)
        ((repeat' constructor) <;> (first | refine hold ?_ | rfl) <;> first | with_reducible rfl | (congr 1 <;> omega) | (congr 1 <;> simp; done) | (simp; done) | exact encB_snoc _ _ | skip)
        all_goals rw [lowU_keep hi' (by omega)]
    · rw [hlen] at h1
      obtain rfl : i = s.length := by omega
      have e : lowU s s.length = lowF s := by simp [lowU, lowF]
      repeat refine seq_on ?_
      rw [e]
      refine bytes_is (lowF s) rfl ?_
      ((try refine And.intro (draw_ok (by kernel_rfl)) ?_); repeat refine seq_on ?_)
      rfl
theorem foldR (a b : List UInt8) (h1 : a.length ≤ 140737488355328) (h2 : b.length ≤ 140737488355328) : Does (CG G) 67 [.s a, .s b] [.b (decide (lowF a = lowF b))] := by
  refine Does.mk (n := 10) Tryz.func67 rfl rfl rfl (Nat.le_of_ble_eq_true rfl) ?_
  repeat refine seq_on ?_
  refine call_by (lowR a h1) ?_
  refine call_by (lowR b h2) ?_
  refine cmp_keep ?_
  ((try refine And.intro (draw_ok (by kernel_rfl)) ?_); repeat refine seq_on ?_)
  rfl
def isName (n : List UInt8) (f : Fld) : Bool := decide (lowF f.1 = lowF n)
def valsF (n : List UInt8) (l : List Fld) : List (List UInt8) := (l.filter (isName n)).map (·.2)
theorem valsF_snoc (n : List UInt8) (l : List Fld) (f : Fld) : valsF n (l ++ [f]) = if isName n f then valsF n l ++ [f.2] else valsF n l := by
  unfold valsF
  rw [List.filter_append]
  by_cases h : isName n f
  · simp [h, List.filter]
  · simp [h, List.filter]
theorem valsR (l : List Fld) (n : List UInt8) (hl : l.length ≤ 68719476736) (hn : n.length ≤ 140737488355328) (hf : ∀ f, f ∈ l → f.1.length ≤ 140737488355328) : Does (CG G) 41 [.sl 2 (l.map fldD), .s n] [strs (valsF n l)] := by
  have hlen : (l.map fldD).length = l.length := by simp
  refine Does.mk (n := 29) Tryz.func41 rfl rfl rfl (Nat.le_of_ble_eq_true rfl) ?_
  repeat refine seq_on ?_
  apply loop_inv (fun i : Nat => i ≤ l.length) (fun i => ⟨[(0, .d (.sl 2 (l.map fldD))), (1, .d (.s n)), (5, .os 16), (6, .d (.i .i64 (i : Int)))], [(16, some (.buf 1 ((valsF n (l.take i)).map .s)))], 2⟩) (fun i => l.length - i) 0 (Nat.zero_le _) [(16, _)]
  · ((repeat' constructor) <;> (first | refine hold ?_ | rfl) <;> first | with_reducible rfl | (congr 1 <;> omega) | (congr 1 <;> simp; done) | (simp; done) | exact encB_snoc _ _ | skip)
  · intro i hi
    repeat refine seq_on ?_
    refine cmp_dec (fun h1 => ?_) (fun h1 => ?_)
    · have hi' : i < l.length := by omega
      have hs : valsF n (l.take (i + 1)) = if isName n l[i] then valsF n (l.take i) ++ [l[i].2] else valsF n (l.take i) := by
        rw [List.take_succ_eq_append_getElem hi', valsF_snoc]
      have hg : (l.map fldD)[i]? = some (.agg [.s l[i].1, .s l[i].2]) := by simp [hi', fldD]
      have hb : (valsF n (l.take i)).length ≤ i := by
        unfold valsF
        rw [List.length_map]
        exact Nat.le_trans (List.length_filter_le _ _) (by simp; omega)
      repeat refine seq_on ?_
      refine Eng.get_at i rfl hg ?_
      refine call_bool (foldR l[i].1 n (hf _ (List.getElem_mem hi')) hn) (fun hq => ?_) (fun hq => ?_)
      · rw [if_pos (show isName n l[i] = true from hq)] at hs
        repeat refine seq_on ?_
        refine Eng.get_at i rfl hg ?_
        refine app_ok (by simp; omega) ?_
        ((try refine And.intro (draw_ok (by kernel_rfl)) ?_); repeat refine seq_on ?_)
        refine ar ⟨by omega, by omega⟩ ?_
        apply again (i + 1) [(16, _)] (by omega) (by omega)
        ((repeat' constructor) <;> (first | refine hold ?_ | rfl) <;> first | with_reducible rfl | (congr 1 <;> omega) | (congr 1 <;> simp; done) | (simp; done) | exact encB_snoc _ _ | skip)
        all_goals (rw [hs]; simp)
      · rw [if_neg (by show ¬ isName n l[i] = true; unfold isName; rw [hq]; decide)] at hs
        ((try refine And.intro (draw_ok (by kernel_rfl)) ?_); repeat refine seq_on ?_)
        refine ar ⟨by omega, by omega⟩ ?_
        apply again (i + 1) [(16, _)] (by omega) (by omega)
        ((repeat' constructor) <;> (first | refine hold ?_ | rfl) <;> first | with_reducible rfl | (congr 1 <;> omega) | (congr 1 <;> simp; done) | (simp; done) | exact encB_snoc _ _ | skip)
        all_goals rw [hs]
    · obtain rfl : i = l.length := by omega
      rw [List.take_of_length_le (Nat.le_refl _)]
      ((try refine And.intro (draw_ok (by kernel_rfl)) ?_); repeat refine seq_on ?_)
      rfl
end Go.Proofs.YtbfkfmpfdafogaaGreatDoor

namespace Go.Proofs.YtbfkfmpfdafogaaGreatDoor
variable {G : List Go.Eng.Gl}
open Go.Eng
attribute [local irreducible] Hold
set_option maxRecDepth 100000

theorem growB (n : Nat) (hn : n ≤ 68719476736) : DoesH (CG G) 123 [.nl 1, .d (.i .i64 (n : Int))] [] [.os 16] [(16, some (.buf 1 []))] := by
  refine DoesH.mk (n := 27) Tryz.func123 rfl rfl rfl (Nat.le_of_ble_eq_true rfl) rfl ?_
  repeat refine seq_on ?_
  refine cmp_no (by omega) ?_
  apply seq_inv (fun _ : Unit => True) (fun _ => ⟨[(0, .os 16)], [(16, some (.buf 1 []))], 2⟩)
  · repeat refine seq_on ?_
    refine ar ⟨by omega, by omega⟩ ?_
    refine ar ⟨by omega, by omega⟩ ?_
    refine cmp_dec (fun h => ?_) (fun h => ?_)
    · repeat refine seq_on ?_
      refine bnd 0 rfl (by simp) ?_
      refine zr_ok n (by omega) (by omega) hn ?_
      refine bnd 0 rfl (by simp) ?_
      refine keep_own ?_
      repeat refine seq_on ?_
      apply cut_inv () [(16, _)] trivial
      ((repeat' constructor) <;> (first | refine hold ?_ | rfl) <;> first | with_reducible rfl | (congr 1 <;> omega) | (congr 1 <;> simp; done) | (simp; done) | exact encB_snoc _ _ | skip)
    · repeat refine seq_on ?_
      apply cut_inv () [(16, 14)] trivial
      ((repeat' constructor) <;> (first | refine hold ?_ | rfl) <;> first | with_reducible rfl | (congr 1 <;> omega) | (congr 1 <;> simp; done) | (simp; done) | exact encB_snoc _ _ | skip)
  rintro ⟨⟩ -
  repeat refine seq_on ?_
  apply end_ok [(16, _)]
  ((repeat' constructor) <;> (first | refine hold ?_ | rfl) <;> first | with_reducible rfl | (congr 1 <;> omega) | (congr 1 <;> simp; done) | (simp; done) | exact encB_snoc _ _ | skip)
end Go.Proofs.YtbfkfmpfdafogaaGreatDoor

namespace Go.Proofs.YtbfkfmpfdafogaaGreatDoor
variable {G : List Go.Eng.Gl}
open Go.Eng
attribute [local irreducible] Hold
set_option maxRecDepth 100000

theorem flat_take {β : Type} (bs : List (List β)) (i : Nat) (h : i < bs.length) : (bs.take (i + 1)).flatten = (bs.take i).flatten ++ bs[i] := by
  rw [List.take_succ_eq_append_getElem h, List.flatten_append]; simp
theorem flat_take_le {β : Type} (bs : List (List β)) (i : Nat) : (bs.take i).flatten.length ≤ bs.flatten.length := by
  conv => rhs; rw [← List.take_append_drop i bs, List.flatten_append, List.length_append]
  omega

theorem concatB (bs : List (List D)) (h : bs.flatten.length ≤ 68719476736) (hb : bs.length ≤ 68719476736) : DoesH (CG G) 103 [.d (.sl 1 (bs.map (.sl 1)))] [] [.os 16] [(16, some (.buf 1 bs.flatten))] := by
  have hle := flat_take_le bs
  refine DoesH.mk (n := 36) Tryz.func103 rfl rfl rfl (Nat.le_of_ble_eq_true rfl) rfl ?_
  repeat refine seq_on ?_
  apply loop_inv (fun i : Nat => i ≤ bs.length) (fun i => ⟨[(0, .d (.sl 1 (bs.map (.sl 1)))), (3, .d (.i .i64 ((bs.take i).flatten.length : Int))), (9, .d (.sl 1 (bs.map (.sl 1)))), (10, .d (.i .i64 (bs.length : Int))), (11, .d (.i .i64 (i : Int)))], [], 2⟩) (fun i => bs.length - i) 0 (by omega) []
  · ((repeat' constructor) <;> (first | refine hold ?_ | rfl) <;> first | with_reducible rfl | (congr 1 <;> omega) | (congr 1 <;> simp; done) | (simp; done) | exact encB_snoc _ _ | skip)
  · intro i hi
    have := hle i
    have h1 := hle (i + 1)
    repeat refine seq_on ?_
    refine cmp_dec (fun hlt => ?_) (fun hlt => ?_)
    · have hlt : i < bs.length := by omega
      have hf := flat_take bs i hlt
      have hz : (((bs.take (i + 1)).flatten.length : Nat) : Int) = ((bs.take i).flatten.length : Int) + (bs[i].length : Int) := by rw [hf, List.length_append]; omega
      rw [hf, List.length_append] at h1
      repeat refine seq_on ?_
      refine Eng.get_at i rfl (x := .sl 1 bs[i]) (by simp [hlt]) ?_
      repeat refine seq_on ?_
      refine ar ⟨by omega, by omega⟩ ?_
      repeat refine seq_on ?_
      refine cmp_no (by omega) ?_
      repeat refine seq_on ?_
      refine ar ⟨by omega, by omega⟩ ?_
      apply again (i + 1) [] (by omega) (by omega)
      simp only [hz]
      ((repeat' constructor) <;> (first | refine hold ?_ | rfl) <;> first | with_reducible rfl | (congr 1 <;> omega) | (congr 1 <;> simp; done) | (simp; done) | exact encB_snoc _ _ | skip)
    · have : i = bs.length := by omega
      subst this
      repeat refine seq_on ?_
      rw [List.take_length]
      refine call_alt (callh [] (growB bs.flatten.length h) ?_ ?_)
      · ((repeat' constructor) <;> (first | refine hold ?_ | rfl) <;> first | with_reducible rfl | (congr 1 <;> omega) | (congr 1 <;> simp; done) | (simp; done) | exact encB_snoc _ _ | skip)
      repeat refine seq_on ?_
      apply loop_inv (fun i : Nat => i ≤ bs.length) (fun i => ⟨[(6, .os 16), (25, .d (.sl 1 (bs.map (.sl 1)))), (26, .d (.i .i64 (bs.length : Int))), (27, .d (.i .i64 (i : Int)))], [(16, some (.buf 1 (bs.take i).flatten))], 2⟩) (fun i => bs.length - i) 0 (by omega) [(16, _)]
      · ((repeat' constructor) <;> (first | refine hold ?_ | rfl) <;> first | with_reducible rfl | (congr 1 <;> omega) | (congr 1 <;> simp; done) | (simp; done) | exact encB_snoc _ _ | skip)
      · intro i hi
        have := hle i
        have h1 := hle (i + 1)
        repeat refine seq_on ?_
        refine cmp_dec (fun hlt => ?_) (fun hlt => ?_)
        · have hlt : i < bs.length := by omega
          have hf := flat_take bs i hlt
          rw [hf, List.length_append] at h1
          repeat refine seq_on ?_
          refine Eng.get_at i rfl (x := .sl 1 bs[i]) (by simp [hlt]) ?_
          repeat refine seq_on ?_
          refine app_ok (by omega) ?_
          repeat refine seq_on ?_
          refine ar ⟨by omega, by omega⟩ ?_
          apply again (i + 1) [(16, _)] (by omega) (by omega)
          ((repeat' constructor) <;> (first | refine hold ?_ | rfl) <;> first | with_reducible rfl | (congr 1 <;> omega) | (congr 1 <;> simp; done) | (simp; done) | exact encB_snoc _ _ | skip)
          exact hf.symm
        · have : i = bs.length := by omega
          subst this
          repeat refine seq_on ?_
          rw [List.take_length]
          apply end_ok [(16, _)]
          ((repeat' constructor) <;> (first | refine hold ?_ | rfl) <;> first | with_reducible rfl | (congr 1 <;> omega) | (congr 1 <;> simp; done) | (simp; done) | exact encB_snoc _ _ | skip)
end Go.Proofs.YtbfkfmpfdafogaaGreatDoor

namespace Go.Proofs.YtbfkfmpfdafogaaGreatDoor
variable {G : List Go.Eng.Gl}
open Go.Eng
attribute [local irreducible] Hold
set_option maxRecDepth 100000

def wiV (x n : Int) : Nat := ((x.tmod n + n).tmod n).toNat
theorem wiV_lt (x n : Int) (hn : 1 ≤ n) : (wiV x n : Int) < n := by
  have h3 : 0 ≤ (x.tmod n + n).tmod n := by
    have h1 : -n < x.tmod n := Int.lt_tmod_of_pos x (by omega)
    exact Int.tmod_nonneg _ (by omega)
  have h4 : (x.tmod n + n).tmod n < n := Int.tmod_lt_of_pos _ (by omega)
  unfold wiV; omega
theorem withinV (x n : Int) (hn : 1 ≤ n ∧ n ≤ 4611686018427387904) : Does (CG G) 69 [.i .i64 x, .i .i64 n] [.i .i64 (wiV x n : Int)] := by
  have h1 : -n < x.tmod n := Int.lt_tmod_of_pos x (by omega)
  have h2 : x.tmod n < n := Int.tmod_lt_of_pos x (by omega)
  have h3 : 0 ≤ (x.tmod n + n).tmod n := Int.tmod_nonneg _ (by omega)
  unfold wiV
  rw [Int.toNat_of_nonneg h3]
  refine Does.mk (n := 12) Tryz.func69 rfl rfl rfl (Nat.le_of_ble_eq_true rfl) ?_
  refine div_ok (by omega) ?_
  refine ar ⟨by omega, by omega⟩ ?_
  refine div_ok (by omega) ?_
  exact rfl

def nxV (l : List Int) (i : Nat) (n : Int) : Nat := if i < l.length then wiV (l.getD i 0) n else 0
theorem nxV_lt (l : List Int) (i : Nat) (n : Int) (hn : 1 ≤ n) : (nxV l i n : Int) < n := by
  unfold nxV; split
  · exact wiV_lt _ _ hn
  · simp; omega
theorem nextV (l : List Int) (i : Nat) (n : Int) (hi : i ≤ l.length) (hl : l.length ≤ 9223372036854775807) (hn : 1 ≤ n ∧ n ≤ 4611686018427387904) : DoesH (CG G) 44 [.op 0 0 0, .d (.i .i64 n)] (srcB l i) [.d (.i .i64 (nxV l i n : Int))] (srcB l (nxt l i)) := by
  have hlen : (l.map (D.i .i64)).length = l.length := by simp
  by_cases h : i < l.length
  · refine DoesH.mk (n := 35) Tryz.func44 rfl rfl rfl (Nat.le_of_ble_eq_true rfl) rfl ?_
    repeat refine seq_on ?_
    refine cmp_no (by omega) ?_
    refine ⟨draw_ok (by kernel_rfl), ?_⟩
    repeat refine seq_on ?_
    refine ar ⟨by omega, by omega⟩ ?_
    refine ar ⟨by omega, by omega⟩ ?_
    refine Eng.get_at i (by omega) (getInts h) ?_
    refine call_by (withinV _ n hn) ?_
    refine ⟨draw_ok (by kernel_rfl), ?_⟩
    refine end_ok [] ?_
    simp only [nxt, nxV, if_pos h]
    ((repeat' constructor) <;> (first | refine hold ?_ | rfl) <;> first | with_reducible rfl | (congr 1 <;> omega) | (congr 1 <;> simp; done) | (simp; done) | exact encB_snoc _ _ | skip)
  · refine DoesH.mk (n := 35) Tryz.func44 rfl rfl rfl (Nat.le_of_ble_eq_true rfl) rfl ?_
    repeat refine seq_on ?_
    refine cmp_yes (by omega) ?_
    refine ⟨draw_ok (by kernel_rfl), ?_⟩
    repeat refine seq_on ?_
    refine end_ok [] ?_
    simp only [nxt, nxV, if_neg h]
    ((repeat' constructor) <;> (first | refine hold ?_ | rfl) <;> first | with_reducible rfl | (congr 1 <;> omega) | (congr 1 <;> simp; done) | (simp; done) | exact encB_snoc _ _ | skip)

def ofF (l : List Int) (i : Nat) (m : List (List UInt8)) : List UInt8 := m.getD (nxV l i (m.length : Int)) []
theorem ofF_mem (l : List Int) (i : Nat) (m : List (List UInt8)) (hm : 1 ≤ m.length) : ofF l i m ∈ m := by
  have := nxV_lt l i (m.length : Int) (by omega)
  unfold ofF
  rw [List.getD_eq_getElem?_getD, List.getElem?_eq_getElem (by omega)]
  exact List.getElem_mem _
theorem ofV (l : List Int) (i : Nat) (m : List (List UInt8)) (hi : i ≤ l.length) (hl : l.length ≤ 9223372036854775807) (hm : 1 ≤ m.length ∧ m.length ≤ 1000000) : DoesH (CG G) 75 [.op 0 0 0, .d (strs m)] (srcB l i) [.d (.s (ofF l i m))] (srcB l (nxt l i)) := by
  have hlen : (m.map D.s).length = m.length := by simp
  have hx := nextV (G := G) l i ((m.map D.s).length : Int) hi hl (by omega)
  have hr := nxV_lt l i (m.length : Int) (by omega)
  unfold ofF
  rw [hlen] at hx
  generalize hg : nxV l i (m.length : Int) = r at hx hr
  have hr' : r < m.length := by omega
  have hgd : m.getD r [] = m[r] := by simp [hr']
  rw [hgd]
  rw [← hlen] at hx
  refine DoesH.mk (n := 12) Tryz.func75 rfl rfl rfl (Nat.le_of_ble_eq_true rfl) rfl ?_
  refine callh [(0, 0)] hx ?_ ?_
  · ((repeat' constructor) <;> (first | refine hold ?_ | rfl) <;> first | with_reducible rfl | (congr 1 <;> omega) | (congr 1 <;> simp; done) | (simp; done) | exact encB_snoc _ _ | skip)
  refine Eng.get_at r rfl (x := D.s m[r]) (by simp [hr']) ?_
  refine end_ok [] ?_
  ((repeat' constructor) <;> (first | refine hold ?_ | rfl) <;> first | with_reducible rfl | (congr 1 <;> omega) | (congr 1 <;> simp; done) | (simp; done) | exact encB_snoc _ _ | skip)

def alpha7 : List UInt8 := [97, 98, 13, 10, 48, 59, 32]
def byW (l : List Int) : Nat → Nat → List UInt8 → List UInt8 × Nat
  | 0, i, o => (o, i)
  | k + 1, i, o => byW l k (nxt l i) (o ++ [alpha7.getD (nxV l i 7) 0])
def bytesF (l : List Int) (i : Nat) (most : Int) : List UInt8 × Nat := byW l (nxV l i (most + 1)) (nxt l i) []
theorem nxt_le' {l : List Int} {i : Nat} (h : i ≤ l.length) : i ≤ nxt l i ∧ nxt l i ≤ l.length := by unfold nxt; split <;> omega
theorem byW_len (l : List Int) : ∀ (k i : Nat) (o : List UInt8), (byW l k i o).1.length = o.length + k
  | 0, _, _ => rfl
  | k + 1, i, o => by simp only [byW]; rw [byW_len l k]; simp; omega
theorem byW_le (l : List Int) : ∀ (k i : Nat) (o : List UInt8), i ≤ l.length → i ≤ (byW l k i o).2 ∧ (byW l k i o).2 ≤ l.length
  | 0, i, _, h => ⟨Nat.le_refl i, h⟩
  | k + 1, i, o, h => by
    have := nxt_le' h
    have := byW_le l k (nxt l i) (o ++ [alpha7.getD (nxV l i 7) 0]) this.2
    simp only [byW]; omega

theorem bytesV (l : List Int) (i : Nat) (most : Int) (hi : i ≤ l.length) (hl : l.length ≤ 9223372036854775807) (hm : 0 ≤ most ∧ most ≤ 1000000) : DoesH (CG G) 45 [.op 0 0 0, .d (.i .i64 most)] (srcB l i) [.os 16] ((16, some (.buf 1 (encB (bytesF l i most).1))) :: srcB l (bytesF l i most).2) := by
  unfold bytesF
  have hr := nxV_lt l i (most + 1) (by omega)
  have hx := nextV (G := G) l i (most + 1) hi hl (by omega)
  generalize hg : nxV l i (most + 1) = r at hx hr
  have hn := nxt_le' hi
  generalize hfin : byW l r (nxt l i) [] = fin
  refine DoesH.mk (n := 22) Tryz.func45 rfl rfl rfl (Nat.le_of_ble_eq_true rfl) rfl ?_
  repeat refine seq_on ?_
  refine ar ⟨by omega, by omega⟩ ?_
  refine callh [(0, 0)] hx ?_ ?_
  · ((repeat' constructor) <;> (first | refine hold ?_ | rfl) <;> first | with_reducible rfl | (congr 1 <;> omega) | (congr 1 <;> simp; done) | (simp; done) | exact encB_snoc _ _ | skip)
  repeat refine seq_on ?_
  apply loop_inv (fun x : Nat × Nat × List UInt8 => x.2.1 ≤ l.length ∧ x.2.2.length + x.1 ≤ 1000000 ∧ byW l x.1 x.2.1 x.2.2 = fin) (fun x => ⟨[(0, .op 0 0 0), (5, .os 16), (6, .d (.i .i64 (x.1 : Int)))], (16, some (.buf 1 (encB x.2.2))) :: srcB l x.2.1, 2⟩) (fun x => x.1) (r, nxt l i, []) ⟨hn.2, by simp; omega, hfin⟩ [(16, _)]
  · simp only [srcB]
    ((repeat' constructor) <;> (first | refine hold ?_ | rfl) <;> first | with_reducible rfl | (congr 1 <;> omega) | (congr 1 <;> simp; done) | (simp; done) | exact encB_snoc _ _ | skip)
  · rintro ⟨k, j, o⟩ ⟨h1, h2, h3⟩
    simp only at h1 h2 h3
    repeat refine seq_on ?_
    refine cmp_dec (fun h => ?_) (fun h => ?_)
    · obtain ⟨k, rfl⟩ : ∃ q, k = q + 1 := ⟨k - 1, by omega⟩
      have h7 := nxV_lt l j 7 (by omega)
      have h7' := nextV (G := G) l j 7 h1 hl (by omega)
      simp only [byW] at h3
      generalize hg7 : nxV l j 7 = q at h7 h7' h3
      have hal : alpha7[q]? = some (alpha7.getD q 0) := by
        have : q < alpha7.length := by have : alpha7.length = 7 := rfl
                                       omega
        simp [this]
      repeat refine seq_on ?_
      refine callh [(0, 0)] h7' ?_ ?_
      · ((repeat' constructor) <;> (first | refine hold ?_ | rfl) <;> first | with_reducible rfl | (congr 1 <;> omega) | (congr 1 <;> simp; done) | (simp; done) | exact encB_snoc _ _ | skip)
      refine Eng.get_at q rfl hal ?_
      refine app_ok (by rw [encB_len]; simp; omega) ?_
      repeat refine seq_on ?_
      refine ar ⟨by omega, by omega⟩ ?_
      apply again (k, nxt l j, o ++ [alpha7.getD q 0]) [(16, _)] ⟨(nxt_le' h1).2, by simp; omega, h3⟩ (by simp only; omega)
      simp only [srcB]
      ((repeat' constructor) <;> (first | refine hold ?_ | rfl) <;> first | with_reducible rfl | (congr 1 <;> omega) | (congr 1 <;> simp; done) | (simp; done) | exact encB_snoc _ _ | skip)
      all_goals (rw [encB_app]; rfl)
    · obtain rfl : k = 0 := by omega
      simp only [byW] at h3
      subst h3
      repeat refine seq_on ?_
      apply end_ok [(16, _)]
      simp only [srcB]
      ((repeat' constructor) <;> (first | refine hold ?_ | rfl) <;> first | with_reducible rfl | (congr 1 <;> omega) | (congr 1 <;> simp; done) | (simp; done) | exact encB_snoc _ _ | skip)
end Go.Proofs.YtbfkfmpfdafogaaGreatDoor

