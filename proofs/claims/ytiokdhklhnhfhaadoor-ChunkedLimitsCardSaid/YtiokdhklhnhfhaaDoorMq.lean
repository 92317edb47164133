import Derived.Test.YtiokdhklhnhfhaaDoorMp
namespace Go.Proofs.YtiokdhklhnhfhaaDoor
variable {G : List Go.Eng.Gl}
open Go.Eng
attribute [local irreducible] Hold
set_option maxRecDepth 100000

theorem awake09 : Does (CN G) 28 [] [.b true] := by
  have hd3 : printF 16 3 = [51] := by unfold printF; rw [if_neg (by decide)]; exact digs_one (by decide)
  have he : encF [[97, 98, 99]] = [51, 13, 10, 97, 98, 99, 13, 10, 48, 13, 10, 13, 10] := by
    unfold encF encChunk
    simp [hd3]
  have h1 := encP (G := G) [[97, 98, 99]] (by rw [he]; decide) (by decide)
  have h2 := decP (G := gN G) (encF [[97, 98, 99]]) (by rw [he]; decide)
  have h3 := dec_enc [[97, 98, 99]] [] (by decide)
  rw [List.append_nil] at h3
  rw [h3] at h2
  rw [he] at h1 h2
  refine Does.mk (n := 31) Tryd.func28 rfl rfl rfl (Nat.le_of_ble_eq_true rfl) ?_
  repeat refine seq_on ?_
  refine call_by h1 ?_
  repeat refine seq_on ?_
  refine call_by h2 ?_
  repeat refine seq_on ?_
  refine bytes_is [51, 13, 10, 97, 98, 99, 13, 10, 48, 13, 10, 13, 10] rfl ?_
  refine cmp_yes rfl ?_
  refine bytes_is [97, 98, 99] rfl ?_
  refine cmp_yes rfl ?_
  refine cmp_yes rfl ?_
  refine cmp_yes rfl ?_
  rfl
theorem law29 (l : List Int) (n : Int) (x : UInt8) (raw more : List UInt8) (wild : Bool) (hn : I64 n) : Does (CN G) 7 [ints l, .i .i64 n, .i .u8 (x.toNat : Int), .sl 1 (encB raw), .sl 1 (encB more), .b wild] [.b true] := by
  have hw := wireC (G := gN G) l n x hn
  have hwl := wireB_len (l.take 80) n x
  generalize wireB (l.take 80) n x = b at hw hwl
  have hs := short35 (G := gN G) more 20
  have hs' := short35 (G := gN G) raw 400
  refine Does.mk (n := 60) Tryd.func7 rfl rfl rfl (Nat.le_of_ble_eq_true rfl) ?_
  refine call_alt (callh [] hw ?_ ?_)
  · ((repeat' constructor) <;> refine hold ?_ <;> first | with_reducible rfl | (congr 1 <;> omega) | (congr 1 <;> simp; done) | (simp; done) | exact encB_snoc _ _ | skip)
  refine call_by hs ?_
  refine app_ok (by simp only [encB_len]; simp; omega) ?_
  apply seq_inv (fun y : List UInt8 => y.length ≤ 500) (fun y => ⟨[(13, .d (.sl 1 (encB y)))], [], 2⟩)
  · cases wild with
    | false =>
      repeat refine seq_on ?_
      apply cut_inv (b ++ more.take 20) [] (by simp; omega)
      ((repeat' constructor) <;> refine hold ?_ <;> first | with_reducible rfl | (congr 1 <;> omega) | (congr 1 <;> simp; done) | (simp; done) | exact encB_snoc _ _ | skip)
      rw [encB_app]
    | true =>
      repeat refine seq_on ?_
      refine call_by hs' ?_
      apply cut_inv (raw.take 400) [] (by simp; omega)
      ((repeat' constructor) <;> refine hold ?_ <;> first | with_reducible rfl | (congr 1 <;> omega) | (congr 1 <;> simp; done) | (simp; done) | exact encB_snoc _ _ | skip)
  · intro y hy
    have h1 := decP (G := gN G) y (by omega)
    have h2 := decR (G := gN G) y (by omega)
    repeat refine seq_on ?_
    refine call_by h1 ?_
    refine call_by h2 ?_
    refine bytes_is (decF y).out rfl ?_
    refine bytes_is (decF y).out rfl ?_
    refine cmp_yes rfl ?_
    refine cmp_yes rfl ?_
    refine cmp_yes rfl ?_
    refine call_by awake09 ?_
    rfl
end Go.Proofs.YtiokdhklhnhfhaaDoor

