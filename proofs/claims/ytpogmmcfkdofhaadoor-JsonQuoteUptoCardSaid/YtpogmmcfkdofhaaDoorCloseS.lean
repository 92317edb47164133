/-
  A slice of integers that came in reads as a list.
-/
import Derived.Test.YtpogmmcfkdofhaaDoorClose
namespace Go.Proofs.YtpogmmcfkdofhaaDoor
open Go.Eng Go.ChangeShapes Go.WideShapes Go.ChangeAt Go.RowKit

theorem has_block {P : Program} {W : World} {r : Reach} {base : Nat} {a : Addr} {e : TypeId} {n : Nat} (h : W.has P r base a e n) : a.spot = none ∧ ∃ arr T fz, W.heap[a.block]? = some (.cells arr T fz) := by
  obtain ⟨_, h1, row, cells, h2, _⟩ := h
  refine ⟨h1, ?_⟩
  unfold World.shape? at h2
  split at h2
  · rename_i arr T fz hh; exact ⟨arr, T, fz, hh⟩
  · cases h2

theorem slice_read {H : Type} {enc : TypeId × Value → H} {P : Program} {W : World} {base : Nat} {t e : TypeId} {k : IntKind} {v : Value} {d : DataW H} {ps : List MemPlace}
    (hu : P.underlying t = some (.slice e)) (he : P.underlying e = some (.int k)) (hce : P.cellsOf e = 1) (hval : Value.okWide P W .any base t v)
    (hd : DataW.Trod enc P W 0 (fun _ => true) true t v d ps) : ∃ zs : List Int, zs.length ≤ 9223372036854775807 ∧ (∀ n, n ∈ zs → (Lit.int k n).wf = true) ∧ Rd W (fun _ => False) (.sl 1 (zs.map (D.i k))) v := by
  obtain ⟨a0, len0, cap0, rfl⟩ := okWide_slice hu hval
  obtain ⟨fuel, hf⟩ := hd
  rcases open_ints hu he hce hf with ⟨hcs, _⟩ | ⟨x, l, c, zs, hcs, _, hl, hm, hz, _, hcell, hwz⟩
  · simp [Value.cells] at hcs
    obtain ⟨rfl, rfl, rfl⟩ := hcs
    exact ⟨[], by simp, (fun n hn => by cases hn), .slnil 1⟩
  · simp [Value.cells] at hcs
    obtain ⟨rfl, rfl, rfl⟩ := hcs
    have hz : zs.length = cap0 := by simpa using hz
    have hok : W.has P .any base x e cap0 := by
      unfold Value.okWide at hval
      rw [hu] at hval
      simp only [Cell.okWide, hu, Cell.ok] at hval
      exact hval.2.2
    obtain ⟨hs, arr, T, fz, hh⟩ := has_block hok
    obtain ⟨blk, off, spot⟩ := x
    simp only at hs hh
    subst hs
    have hmax : cap0 ≤ 9223372036854775807 := hm
    have hval' : ∀ (j m : Nat) (y c : D), ((zs.take len0).map (D.i k))[j]? = some y → y.cells[m]? = some c → m = 0 ∧ j < len0 ∧ j < zs.length ∧ y = .i k (zs.getD j 0) ∧ c = .i k (zs.getD j 0) := by
      intro j m y c hy hc
      simp only [List.getElem?_map, Option.map_eq_some_iff] at hy
      obtain ⟨z, hz1, rfl⟩ := hy
      rw [List.getElem?_take] at hz1
      split at hz1
      · rename_i hj
        have hlt := (List.getElem?_eq_some_iff.1 hz1).1
        have hg : zs.getD j 0 = z := by simp [List.getD_eq_getElem?_getD, hz1]
        have hm0 : m = 0 := by
          cases m with
          | zero => rfl
          | succ m => simp [D.cells] at hc
        subst hm0
        have : c = .i k z := by simpa [D.cells] using hc.symm
        exact ⟨rfl, hj, hlt, by rw [hg], by rw [hg, this]⟩
      · cases hz1
    refine ⟨zs.take len0, by simp; omega, fun n hn => hwz n (List.mem_of_mem_take hn), ?_⟩
    refine .sl 1 _ blk off len0 cap0 arr T fz (fun j _ => .int k (zs.getD j 0)) hh (fun h => h) (by simp; omega) hl (fun j y hy => ?_) (fun j m y c hy hc => ?_) fun j m y c hy hc => ?_
    · simp only [List.getElem?_map, Option.map_eq_some_iff] at hy
      obtain ⟨z, _, rfl⟩ := hy
      exact ⟨rfl, fun c hc => by simp [D.cells] at hc; subst hc; rfl⟩
    · obtain ⟨rfl, hj, hlt, _, _⟩ := hval' j m y c hy hc
      have := hcell j hlt
      rw [Addr.add_mk, cell_of hh] at this
      simpa using this
    · obtain ⟨rfl, hj, hlt, _, rfl⟩ := hval' j m y c hy hc
      exact .i k _

theorem open_intsl {H : Type} {enc : TypeId × Value → H} {P : Program} {W : World} {base : Nat} {t e : TypeId} {v : Value} {d : DataW H} {ps : List MemPlace}
    (hu : P.underlying t = some (.slice e)) (he : P.underlying e = some (.int .i64)) (hce : P.cellsOf e = 1) (hval : Value.okWide P W .any base t v)
    (hd : DataW.Trod enc P W 0 (fun _ => true) true t v d ps) : ∃ zs : List Int, zs.length ≤ 9223372036854775807 ∧ Rd W (fun _ => False) (ints zs) v := by
  obtain ⟨zs, h1, _, h3⟩ := slice_read hu he hce hval hd
  exact ⟨zs, h1, h3⟩

theorem open_bytesl {H : Type} {enc : TypeId × Value → H} {P : Program} {W : World} {base : Nat} {t e : TypeId} {v : Value} {d : DataW H} {ps : List MemPlace}
    (hu : P.underlying t = some (.slice e)) (he : P.underlying e = some (.int .u8)) (hce : P.cellsOf e = 1) (hval : Value.okWide P W .any base t v)
    (hd : DataW.Trod enc P W 0 (fun _ => true) true t v d ps) : ∃ bs : List UInt8, bs.length ≤ 9223372036854775807 ∧ Rd W (fun _ => False) (.sl 1 (encB bs)) v := by
  obtain ⟨zs, h1, h2, h3⟩ := slice_read hu he hce hval hd
  refine ⟨zs.map fun z => UInt8.ofNat z.toNat, by simpa using h1, ?_⟩
  have : encB (zs.map fun z => UInt8.ofNat z.toNat) = zs.map (D.i .u8) := by
    simp only [encB, List.map_map]
    apply List.map_congr_left
    intro z hz
    have hw : (decide (IntKind.u8.min ≤ z) && decide (z ≤ IntKind.u8.max)) = true := h2 z hz
    have e1 : IntKind.u8.min = 0 := by decide
    have e2 : IntKind.u8.max = 255 := by decide
    simp only [e1, e2, Bool.and_eq_true, decide_eq_true_eq] at hw
    simp only [Function.comp]
    congr 1
    rw [UInt8.toNat_ofNat']
    omega
  rw [this]; exact h3

theorem str_read {W : World} {X : Nat → Prop} (s : ByteArray) : Rd W X (.s s.data.toList) (.string s) := by
  obtain ⟨⟨l⟩⟩ := s
  exact .s l
end Go.Proofs.YtpogmmcfkdofhaaDoor
