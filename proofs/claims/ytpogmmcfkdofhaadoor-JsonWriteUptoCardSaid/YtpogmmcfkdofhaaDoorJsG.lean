import Derived.Test.YtpogmmcfkdofhaaDoorJsF
namespace Go.Proofs.YtpogmmcfkdofhaaDoor
open Go.Eng
attribute [local irreducible] Hold

theorem put60 (xs ys : List UInt8) (h : xs.length + ys.length ≤ 68719476736) : DoesH C 60 [.d (.sl 1 (encB ys)), .op 0 0 0] [(0, some (.box [.os 1])), (1, some (.buf 1 (encB xs)))] []
    [(0, some (.box [.os 16])), (16, some (.buf 1 (encB (xs ++ ys))))] := by
  refine DoesH.mk (n := 6) Tryd.func60 rfl rfl rfl (Nat.le_of_ble_eq_true rfl) rfl ?_
  refine app_ok (by simp only [encB_len]; omega) ?_
  refine end_ok [(16, 48)] ?_
  ((repeat' constructor) <;> refine hold ?_ <;> first | with_reducible rfl | (congr 1 <;> omega) | (congr 1 <;> simp; done) | (simp; done) | exact encB_snoc _ _ | skip)
  exact (List.map_append ..).symm

end Go.Proofs.YtpogmmcfkdofhaaDoor
