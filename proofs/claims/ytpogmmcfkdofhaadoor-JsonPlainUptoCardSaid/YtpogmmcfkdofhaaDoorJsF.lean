import Derived.Test.YtpogmmcfkdofhaaDoorJsE
namespace Go.Proofs.YtpogmmcfkdofhaaDoor
open Go.Eng
attribute [local irreducible] Hold

noncomputable def byteOfF (s : List UInt8) : UInt8 :=
  if ¬ ((s.getD 0 0).toNat : Int) = 92 ∨ (s.length : Int) < 2 then s.getD 0 0
  else if ¬ ((s.getD 1 0).toNat : Int) = 117 ∨ (s.length : Int) < 6 then s.getD 1 0
  else UInt8.ofNat (parseF 16 255 ((s.take 6).drop 4)).1.toNat

theorem byteOf64 (s : List UInt8) (h0 : 1 ≤ s.length) (hs : s.length ≤ 9223372036854775807) : Does C 64 [.s s] [.i .u8 ((byteOfF s).toNat : Int)] := by
  refine Does.mk (n := 33) Tryd.func64 rfl rfl rfl (Nat.le_of_ble_eq_true rfl) ?_
  repeat refine seq_on ?_
  refine Eng.get_at 0 rfl (get_d 0 (by omega)) ?_
  have first : ∀ h : ¬ ((s.getD 0 0).toNat : Int) = 92 ∨ (s.length : Int) < 2, byteOfF s = s.getD 0 0 := fun h => by unfold byteOfF; rw [if_pos h]
  refine cmp_dec (fun h1 => ?_) (fun h1 => ?_)
  · repeat refine seq_on ?_
    refine Eng.get_at 0 rfl (get_d 0 (by omega)) ?_
    rw [first (.inl h1)]; exact rfl
  · refine cmp_dec (fun h2 => ?_) (fun h2 => ?_)
    · repeat refine seq_on ?_
      refine Eng.get_at 0 rfl (get_d 0 (by omega)) ?_
      rw [first (.inr h2)]; exact rfl
    · have hn : ¬ (¬ ((s.getD 0 0).toNat : Int) = 92 ∨ (s.length : Int) < 2) := fun h => h.elim h1 h2
      have second : ∀ h : ¬ ((s.getD 1 0).toNat : Int) = 117 ∨ (s.length : Int) < 6, byteOfF s = s.getD 1 0 := fun h => by unfold byteOfF; rw [if_neg hn, if_pos h]
      repeat refine seq_on ?_
      refine Eng.get_at 1 rfl (get_d 0 (by omega)) ?_
      refine cmp_dec (fun h3 => ?_) (fun h3 => ?_)
      · repeat refine seq_on ?_
        refine Eng.get_at 1 rfl (get_d 0 (by omega)) ?_
        rw [second (.inl h3)]; exact rfl
      · refine cmp_dec (fun h4 => ?_) (fun h4 => ?_)
        · repeat refine seq_on ?_
          refine Eng.get_at 1 rfl (get_d 0 (by omega)) ?_
          rw [second (.inr h4)]; exact rfl
        · repeat refine seq_on ?_
          refine bnd 6 rfl (by omega) ?_
          refine bnd 4 rfl (by omega) ?_
          have hp := parse_le (base := 16) (most := 255) (s := (s.take 6).drop 4) (by omega) (by omega)
          refine call_by (parseHex24 _ 255 ⟨by decide, by decide⟩ (by simp only [List.length_drop, List.length_take]; omega)) ?_
          refine ar8 hp ?_
          refine congrArg (fun x => [D.i .u8 x]) ?_
          have : byteOfF s = UInt8.ofNat (parseF 16 255 ((s.take 6).drop 4)).1.toNat := by
            unfold byteOfF; rw [if_neg hn, if_neg (fun h => h.elim h3 h4)]
          rw [this, UInt8.toNat_ofNat']
          omega
end Go.Proofs.YtpogmmcfkdofhaaDoor
