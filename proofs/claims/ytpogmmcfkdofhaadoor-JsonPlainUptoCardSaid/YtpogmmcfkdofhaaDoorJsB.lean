import Derived.Test.YtpogmmcfkdofhaaDoorJsA
namespace Go.Proofs.YtpogmmcfkdofhaaDoor
open Go.Eng
attribute [local irreducible] Hold

def hx (c : UInt8) : List UInt8 := [hexd (c.toNat / 16), hexd (c.toNat % 16)]
def hexT (l : List UInt8) : List UInt8 := (l.map hx).flatten
theorem hexT_len (l : List UInt8) : (hexT l).length = 2 * l.length := by
  induction l with
  | nil => rfl
  | cons c l ih =>
    have : hexT (c :: l) = hx c ++ hexT l := by simp [hexT]
    rw [this, List.length_append, ih]
    simp only [hx, List.length_cons, List.length_nil]; omega
theorem hexT_snoc (l : List UInt8) (c : UInt8) : hexT (l ++ [c]) = hexT l ++ hx c := by simp [hexT]
theorem take_snoc {l : List UInt8} {i : Nat} (h : i < l.length) : l.take (i + 1) = l.take i ++ [l.getD i 0] := by
  rw [List.take_add_one, List.getElem?_eq_getElem h]; simp [h]

def f85s (l : List UInt8) (i : Nat) : AS := ⟨[(0, .d (.sl 1 (encB l))), (3, .d (.s (hexT (l.take i)))), (4, .d (.i .i64 (i : Int)))], [], 1⟩

set_option maxRecDepth 100000 in
theorem text85 (l : List UInt8) (h : l.length ≤ 1099511627776) : Does C 85 [.sl 1 (encB l)] [.s (hexT l)] := by
  refine Does.mk (n := 39) Tryd.func85 rfl rfl rfl (Nat.le_of_ble_eq_true rfl) ?_
  repeat refine seq_on ?_
  refine loop_inv (fun i => i ≤ l.length) (f85s l) (fun i => l.length - i) 0 (Nat.zero_le _) [] ?_ ?_
  · ((repeat' constructor) <;> refine hold ?_ <;> first | with_reducible rfl | (congr 1 <;> omega) | (congr 1 <;> simp; done) | (simp; done) | exact encB_snoc _ _ | skip)
  intro i hi
  have hlen := encB_len l
  repeat refine seq_on ?_
  refine cmp_dec (fun h1 => ?_) (fun h1 => ?_)
  · repeat refine seq_on ?_
    have hi' : i < l.length := by omega
    have hc := u8_lo (l.getD i 0)
    have hq : (l.getD i 0).toNat / 16 < 16 := by omega
    have hr : (l.getD i 0).toNat % 16 < 16 := Nat.mod_lt _ (by decide)
    have htd : ((l.getD i 0).toNat : Int).tdiv 16 = (((l.getD i 0).toNat / 16 : Nat) : Int) := rfl
    have htm : ((l.getD i 0).toNat : Int).tmod 16 = (((l.getD i 0).toNat % 16 : Nat) : Int) := rfl
    have x1 := hex_at hq
    have x2 := hex_at hr
    have hT : (hexT (l.take i)).length = 2 * i := by rw [hexT_len, List.length_take]; omega
    refine Eng.get_at i rfl (encB_get hi') ?_
    refine div_ok (by decide) ?_
    refine ar_is (((l.getD i 0).toNat / 16 : Nat) : Int) (wrap_u8 (by omega) (by omega)) ?_
    refine Eng.get_at i rfl (encB_get hi') ?_
    refine div_ok (by decide) ?_
    refine ar_is (((l.getD i 0).toNat / 16 : Nat) : Int) (wrap_u8 (by omega) (by omega)) ?_
    refine ar8 ⟨by omega, by omega⟩ ?_
    refine bnd ((l.getD i 0).toNat / 16 + 1) (by omega) (by show _ ≤ 16; omega) ?_
    refine bnd ((l.getD i 0).toNat / 16) rfl (by omega) ?_
    refine len_ok (Nat.le_trans (Nat.add_le_add_left (Nat.le_of_eq (congrArg List.length x1)) _) (by rw [hT]; simp only [List.length_cons, List.length_nil]; omega)) ?_
    refine Eng.get_at i rfl (encB_get hi') ?_
    refine div_ok (by decide) ?_
    refine Eng.get_at i rfl (encB_get hi') ?_
    refine div_ok (by decide) ?_
    refine ar8 ⟨by omega, by omega⟩ ?_
    refine bnd ((l.getD i 0).toNat % 16 + 1) (by omega) (by show _ ≤ 16; omega) ?_
    refine bnd ((l.getD i 0).toNat % 16) rfl (by omega) ?_
    refine len_ok (Nat.le_trans (Nat.add_le_add (Nat.le_of_eq ((List.length_append).trans (congrArg (fun x => _ + List.length x) x1))) (Nat.le_of_eq (congrArg List.length x2))) (by rw [hT]; simp only [List.length_cons, List.length_nil]; omega)) ?_
    refine And.intro (draw_ok (by kernel_rfl)) ?_
    refine ar ⟨by omega, by omega⟩ ?_
    refine again (i + 1) [] (by omega) (by omega) ?_
    ((repeat' constructor) <;> refine hold ?_ <;> first | with_reducible rfl | (congr 1 <;> omega) | (congr 1 <;> simp; done) | (simp; done) | exact encB_snoc _ _ | skip)
    rw [take_snoc hi', hexT_snoc]
    refine congrArg D.s ?_
    exact (congrArg (fun x => (hexT (l.take i) ++ x) ++ _) x1).trans ((congrArg (fun x => (hexT (l.take i) ++ [hexd ((l.getD i 0).toNat / 16)]) ++ x) x2).trans (List.append_assoc _ _ _))
  · repeat refine seq_on ?_
    refine congrArg (fun x => [D.s x]) ?_
    rw [List.take_of_length_le (by omega)]
end Go.Proofs.YtpogmmcfkdofhaaDoor
