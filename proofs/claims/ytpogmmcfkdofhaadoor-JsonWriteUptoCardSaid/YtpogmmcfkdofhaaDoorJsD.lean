import Derived.Test.YtpogmmcfkdofhaaDoorJsC
namespace Go.Proofs.YtpogmmcfkdofhaaDoor
open Go.Eng
attribute [local irreducible] Hold

def quos (s : List UInt8) : List UInt8 := (s.map quo).flatten
def quoteF (s : List UInt8) : List UInt8 := (34 :: quos s) ++ [34]
theorem quos_snoc (l : List UInt8) (c : UInt8) : quos (l ++ [c]) = quos l ++ quo c := by simp [quos]
theorem quo_len (c : UInt8) : (quo c).length ≤ 6 := by
  unfold quo
  split
  · simp
  · split <;> simp
theorem quos_len (l : List UInt8) : (quos l).length ≤ 6 * l.length := by
  induction l with
  | nil => simp [quos]
  | cons c l ih =>
    have : quos (c :: l) = quo c ++ quos l := by simp [quos]
    have := quo_len c
    simp only [*, List.length_append, List.length_cons]; omega

def f37s (s : List UInt8) (i : Nat) : AS := ⟨[(0, .d (.s s)), (3, .d (.s (34 :: quos (s.take i)))), (4, .d (.i .i64 (i : Int)))], [], 1⟩

theorem quote37 (s : List UInt8) (h : s.length ≤ 1099511627776) : Does C 37 [.s s] [.s (quoteF s)] := by
  refine Does.mk (n := 23) Tryd.func37 rfl rfl rfl (Nat.le_of_ble_eq_true rfl) ?_
  repeat refine seq_on ?_
  refine bytes_is [34] rfl ?_
  repeat refine seq_on ?_
  refine loop_inv (fun i => i ≤ s.length) (f37s s) (fun i => s.length - i) 0 (Nat.zero_le _) [] ?_ ?_
  · ((repeat' constructor) <;> refine hold ?_ <;> first | with_reducible rfl | (congr 1 <;> omega) | (congr 1 <;> simp; done) | (simp; done) | exact encB_snoc _ _ | skip)
  intro i hi
  repeat refine seq_on ?_
  refine cmp_dec (fun h1 => ?_) (fun h1 => ?_)
  · repeat refine seq_on ?_
    have hi' : i < s.length := by omega
    have hl := quos_len (s.take i)
    have hq := quo_len (s.getD i 0)
    have ht : (s.take i).length = i := by rw [List.length_take]; omega
    refine Eng.get_at i rfl (get_d 0 hi') ?_
    refine call_by (quoted63 _) ?_
    refine len_ok (by simp only [List.length_cons]; omega) ?_
    refine ar ⟨by omega, by omega⟩ ?_
    refine again (i + 1) [] (by omega) (by omega) ?_
    ((repeat' constructor) <;> refine hold ?_ <;> first | with_reducible rfl | (congr 1 <;> omega) | (congr 1 <;> simp; done) | (simp; done) | exact encB_snoc _ _ | skip)
    refine congrArg D.s ?_
    rw [take_snoc hi', quos_snoc]; rfl
  · repeat refine seq_on ?_
    refine bytes_is [34] rfl ?_
    have hl := quos_len s
    rw [List.take_of_length_le (by omega)]
    refine len_ok (by simp only [List.length_cons, List.length_nil]; omega) ?_
    exact rfl
end Go.Proofs.YtpogmmcfkdofhaaDoor
