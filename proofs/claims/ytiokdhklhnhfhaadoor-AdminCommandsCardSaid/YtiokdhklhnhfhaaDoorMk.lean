import Derived.Test.YtiokdhklhnhfhaaDoorMj
namespace Go.Proofs.YtiokdhklhnhfhaaDoor
variable {G : List Go.Eng.Gl}
open Go.Eng
attribute [local irreducible] Hold
set_option maxRecDepth 100000

/-- A record that the law made. -/
structure Good (x : Rec) : Prop where
  ser : 1 ≤ x.ser ∧ x.ser ≤ 1000000000
  exc : 0 ≤ x.exc ∧ x.exc < 50
  rea : 1 ≤ x.rea ∧ x.rea ≤ 7
  len : x.fl.length ≤ 2
  mem : ∀ y, y ∈ x.fl → y ∈ words3

structure Out where
  exc : Nat
  rea : Nat
  s : Bool
  b : Bool
  f : List (List UInt8)
  j : Nat
def Out.mk1 (o : Out) (ser : Int) : Rec := ⟨ser, o.exc, 1 + o.rea, o.s, o.b, o.f⟩

def walkM (n : Nat) (cap : Int) (D : Nat → Out) : Nat → Nat → Int → List Rec → Int × List Rec
  | 0, _, ser, rs => (ser, rs)
  | k + 1, i, ser, rs => if i < n then walkM n cap D k (D i).j (serF ser) (lastF cap (rs ++ [(D i).mk1 (serF ser)])) else (ser, rs)

def f40s (l : List Int) (cap : Int) (x : Nat × Int × List Rec) : AS :=
  ⟨[(4, .op 16 0 0), (5, .op 17 0 0), (6, .op 18 0 0), (7, .op 19 0 0), (8, .op 20 0 0)],
   [(16, some (.box [.d (.i .i64 0), .d (.i .i64 0), .nl 6])), (17, some (.box [.d (.i .i64 0), .d (.i .i64 0), .nl 6])), (18, some (.box [.d (ints l), .d (.i .i64 (x.1 : Int))])),
    (19, some (.box [.d (.i .i64 cap), .d (.i .i64 x.2.1), .d (recs x.2.2)])), (20, some (.box [.d (.i .i64 cap), .d (.i .i64 x.2.1), .d (recs x.2.2)]))], 2⟩

end Go.Proofs.YtiokdhklhnhfhaaDoor

namespace Go.Proofs.YtiokdhklhnhfhaaDoor
variable {G : List Go.Eng.Gl}
open Go.Eng
attribute [local irreducible] Hold
set_option maxRecDepth 100000

def s87s (l : List (List UInt8)) (i : Nat) : AS := ⟨[(0, .d (strs l)), (1, .d (strs l)), (5, .d (.i .i64 (i : Int)))], [], 2⟩
theorem same87 (l : List (List UInt8)) (h : l.length ≤ 68719476736) : Does (CG G) 48 [strs l, strs l] [.b true] := by
  have hlen : (l.map D.s).length = l.length := by simp
  refine Does.mk (n := 26) Tryd.func48 rfl rfl rfl (Nat.le_of_ble_eq_true rfl) ?_
  repeat refine seq_on ?_
  refine cmp_no (fun h => h rfl) ?_
  repeat refine seq_on ?_
  apply loop_inv (fun i => i ≤ l.length) (s87s l) (fun i => l.length - i) 0 (Nat.zero_le _) []
  · ((repeat' constructor) <;> (first | refine hold ?_ | rfl) <;> first | with_reducible rfl | (congr 1 <;> omega) | (congr 1 <;> simp; done) | (simp; done) | exact encB_snoc _ _ | skip)
  intro i hi
  repeat refine seq_on ?_
  refine cmp_dec (fun h => ?_) (fun h => ?_)
  · have hi' : i < l.length := by omega
    repeat refine seq_on ?_
    refine Eng.get_at i rfl (x := .s l[i]) (by simp [hi']) ?_
    refine Eng.get_at i rfl (x := .s l[i]) (by simp [hi']) ?_
    refine cmp_no (fun h => h rfl) ?_
    refine ⟨draw_ok (by kernel_rfl), ?_⟩
    repeat refine seq_on ?_
    refine ar ⟨by omega, by omega⟩ ?_
    apply again (i + 1) [] (by omega) (by omega)
    ((repeat' constructor) <;> (first | refine hold ?_ | rfl) <;> first | with_reducible rfl | (congr 1 <;> omega) | (congr 1 <;> simp; done) | (simp; done) | exact encB_snoc _ _ | skip)
  · repeat refine seq_on ?_
    rfl

def s41s (cap ser : Int) (l : List Rec) (i : Nat) : AS :=
  ⟨[(2, .op 16 0 0), (3, .op 17 0 0), (5, .d (.i .i64 (i : Int)))], [(16, some (.box [.d (.i .i64 cap), .d (.i .i64 ser), .d (recs l)])), (17, some (.box [.d (.i .i64 cap), .d (.i .i64 ser), .d (recs l)]))], 2⟩
end Go.Proofs.YtiokdhklhnhfhaaDoor

