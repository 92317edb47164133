import Derived.Test.YtpogmmcfkdofhaaDoorMc
import Derived.Test.YtpogmmcfkdofhaaDoorProg
import Derived.KernelRfl
/-
  The seat's types and tables for the engine. The list 'tab' is printed by wip/Tab.lean off the dump.
-/
namespace Go.Proofs.YtpogmmcfkdofhaaDoor
open Go.Eng
def tab : List (Nat × TyI) := [
  (1, ⟨1, false, [.d (.x .nilFunc)], 8, .func⟩),
  (2, ⟨1, false, [.d (.i .i64 0)], 8, .int .i64⟩),
  (3, ⟨1, false, [.d (.i .i64 0)], 8, .int .i64⟩),
  (4, ⟨1, false, [.d (.b false)], 1, .bool⟩),
  (5, ⟨1, false, [.d (.i .u8 0)], 1, .int .u8⟩),
  (6, ⟨1, false, [.d (.i .u8 0)], 1, .int .u8⟩),
  (7, ⟨4, true, [.d (.i .i64 0), .d (.i .i64 0), .d (.b false), .d (.i .u8 0)], 24, .struct [(0, 2), (1, 3), (2, 4), (3, 6)]⟩),
  (8, ⟨4, true, [.d (.i .i64 0), .d (.i .i64 0), .d (.b false), .d (.i .u8 0)], 24, .struct [(0, 2), (1, 3), (2, 4), (3, 6)]⟩),
  (9, ⟨1, false, [.d (.s [])], 16, .str⟩),
  (10, ⟨1, false, [.d (.s [])], 16, .str⟩),
  (11, ⟨1, false, [.d (.s [])], 16, .str⟩),
  (12, ⟨1, false, [.d (.i .u64 0)], 8, .int .u64⟩),
  (13, ⟨2, true, [.d (.s []), .d (.i .u64 0)], 24, .struct [(0, 9), (1, 12)]⟩),
  (14, ⟨2, true, [.d (.s []), .d (.i .u64 0)], 24, .struct [(0, 9), (1, 12)]⟩),
  (15, ⟨1, false, [.d (.x (.pointer none))], 8, .ptr 124⟩),
  (16, ⟨1, false, [.d (.x (.pointer none))], 8, .ptr 127⟩),
  (17, ⟨1, false, [.d (.x (.pointer none))], 8, .ptr 135⟩),
  (18, ⟨1, true, [.d (.x (.pointer none))], 8, .struct [(0, 17)]⟩),
  (19, ⟨1, true, [.d (.x (.pointer none))], 8, .struct [(0, 17)]⟩),
  (20, ⟨1, false, [.d (.x .nilIface)], 16, .iface⟩),
  (21, ⟨1, false, [.d (.i .i32 0)], 4, .int .i32⟩),
  (22, ⟨1, false, [.d (.x .nilFunc)], 8, .func⟩),
  (23, ⟨1, false, [.d (.i .i64 0)], 8, .int .i64⟩),
  (25, ⟨1, false, [.d (.x .nilFunc)], 8, .func⟩),
  (26, ⟨1, false, [.d (.x .nilFunc)], 8, .func⟩),
  (27, ⟨1, false, [.d (.x .nilFunc)], 8, .func⟩),
  (28, ⟨1, false, [.nl 1], 24, .slice 5⟩),
  (29, ⟨1, false, [.d (.x .nilFunc)], 8, .func⟩),
  (30, ⟨1, false, [.d (.x .nilFunc)], 8, .func⟩),
  (31, ⟨1, false, [.nl 1], 24, .slice 3⟩),
  (32, ⟨1, false, [.d (.x .nilFunc)], 8, .func⟩),
  (33, ⟨1, false, [.d (.x .nilFunc)], 8, .func⟩),
  (34, ⟨1, false, [.d (.x .nilFunc)], 8, .func⟩),
  (35, ⟨1, false, [.d (.x .nilFunc)], 8, .func⟩),
  (36, ⟨1, false, [.nl 2], 24, .slice 72⟩),
  (37, ⟨1, false, [.nl 1], 24, .slice 9⟩),
  (38, ⟨1, false, [.d (.x .nilFunc)], 8, .func⟩),
  (39, ⟨1, false, [.d (.x .nilFunc)], 8, .func⟩),
  (40, ⟨1, false, [.d (.x .nilFunc)], 8, .func⟩),
  (41, ⟨1, false, [.d (.x .nilFunc)], 8, .func⟩),
  (42, ⟨1, false, [.d (.x .nilFunc)], 8, .func⟩),
  (43, ⟨1, false, [.d (.x .nilFunc)], 8, .func⟩),
  (44, ⟨1, false, [.d (.x .nilFunc)], 8, .func⟩),
  (45, ⟨1, false, [.d (.x .nilFunc)], 8, .func⟩),
  (47, ⟨1, false, [.d (.x .nilFunc)], 8, .func⟩),
  (48, ⟨1, false, [.d (.x .nilFunc)], 8, .func⟩),
  (49, ⟨1, false, [.d (.x .nilFunc)], 8, .func⟩),
  (50, ⟨1, false, [.d (.x .nilFunc)], 8, .func⟩),
  (51, ⟨1, false, [.nl 6], 24, .slice 61⟩),
  (52, ⟨3, true, [.d (.i .i64 0), .d (.i .i64 0), .nl 6], 40, .struct [(0, 3), (1, 3), (2, 51)]⟩),
  (53, ⟨3, true, [.d (.i .i64 0), .d (.i .i64 0), .nl 6], 40, .struct [(0, 3), (1, 3), (2, 51)]⟩),
  (55, ⟨1, false, [.d (.x .nilFunc)], 8, .func⟩),
  (56, ⟨1, false, [.d (.x .nilFunc)], 8, .func⟩),
  (57, ⟨1, false, [.d (.x .nilFunc)], 8, .func⟩),
  (58, ⟨3, true, [.d (.b false), .d (.b false), .nl 1], 32, .struct [(0, 4), (1, 4), (2, 37)]⟩),
  (59, ⟨3, true, [.d (.b false), .d (.b false), .nl 1], 32, .struct [(0, 4), (1, 4), (2, 37)]⟩),
  (60, ⟨6, true, [.d (.i .i64 0), .d (.i .i64 0), .d (.i .i64 0), .d (.b false), .d (.b false), .nl 1], 56, .struct [(0, 3), (1, 3), (2, 3), (3, 59)]⟩),
  (61, ⟨6, true, [.d (.i .i64 0), .d (.i .i64 0), .d (.i .i64 0), .d (.b false), .d (.b false), .nl 1], 56, .struct [(0, 3), (1, 3), (2, 3), (3, 59)]⟩),
  (62, ⟨1, false, [.d (.x .nilFunc)], 8, .func⟩),
  (63, ⟨1, false, [.d (.x .nilFunc)], 8, .func⟩),
  (64, ⟨1, false, [.d (.x .nilFunc)], 8, .func⟩),
  (65, ⟨1, false, [.d (.x .nilFunc)], 8, .func⟩),
  (66, ⟨1, false, [.d (.x .nilFunc)], 8, .func⟩),
  (67, ⟨1, false, [.d (.x .nilFunc)], 8, .func⟩),
  (68, ⟨1, false, [.d (.x .nilFunc)], 8, .func⟩),
  (69, ⟨1, false, [.d (.x .nilFunc)], 8, .func⟩),
  (70, ⟨1, false, [.d (.x .nilFunc)], 8, .func⟩),
  (71, ⟨2, true, [.d (.s []), .d (.s [])], 32, .struct [(0, 9), (1, 9)]⟩),
  (72, ⟨2, true, [.d (.s []), .d (.s [])], 32, .struct [(0, 9), (1, 9)]⟩),
  (73, ⟨1, false, [.d (.x .nilFunc)], 8, .func⟩),
  (74, ⟨1, false, [.d (.x .nilFunc)], 8, .func⟩),
  (75, ⟨1, false, [.d (.x .nilFunc)], 8, .func⟩),
  (76, ⟨1, false, [.d (.x .nilFunc)], 8, .func⟩),
  (77, ⟨1, false, [.d (.x .nilFunc)], 8, .func⟩),
  (78, ⟨1, false, [.d (.x (.pointer none))], 8, .ptr 80⟩),
  (79, ⟨2, true, [.nl 1, .d (.i .i64 0)], 32, .struct [(0, 31), (1, 3)]⟩),
  (80, ⟨2, true, [.nl 1, .d (.i .i64 0)], 32, .struct [(0, 31), (1, 3)]⟩),
  (81, ⟨1, false, [.d (.x .nilFunc)], 8, .func⟩),
  (82, ⟨1, false, [.d (.x .nilFunc)], 8, .func⟩),
  (83, ⟨1, false, [.d (.x .nilFunc)], 8, .func⟩),
  (84, ⟨1, false, [.d (.x .nilFunc)], 8, .func⟩),
  (85, ⟨1, false, [.d (.x (.pointer none))], 8, .ptr 87⟩),
  (86, ⟨2, true, [.d (.x (.pointer none)), .nl 1], 32, .struct [(0, 85), (1, 28)]⟩),
  (87, ⟨2, true, [.d (.x (.pointer none)), .nl 1], 32, .struct [(0, 85), (1, 28)]⟩),
  (88, ⟨1, false, [.d (.x .nilIface)], 16, .iface⟩),
  (89, ⟨1, false, [.d (.x .nilIface)], 16, .iface⟩),
  (91, ⟨1, false, [.d (.x .nilFunc)], 8, .func⟩),
  (92, ⟨1, false, [.d (.x .nilFunc)], 8, .func⟩),
  (93, ⟨1, false, [.d (.x .nilFunc)], 8, .func⟩),
  (94, ⟨1, false, [.d (.x .nilFunc)], 8, .func⟩),
  (95, ⟨1, false, [.d (.x .nilFunc)], 8, .func⟩),
  (96, ⟨1, false, [.d (.x .nilFunc)], 8, .func⟩),
  (97, ⟨1, false, [.d (.x .nilFunc)], 8, .func⟩),
  (98, ⟨1, false, [.d (.x .nilFunc)], 8, .func⟩),
  (99, ⟨1, false, [.d (.x .nilFunc)], 8, .func⟩),
  (100, ⟨1, false, [.d (.x .nilFunc)], 8, .func⟩),
  (101, ⟨1, false, [.d (.x .nilFunc)], 8, .func⟩),
  (102, ⟨1, false, [.d (.x (.pointer none))], 8, .ptr 5⟩),
  (103, ⟨1, false, [.d (.x .nilFunc)], 8, .func⟩),
  (104, ⟨1, false, [.d (.x .nilFunc)], 8, .func⟩),
  (105, ⟨1, false, [.d (.x (.pointer none))], 8, .uptr⟩),
  (106, ⟨1, false, [.d (.x .nilFunc)], 8, .func⟩),
  (107, ⟨24, true, List.replicate 24 (.d (.i .u8 0)), 24, .array 24 5⟩),
  (108, ⟨1, false, [.d (.i .u64 0)], 8, .int .u64⟩),
  (109, ⟨1, false, [.d (.x .nilFunc)], 8, .func⟩),
  (110, ⟨1, false, [.d (.x .nilFunc)], 8, .func⟩),
  (112, ⟨1, false, [.d (.x .nilFunc)], 8, .func⟩),
  (113, ⟨1, false, [.d (.x .nilFunc)], 8, .func⟩),
  (114, ⟨1, false, [.d (.x .nilFunc)], 8, .func⟩),
  (115, ⟨20, true, [.d (.i .u64 0), .d (.i .u64 0), .d (.i .u64 0), .d (.i .u64 0), .d (.i .u64 0), .d (.i .u64 0), .d (.i .u64 0), .d (.i .u64 0), .d (.i .u64 0), .d (.i .u64 0), .d (.i .u64 0), .d (.i .u64 0), .d (.i .u64 0), .d (.i .u64 0), .d (.i .u64 0), .d (.i .u64 0), .d (.i .u64 0), .d (.i .u64 0), .d (.i .u64 0), .d (.i .u64 0)], 160, .array 20 108⟩),
  (116, ⟨1, false, [.d (.i .u32 0)], 4, .int .u32⟩),
  (117, ⟨65, true, List.replicate 65 (.d (.i .u8 0)), 65, .array 65 5⟩),
  (118, ⟨1, false, [.d (.i .u64 0)], 8, .int .u64⟩),
  (119, ⟨1, false, [.d (.x .nilFunc)], 8, .func⟩),
  (120, ⟨1, false, [.d (.x .nilFunc)], 8, .func⟩),
  (121, ⟨32, true, List.replicate 32 (.d (.i .u8 0)), 32, .array 32 5⟩),
  (122, ⟨64, true, List.replicate 64 (.d (.i .u8 0)), 64, .array 64 5⟩),
  (123, ⟨4, true, [.d (.x (.pointer none)), .d (.x (.pointer none)), .d (.x (.pointer none)), .d (.s [])], 40, .struct [(0, 17), (1, 17), (2, 17), (3, 9)]⟩),
  (124, ⟨4, true, [.d (.x (.pointer none)), .d (.x (.pointer none)), .d (.x (.pointer none)), .d (.s [])], 40, .struct [(0, 17), (1, 17), (2, 17), (3, 9)]⟩),
  (125, ⟨0, true, [], 0, .array 0 16⟩),
  (126, ⟨0, true, [], 0, .other⟩),
  (127, ⟨0, true, [], 0, .other⟩),
  (128, ⟨1, false, [.d (.x .nilFunc)], 8, .func⟩),
  (129, ⟨1, false, [.d (.i .u8 0)], 1, .int .u8⟩),
  (130, ⟨1, false, [.d (.i .u8 0)], 1, .int .u8⟩),
  (131, ⟨1, false, [.d (.x .nilFunc)], 8, .func⟩),
  (132, ⟨1, false, [.d (.i .i32 0)], 4, .int .i32⟩),
  (133, ⟨1, false, [.d (.i .i32 0)], 4, .int .i32⟩),
  (134, ⟨11, true, [.d (.i .u64 0), .d (.i .u64 0), .d (.i .u32 0), .d (.i .u8 0), .d (.i .u8 0), .d (.i .u8 0), .d (.i .u8 0), .d (.x .nilFunc), .d (.x (.pointer none)), .d (.i .i32 0), .d (.i .i32 0)], 48, .struct [(0, 12), (1, 12), (2, 116), (3, 129), (4, 5), (5, 5), (6, 130), (7, 131), (8, 102), (9, 132), (10, 133)]⟩),
  (135, ⟨11, true, [.d (.i .u64 0), .d (.i .u64 0), .d (.i .u32 0), .d (.i .u8 0), .d (.i .u8 0), .d (.i .u8 0), .d (.i .u8 0), .d (.x .nilFunc), .d (.x (.pointer none)), .d (.i .i32 0), .d (.i .i32 0)], 48, .struct [(0, 12), (1, 12), (2, 116), (3, 129), (4, 5), (5, 5), (6, 130), (7, 131), (8, 102), (9, 132), (10, 133)]⟩)]
def glPow : Gl := ⟨0, 1, [.i .u64 1, .i .u64 10, .i .u64 100, .i .u64 1000, .i .u64 10000, .i .u64 100000, .i .u64 1000000, .i .u64 10000000, .i .u64 100000000, .i .u64 1000000000, .i .u64 10000000000, .i .u64 100000000000, .i .u64 1000000000000, .i .u64 10000000000000, .i .u64 100000000000000, .i .u64 1000000000000000, .i .u64 10000000000000000, .i .u64 100000000000000000, .i .u64 1000000000000000000, .i .u64 10000000000000000000]⟩
def gl32 : Gl := ⟨2, 1, [.i .u8 0, .i .u8 1, .i .u8 28, .i .u8 2, .i .u8 29, .i .u8 14, .i .u8 24, .i .u8 3, .i .u8 30, .i .u8 22, .i .u8 20, .i .u8 15, .i .u8 25, .i .u8 17, .i .u8 4, .i .u8 8, .i .u8 31, .i .u8 27, .i .u8 13, .i .u8 23, .i .u8 21, .i .u8 19, .i .u8 16, .i .u8 7, .i .u8 26, .i .u8 12, .i .u8 18, .i .u8 6, .i .u8 11, .i .u8 5, .i .u8 10, .i .u8 9]⟩
def gl64 : Gl := ⟨3, 1, [.i .u8 0, .i .u8 1, .i .u8 56, .i .u8 2, .i .u8 57, .i .u8 49, .i .u8 28, .i .u8 3, .i .u8 61, .i .u8 58, .i .u8 42, .i .u8 50, .i .u8 38, .i .u8 29, .i .u8 17, .i .u8 4, .i .u8 62, .i .u8 47, .i .u8 59, .i .u8 36, .i .u8 45, .i .u8 43, .i .u8 51, .i .u8 22, .i .u8 53, .i .u8 39, .i .u8 33, .i .u8 30, .i .u8 24, .i .u8 18, .i .u8 12, .i .u8 5, .i .u8 63, .i .u8 55, .i .u8 48, .i .u8 27, .i .u8 60, .i .u8 41, .i .u8 37, .i .u8 16, .i .u8 46, .i .u8 35, .i .u8 44, .i .u8 21, .i .u8 52, .i .u8 32, .i .u8 23, .i .u8 11, .i .u8 54, .i .u8 26, .i .u8 40, .i .u8 15, .i .u8 34, .i .u8 20, .i .u8 31, .i .u8 10, .i .u8 25, .i .u8 14, .i .u8 19, .i .u8 9, .i .u8 13, .i .u8 8, .i .u8 7, .i .u8 6]⟩
theorem tabOk : (tab.all fun x => chkTy Tryd.prog x.1 x.2) = true := by kernel_rfl
noncomputable def C : Ctx := ⟨Tryd.prog, tab, [glPow, gl32, gl64], tabOk⟩
end Go.Proofs.YtpogmmcfkdofhaaDoor

namespace Go.Proofs.YtpogmmcfkdofhaaDoor
open Go.Eng
attribute [local irreducible] Hold Does

def addF (m : Int) : List Int → Int → Int
  | [], s => s
  | n :: l, s => addF m l (s + min (max n 0) (m - s))

def add25s (most : Int) (l : List Int) : Nat × Int → AS
  | (i, s) => ⟨[(0, .d (.i .i64 most)), (1, .d (ints l)), (5, .d (.i .i64 s)), (8, .d (ints l)), (9, .d (.i .i64 l.length)), (10, .d (.i .i64 i))], [], 1⟩
def add25i (most : Int) (l : List Int) : Nat × Int → Prop
  | (i, s) => i ≤ l.length ∧ 0 ≤ s ∧ s ≤ max most 0 ∧ addF (max most 0) (l.drop i) s = addF (max most 0) l 0

theorem add25 (most : Int) (l : List Int) (h : I64 most) (hl : l.length ≤ 9223372036854775807) : Does C 25 [.i .i64 most, ints l] [.i .i64 (addF (max most 0) l 0)] := by
  have hm := h.2
  refine Does.mk (n := 25) Tryd.func25 rfl rfl rfl (Nat.le_of_ble_eq_true rfl) ?_
  repeat refine seq_on ?_
  refine loop_inv (add25i most l) (add25s most l) (fun y => l.length - y.1) (0, 0) ⟨Nat.zero_le _, Int.le_refl _, by omega, rfl⟩ [] ?_ ?_
  · repeat' constructor
    all_goals refine hold ?_
    all_goals (first | with_reducible rfl | simp)
  rintro ⟨i, s⟩ ⟨hi, h0, hs, hf⟩
  refine cmp_dec (fun h1 => ?_) (fun h1 => ?_)
  · repeat refine seq_on ?_
    have hi' : i < l.length := by omega
    refine get_at i rfl (getInts hi') ?_
    refine ar ⟨by omega, by omega⟩ ?_
    refine ar ⟨by omega, by omega⟩ ?_
    refine ar ⟨by omega, by omega⟩ ?_
    refine again (i + 1, s + min (max (l.getD i 0) 0) (max most 0 - s)) [] (by exact ⟨by omega, by omega, by omega, by rw [← hf, drop_at 0 hi']; rfl⟩) (by show l.length - (i + 1) < l.length - i; omega) ?_
    repeat' constructor
    all_goals refine hold ?_
    all_goals (first | with_reducible rfl | simp)
  · repeat refine seq_on ?_
    refine congrArg (fun x => [D.i .i64 x]) ?_
    rw [← hf, List.drop_eq_nil_of_le (by omega)]; rfl

theorem addF_full (m : Int) (l : List Int) : addF m l m = m := by
  induction l with
  | nil => rfl
  | cons n l ih => simp only [addF]; rw [show m + min (max n 0) (m - m) = m by omega]; exact ih

def add26s (most : Int) (l : List Int) : Nat × Int → AS
  | (i, s) => ⟨[(0, .d (.i .i64 most)), (1, .d (ints l)), (5, .d (.i .i64 s)), (6, .d (.i .i64 i))], [], 1⟩

theorem add26 (most : Int) (l : List Int) (h : I64 most) (hl : l.length ≤ 9223372036854775807) : Does C 26 [.i .i64 most, ints l] [.i .i64 (addF (max most 0) l 0)] := by
  have hm := h.2
  refine Does.mk (n := 31) Tryd.func26 rfl rfl rfl (Nat.le_of_ble_eq_true rfl) ?_
  repeat refine seq_on ?_
  refine cmp_dec (fun h1 => ?_) (fun h1 => ?_)
  · repeat refine seq_on ?_
    refine congrArg (fun x => [D.i .i64 x]) ?_
    rw [show max most 0 = 0 by omega, addF_full]
  repeat refine seq_on ?_
  refine loop_inv (add25i most l) (add26s most l) (fun y => l.length - y.1) (0, 0) ⟨Nat.zero_le _, Int.le_refl _, by omega, rfl⟩ [] ?_ ?_
  · repeat' constructor
    all_goals refine hold ?_
    all_goals (first | with_reducible rfl | simp)
  rintro ⟨i, s⟩ ⟨hi, h0, hs, hf⟩
  have hlen : (l.map (D.i .i64)).length = l.length := by simp
  repeat refine seq_on ?_
  refine cmp_dec (fun h2 => ?_) (fun h2 => ?_)
  · repeat refine seq_on ?_
    have hi' : i < l.length := by omega
    have hf' := hf
    rw [drop_at 0 hi'] at hf'
    repeat refine seq_on ?_
    refine get_at i rfl (getInts hi') ?_
    repeat refine seq_on ?_
    refine ar ⟨by omega, by omega⟩ ?_
    repeat refine seq_on ?_
    refine cmp_dec (fun h3 => ?_) (fun h3 => ?_)
    · repeat refine seq_on ?_
      refine congrArg (fun x => [D.i .i64 x]) ?_
      simp only [addF] at hf'
      rw [← hf', show s + min (max (l.getD i 0) 0) (max most 0 - s) = most by omega, show max most 0 = most by omega, addF_full]
    · repeat refine seq_on ?_
      refine ar ⟨by omega, by omega⟩ ?_
      repeat refine seq_on ?_
      refine ar ⟨by omega, by omega⟩ ?_
      refine again (i + 1, s + min (max (l.getD i 0) 0) (max most 0 - s)) [] (by exact ⟨by omega, by omega, by omega, hf'⟩) (by show l.length - (i + 1) < l.length - i; omega) ?_
      repeat' constructor
      all_goals refine hold ?_
      all_goals (first | with_reducible rfl | (congr 1; omega) | simp)
  · repeat refine seq_on ?_
    refine congrArg (fun x => [D.i .i64 x]) ?_
    rw [← hf, List.drop_eq_nil_of_le (by omega)]; rfl
end Go.Proofs.YtpogmmcfkdofhaaDoor

namespace Go.Proofs.YtpogmmcfkdofhaaDoor
open Go.Eng
attribute [local irreducible] Hold Does

def dg (c : Int) : Int := if 48 ≤ c ∧ c ≤ 57 then c - 48 else if 97 ≤ c ∧ c ≤ 102 then c - 87 else if 65 ≤ c ∧ c ≤ 70 then c - 55 else 16

theorem dg_lo (c : Int) : 0 ≤ dg c ∧ dg c ≤ 16 := by
  unfold dg
  repeat' split
  all_goals omega

theorem digit80 (c : Int) (h : 0 ≤ c ∧ c ≤ 255) : Does C 80 [.i .u8 c] [.i .i64 (dg c)] := by
  refine Does.mk (n := 35) Tryd.func80 rfl rfl rfl (Nat.le_of_ble_eq_true rfl) ?_
  repeat' (first | refine seq_on ?_ | refine cmp_dec (fun _ => ?_) (fun _ => ?_) | refine ar8 ⟨by omega, by omega⟩ ?_ | refine ar ⟨by omega, by omega⟩ ?_)
  all_goals refine congrArg (fun x => [D.i .i64 x]) ?_
  all_goals unfold dg
  all_goals repeat' split
  all_goals omega

theorem digit92 (c : Int) : Does C 92 [.i .u8 c] [.b (decide (48 ≤ c ∧ c ≤ 57))] := by
  refine Does.mk (n := 9) Tryd.func92 rfl rfl rfl (Nat.le_of_ble_eq_true rfl) ?_
  repeat' (first | refine seq_on ?_ | refine cmp_dec (fun _ => ?_) (fun _ => ?_))
  all_goals refine congrArg (fun x => [D.b x]) ?_
  all_goals simp
  all_goals omega

theorem digit81 (c b : Int) (h : 0 ≤ c ∧ c ≤ 255) (hb : 2 ≤ b ∧ b ≤ 16) : Does C 81 [.i .u8 c, .i .i64 b] [.i .i64 (if b ≤ dg c then -1 else dg c)] := by
  refine Does.mk (n := 38) Tryd.func81 rfl rfl rfl (Nat.le_of_ble_eq_true rfl) ?_
  refine seq_inv (fun _ : Unit => True) (fun _ => ⟨[(0, .d (.i .u8 c)), (1, .d (.i .i64 b)), (5, .d (.i .i64 (if dg c = 16 then -1 else dg c)))], [], 1⟩) ?_ ?_
  · refine call_by (digit92 c) ?_
    by_cases h0 : 48 ≤ c ∧ c ≤ 57
    · rw [decide_eq_true h0]
      repeat' (first | refine seq_on ?_ | refine cmp_dec (fun _ => ?_) (fun _ => ?_) | refine ar8 ⟨by omega, by omega⟩ ?_ | refine ar ⟨by omega, by omega⟩ ?_)
      refine cut_inv () [] trivial ?_
      repeat' constructor
      all_goals refine hold ?_
      all_goals first | with_reducible rfl | skip
      congr 1; unfold dg; repeat' split
      all_goals omega
    · rw [decide_eq_false h0]
      repeat' (first | refine seq_on ?_ | refine cmp_dec (fun _ => ?_) (fun _ => ?_) | refine ar8 ⟨by omega, by omega⟩ ?_ | refine ar ⟨by omega, by omega⟩ ?_)
      all_goals refine cut_inv () [] trivial ?_
      all_goals repeat' constructor
      all_goals refine hold ?_
      all_goals first | with_reducible rfl | skip
      all_goals congr 1; unfold dg; repeat' split
      all_goals omega
  · intro _ _
    have hd := dg_lo c
    repeat' (first | refine seq_on ?_ | refine cmp_dec (fun _ => ?_) (fun _ => ?_))
    all_goals refine congrArg (fun x => [D.i .i64 x]) ?_
    all_goals split
    all_goals (try split at *)
    all_goals omega
end Go.Proofs.YtpogmmcfkdofhaaDoor

namespace Go.Proofs.YtpogmmcfkdofhaaDoor
open Go.Eng
attribute [local irreducible] Hold Does

def dc (c : UInt8) : Int := dg (c.toNat : Int)
theorem dc_lo (c : UInt8) : 0 ≤ dc c ∧ dc c ≤ 16 := dg_lo _
theorem u8_lo (c : UInt8) : 0 ≤ (c.toNat : Int) ∧ (c.toNat : Int) ≤ 255 := by
  have := c.toNat_lt; omega

def bad (base : Int) (s : List UInt8) : Prop := ∃ c, c ∈ s ∧ base ≤ dc c

def acc (base most : Int) : List UInt8 → Int → Option Int
  | [], n => some n
  | c :: l, n => if most < dc c ∨ (most - dc c).tdiv base < n then none else acc base most l (n * base + dc c)

def parseR (r : Option Int) : Int × Int := match r with | none => (0, 3) | some n => (n, 0)
noncomputable def parseF (base most : Int) (s : List UInt8) : Int × Int :=
  open Classical in if bad base s ∨ s = [] then (0, 2) else parseR (acc base most s 0)

theorem parseF_bad {base most : Int} {s : List UInt8} (h : bad base s ∨ s = []) : parseF base most s = (0, 2) := by unfold parseF; rw [if_pos h]
theorem parseF_ok {base most : Int} {s : List UInt8} (h : ¬ bad base s) (h1 : s ≠ []) : parseF base most s = parseR (acc base most s 0) := by
  unfold parseF; rw [if_neg]; rintro (h2 | h2)
  · exact h h2
  · exact h1 h2

def pres (r : Int × Int) : List D := [.i .i64 r.1, .i .i64 r.2]

theorem acc_none {base most : Int} {c : UInt8} {l : List UInt8} {n : Int} (h : most < dc c ∨ (most - dc c).tdiv base < n) : acc base most (c :: l) n = none := by simp only [acc]; rw [if_pos h]
theorem acc_some {base most : Int} {c : UInt8} {l : List UInt8} {n : Int} (h1 : ¬ most < dc c) (h : ¬ (most - dc c).tdiv base < n) : acc base most (c :: l) n = acc base most l (n * base + dc c) := by
  simp only [acc]; rw [if_neg (by omega)]
theorem div_mul {base a n : Int} (hb : 2 ≤ base) (ha : 0 ≤ a) (h : ¬ a.tdiv base < n) : n * base ≤ a := by
  rw [Int.tdiv_eq_ediv_of_nonneg ha] at h
  exact (Int.le_ediv_iff_mul_le (by omega)).1 (by omega)
theorem tdiv_lo {base a : Int} (hb : 2 ≤ base) (ha : 0 ≤ a) : 0 ≤ a.tdiv base ∧ a.tdiv base ≤ a := by
  rw [Int.tdiv_eq_ediv_of_nonneg ha]
  exact ⟨Int.ediv_nonneg ha (by omega), Int.ediv_le_self _ ha⟩

def p55a (s : List UInt8) (base most : Int) (i : Nat) : AS :=
  ⟨[(0, .d (.s s)), (1, .d (.i .i64 base)), (2, .d (.i .i64 most)), (13, .d (.i .i64 s.length)), (14, .d (.i .i64 i))], [], 1⟩
def p55b (s : List UInt8) (base most : Int) : Nat × Int → AS
  | (i, n) => ⟨[(0, .d (.s s)), (1, .d (.i .i64 base)), (2, .d (.i .i64 most)), (9, .d (.i .i64 n)), (27, .d (.i .i64 s.length)), (28, .d (.i .i64 i))], [], 1⟩
def pia (s : List UInt8) (base : Int) (i : Nat) : Prop := i ≤ s.length ∧ (bad base (s.drop i) ↔ bad base s)
def pib (s : List UInt8) (base most : Int) : Nat × Int → Prop
  | (i, n) => i ≤ s.length ∧ 0 ≤ n ∧ acc base most (s.drop i) n = acc base most s 0

theorem bad_cons {base : Int} {c : UInt8} {l : List UInt8} : bad base (c :: l) ↔ base ≤ dc c ∨ bad base l := by
  unfold bad
  constructor
  · rintro ⟨x, hx, hb⟩
    rcases List.mem_cons.1 hx with rfl | hx
    · exact .inl hb
    · exact .inr ⟨x, hx, hb⟩
  · rintro (h | ⟨x, hx, hb⟩)
    · exact ⟨c, List.mem_cons_self, h⟩
    · exact ⟨x, List.mem_cons_of_mem _ hx, hb⟩
theorem bad_nil {base : Int} : ¬ bad base [] := by rintro ⟨x, hx, _⟩; cases hx

theorem parse55 (s : List UInt8) (base most : Int) (hb : 2 ≤ base ∧ base ≤ 16) (hm : I64 most) (hs : s.length ≤ 9223372036854775807) :
    Does C 55 [.s s, .i .i64 base, .i .i64 most] (pres (parseF base most s)) := by
  have hmm := hm.2
  refine Does.mk (n := 54) Tryd.func55 rfl rfl rfl (Nat.le_of_ble_eq_true rfl) ?_
  refine seq_inv (fun _ : Unit => ¬ bad base s) (fun _ => ⟨[(0, .d (.s s)), (1, .d (.i .i64 base)), (2, .d (.i .i64 most))], [], 1⟩) ?_ ?_
  · repeat refine seq_on ?_
    refine loop_inv (pia s base) (p55a s base most) (fun i => s.length - i) 0 ⟨Nat.zero_le _, Iff.rfl⟩ [] ?_ ?_
    · ((repeat' constructor) <;> refine hold ?_ <;> first | with_reducible rfl | (congr 1 <;> omega) | (congr 1 <;> simp; done) | (simp; done) | exact encB_snoc _ _ | skip)
    rintro i ⟨hi, hf⟩
    repeat refine seq_on ?_
    refine cmp_dec (fun h1 => ?_) (fun h1 => ?_)
    · repeat refine seq_on ?_
      have hi' : i < s.length := by omega
      rw [drop_at 0 hi', bad_cons] at hf
      refine get_at i rfl (get_d 0 hi') ?_
      refine call_by (digit80 _ (u8_lo _)) ?_
      refine cmp_dec (fun h2 => ?_) (fun h2 => ?_)
      · show pres (0, 2) = pres (parseF base most s)
        rw [parseF_bad (.inl (hf.1 (.inl h2)))]
      · refine ar ⟨by omega, by omega⟩ ?_
        refine again (i + 1) [] ⟨by omega, ?_⟩ (by omega) ?_
        · rw [← hf]; exact ⟨.inr, fun h => h.resolve_left h2⟩
        · ((repeat' constructor) <;> refine hold ?_ <;> first | with_reducible rfl | (congr 1 <;> omega) | (congr 1 <;> simp; done) | (simp; done) | exact encB_snoc _ _ | skip)
    · repeat refine seq_on ?_
      refine cut_inv () [] ?_ ?_
      · rw [List.drop_eq_nil_of_le (by omega)] at hf
        exact fun h => bad_nil (hf.2 h)
      · ((repeat' constructor) <;> refine hold ?_ <;> first | with_reducible rfl | (congr 1 <;> omega) | (congr 1 <;> simp; done) | (simp; done) | exact encB_snoc _ _ | skip)
  rintro _ hnb
  repeat refine seq_on ?_
  refine cmp_dec (fun h1 => ?_) (fun h1 => ?_)
  · show pres (0, 2) = pres (parseF base most s)
    rw [parseF_bad (.inr h1)]
  rw [parseF_ok hnb h1]
  repeat refine seq_on ?_
  refine loop_inv (pib s base most) (p55b s base most) (fun y => s.length - y.1) (0, 0) ⟨Nat.zero_le _, Int.le_refl _, rfl⟩ [] ?_ ?_
  · ((repeat' constructor) <;> refine hold ?_ <;> first | with_reducible rfl | (congr 1 <;> omega) | (congr 1 <;> simp; done) | (simp; done) | exact encB_snoc _ _ | skip)
  rintro ⟨i, n⟩ ⟨hi, h0, hf⟩
  repeat refine seq_on ?_
  repeat refine seq_on ?_
  refine cmp_dec (fun h2 => ?_) (fun h2 => ?_)
  · repeat refine seq_on ?_
    have hi' : i < s.length := by omega
    rw [drop_at 0 hi'] at hf
    have hd := dc_lo (s.getD i 0)
    refine get_at i rfl (get_d 0 hi') ?_
    refine call_by (digit80 _ (u8_lo _)) ?_
    repeat refine seq_on ?_
    refine cmp_dec (fun h3 => ?_) (fun h3 => ?_)
    · show pres (0, 3) = pres _
      rw [← hf, acc_none (.inl h3)]; rfl
    have h3' : ¬ most < dc (s.getD i 0) := h3
    have hq := tdiv_lo hb.1 (a := most - dc (s.getD i 0)) (by omega)
    refine ar (e := most - dc (s.getD i 0)) ⟨by omega, by omega⟩ ?_
    refine div_ok (by omega) ?_
    refine ar (e := (most - dc (s.getD i 0)).tdiv base) ⟨by omega, by omega⟩ ?_
    repeat refine seq_on ?_
    refine cmp_dec (fun h4 => ?_) (fun h4 => ?_)
    · show pres (0, 3) = pres _
      rw [← hf, acc_none (.inr h4)]; rfl
    have hmul := div_mul hb.1 (by omega) h4
    have hmul0 : 0 ≤ n * base := Int.mul_nonneg h0 (by omega)
    refine ar (e := n * base) ⟨by omega, by omega⟩ ?_
    refine ar (e := n * base + dc (s.getD i 0)) ⟨by omega, by omega⟩ ?_
    refine ar (e := (i : Int) + 1) ⟨by omega, by omega⟩ ?_
    refine again (i + 1, n * base + dc (s.getD i 0)) [] ⟨by omega, by omega, ?_⟩ (by show s.length - (i + 1) < s.length - i; omega) ?_
    · rw [← hf, acc_some h3' h4]
    · ((repeat' constructor) <;> refine hold ?_ <;> first | with_reducible rfl | (congr 1 <;> omega) | (congr 1 <;> simp; done) | (simp; done) | exact encB_snoc _ _ | skip)
  · repeat refine seq_on ?_
    show pres (n, 0) = pres _
    rw [← hf, List.drop_eq_nil_of_le (by omega)]; rfl
end Go.Proofs.YtpogmmcfkdofhaaDoor

namespace Go.Proofs.YtpogmmcfkdofhaaDoor
open Go.Eng
attribute [local irreducible] Hold Does

def p56a (s : List UInt8) (base most : Int) (i : Nat) : AS :=
  ⟨[(0, .d (.s s)), (2, .d (.i .i64 base)), (1, .d (.i .i64 most)), (8, .d (.i .i64 i))], [], 1⟩
def p56b (s : List UInt8) (base most : Int) : Nat × Int → AS
  | (i, n) => ⟨[(0, .d (.s s)), (2, .d (.i .i64 base)), (1, .d (.i .i64 most)), (9, .d (.i .i64 n)), (10, .d (.i .i64 i))], [], 1⟩

theorem parse56 (s : List UInt8) (base most : Int) (hb : 2 ≤ base ∧ base ≤ 16) (hm : I64 most) (hs : s.length ≤ 9223372036854775807) :
    Does C 56 [.s s, .i .i64 most, .i .i64 base] (pres (parseF base most s)) := by
  have hmm := hm.2
  refine Does.mk (n := 55) Tryd.func56 rfl rfl rfl (Nat.le_of_ble_eq_true rfl) ?_
  repeat refine seq_on ?_
  refine cmp_dec (fun h1 => ?_) (fun h1 => ?_)
  · show pres (0, 2) = pres (parseF base most s)
    rw [parseF_bad (.inr h1)]
  refine seq_inv (fun _ : Unit => ¬ bad base s) (fun _ => ⟨[(0, .d (.s s)), (2, .d (.i .i64 base)), (1, .d (.i .i64 most))], [], 1⟩) ?_ ?_
  · repeat refine seq_on ?_
    refine loop_inv (pia s base) (p56a s base most) (fun i => s.length - i) 0 ⟨Nat.zero_le _, Iff.rfl⟩ [] ?_ ?_
    · ((repeat' constructor) <;> refine hold ?_ <;> first | with_reducible rfl | (congr 1 <;> omega) | (congr 1 <;> simp; done) | (simp; done) | exact encB_snoc _ _ | skip)
    rintro i ⟨hi, hf⟩
    repeat refine seq_on ?_
    refine cmp_dec (fun h1 => ?_) (fun h1 => ?_)
    · repeat refine seq_on ?_
      have hi' : i < s.length := by omega
      rw [drop_at 0 hi', bad_cons] at hf
      refine get_at i rfl (get_d 0 hi') ?_
      refine call_by (digit81 _ base (u8_lo _) hb) ?_
      have hd := dc_lo (s.getD i 0)
      refine cmp_dec (fun h2 => ?_) (fun h2 => ?_)
      · show pres (0, 2) = pres (parseF base most s)
        have : base ≤ dc (s.getD i 0) := by
          unfold dc at *
          split at h2 <;> omega
        rw [parseF_bad (.inl (hf.1 (.inl this)))]
      · repeat refine seq_on ?_
        have : ¬ base ≤ dc (s.getD i 0) := by
          intro h3
          have h4 : base ≤ dg ((s.getD i 0).toNat : Int) := h3
          rw [if_pos h4] at h2; omega
        refine ar ⟨by omega, by omega⟩ ?_
        refine again (i + 1) [] ⟨by omega, ?_⟩ (by omega) ?_
        · rw [← hf]; exact ⟨.inr, fun h => h.resolve_left this⟩
        · ((repeat' constructor) <;> refine hold ?_ <;> first | with_reducible rfl | (congr 1 <;> omega) | (congr 1 <;> simp; done) | (simp; done) | exact encB_snoc _ _ | skip)
    · repeat refine seq_on ?_
      refine cut_inv () [] ?_ ?_
      · rw [List.drop_eq_nil_of_le (by omega)] at hf
        exact fun h => bad_nil (hf.2 h)
      · ((repeat' constructor) <;> refine hold ?_ <;> first | with_reducible rfl | (congr 1 <;> omega) | (congr 1 <;> simp; done) | (simp; done) | exact encB_snoc _ _ | skip)
  rintro _ hnb
  rw [parseF_ok hnb h1]
  repeat refine seq_on ?_
  refine loop_inv (fun y => pib s base most y) (p56b s base most) (fun y => s.length - y.1) (0, 0) ⟨Nat.zero_le _, Int.le_refl _, rfl⟩ [] ?_ ?_
  · ((repeat' constructor) <;> refine hold ?_ <;> first | with_reducible rfl | (congr 1 <;> omega) | (congr 1 <;> simp; done) | (simp; done) | exact encB_snoc _ _ | skip)
  rintro ⟨i, n⟩ ⟨hi, h0, hf⟩
  repeat refine seq_on ?_
  refine cmp_dec (fun h2 => ?_) (fun h2 => ?_)
  · repeat refine seq_on ?_
    have hi' : i < s.length := by omega
    rw [drop_at 0 hi'] at hf
    have hd := dc_lo (s.getD i 0)
    have hdb : ¬ base ≤ dg ((s.getD i 0).toNat : Int) := fun h => hnb ⟨s.getD i 0, List.mem_of_getElem? (get_d 0 hi'), h⟩
    refine get_at i rfl (get_d 0 hi') ?_
    refine call_by (digit81 _ base (u8_lo _) hb) ?_
    rw [if_neg hdb]
    repeat refine seq_on ?_
    refine cmp_dec (fun h3 => ?_) (fun h3 => ?_)
    · repeat refine seq_on ?_
      show pres (0, 3) = pres _
      rw [← hf, acc_none (.inl h3)]; rfl
    have h3' : ¬ most < dc (s.getD i 0) := h3
    have hq := tdiv_lo hb.1 (a := most - dc (s.getD i 0)) (by omega)
    refine ar (e := most - dc (s.getD i 0)) ⟨by omega, by omega⟩ ?_
    refine div_ok (by omega) ?_
    refine ar (e := (most - dc (s.getD i 0)).tdiv base) ⟨by omega, by omega⟩ ?_
    repeat refine seq_on ?_
    refine cmp_dec (fun h4 => ?_) (fun h4 => ?_)
    · repeat refine seq_on ?_
      show pres (0, 3) = pres _
      rw [← hf, acc_none (.inr h4)]; rfl
    have hmul := div_mul hb.1 (by omega) h4
    have hmul0 : 0 ≤ n * base := Int.mul_nonneg h0 (by omega)
    repeat refine seq_on ?_
    refine ar (e := n * base) ⟨by omega, by omega⟩ ?_
    refine ar (e := n * base + dc (s.getD i 0)) ⟨by omega, by omega⟩ ?_
    refine ar (e := (i : Int) + 1) ⟨by omega, by omega⟩ ?_
    refine again (i + 1, n * base + dc (s.getD i 0)) [] ⟨by omega, by omega, ?_⟩ (by show s.length - (i + 1) < s.length - i; omega) ?_
    · rw [← hf, acc_some h3' h4]
    · ((repeat' constructor) <;> refine hold ?_ <;> first | with_reducible rfl | (congr 1 <;> omega) | (congr 1 <;> simp; done) | (simp; done) | exact encB_snoc _ _ | skip)
  · repeat refine seq_on ?_
    show pres (n, 0) = pres _
    rw [← hf, List.drop_eq_nil_of_le (by omega)]; rfl

theorem parseDec20 (s : List UInt8) (most : Int) (hm : I64 most) (hs : s.length ≤ 9223372036854775807) : Does C 20 [.s s, .i .i64 most] (pres (parseF 10 most s)) := by
  refine Does.mk (n := 11) Tryd.func20 rfl rfl rfl (Nat.le_of_ble_eq_true rfl) ?_
  refine call_by (parse55 s 10 most (by omega) hm hs) ?_
  exact rfl
theorem parseHex21 (s : List UInt8) (most : Int) (hm : I64 most) (hs : s.length ≤ 9223372036854775807) : Does C 21 [.s s, .i .i64 most] (pres (parseF 16 most s)) := by
  refine Does.mk (n := 11) Tryd.func21 rfl rfl rfl (Nat.le_of_ble_eq_true rfl) ?_
  refine call_by (parse55 s 16 most (by omega) hm hs) ?_
  exact rfl
theorem parseDec23 (s : List UInt8) (most : Int) (hm : I64 most) (hs : s.length ≤ 9223372036854775807) : Does C 23 [.s s, .i .i64 most] (pres (parseF 10 most s)) := by
  refine Does.mk (n := 11) Tryd.func23 rfl rfl rfl (Nat.le_of_ble_eq_true rfl) ?_
  refine call_by (parse56 s 10 most (by omega) hm hs) ?_
  exact rfl
theorem parseHex24 (s : List UInt8) (most : Int) (hm : I64 most) (hs : s.length ≤ 9223372036854775807) : Does C 24 [.s s, .i .i64 most] (pres (parseF 16 most s)) := by
  refine Does.mk (n := 11) Tryd.func24 rfl rfl rfl (Nat.le_of_ble_eq_true rfl) ?_
  refine call_by (parse56 s 16 most (by omega) hm hs) ?_
  exact rfl
end Go.Proofs.YtpogmmcfkdofhaaDoor

