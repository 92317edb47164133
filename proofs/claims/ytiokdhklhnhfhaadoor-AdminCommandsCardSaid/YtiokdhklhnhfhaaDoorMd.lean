import Derived.Test.YtiokdhklhnhfhaaDoorMc2
import Derived.Test.YtiokdhklhnhfhaaDoorProg
import Derived.KernelRfl
/-
  The seat's types and tables for the engine. The list 'tab' is printed by wip/Tab.lean off the dump.
-/
namespace Go.Proofs.YtiokdhklhnhfhaaDoor
open Go.Eng
def tab : List (Nat × TyI) := [
  (1, ⟨1, false, [.d (.x .nilFunc)], 8, .func⟩),
  (2, ⟨1, false, [.d (.i .i64 0)], 8, .int .i64⟩),
  (3, ⟨1, false, [.d (.i .i64 0)], 8, .int .i64⟩),
  (4, ⟨1, false, [.d (.b false)], 1, .bool⟩),
  (5, ⟨1, false, [.d (.i .u8 0)], 1, .int .u8⟩),
  (6, ⟨1, false, [.d (.i .u8 0)], 1, .int .u8⟩),
  (7, ⟨4, true, [.d (.i .i64 0), .d (.i .i64 0), .d (.b false), .d (.i .u8 0)], 24, .struct [(0, 2), (1, 3), (2, 4), (3, 6)]⟩),
  (8, ⟨4, true, [.d (.i .i64 0), .d (.i .i64 0), .d (.b false), .d (.i .u8 0)], 24, .struct [(0, 2), (1, 3), (2, 4), (3, 6)]⟩),
  (9, ⟨1, false, [.d (.s [])], 16, .str⟩),
  (10, ⟨1, false, [.d (.s [])], 16, .str⟩),
  (11, ⟨1, false, [.d (.s [])], 16, .str⟩),
  (12, ⟨1, false, [.d (.i .u64 0)], 8, .int .u64⟩),
  (13, ⟨2, true, [.d (.s []), .d (.i .u64 0)], 24, .struct [(0, 9), (1, 12)]⟩),
  (14, ⟨2, true, [.d (.s []), .d (.i .u64 0)], 24, .struct [(0, 9), (1, 12)]⟩),
  (15, ⟨1, false, [.d (.x (.pointer none))], 8, .ptr 266⟩),
  (16, ⟨1, false, [.d (.x (.pointer none))], 8, .ptr 269⟩),
  (17, ⟨1, false, [.d (.x (.pointer none))], 8, .ptr 277⟩),
  (18, ⟨1, true, [.d (.x (.pointer none))], 8, .struct [(0, 17)]⟩),
  (19, ⟨1, true, [.d (.x (.pointer none))], 8, .struct [(0, 17)]⟩),
  (20, ⟨1, false, [.d (.x .nilIface)], 16, .iface⟩),
  (21, ⟨1, false, [.d (.i .i32 0)], 4, .int .i32⟩),
  (22, ⟨1, false, [.nl 1], 24, .slice 3⟩),
  (23, ⟨1, false, [.nl 2], 24, .slice 89⟩),
  (24, ⟨1, false, [.nl 1], 24, .slice 5⟩),
  (25, ⟨6, true, [.d (.s []), .d (.s []), .d (.i .i64 0), .nl 2, .d (.b false), .nl 1], 96, .struct [(0, 9), (1, 9), (2, 3), (3, 23), (4, 4), (5, 24)]⟩),
  (26, ⟨6, true, [.d (.s []), .d (.s []), .d (.i .i64 0), .nl 2, .d (.b false), .nl 1], 96, .struct [(0, 9), (1, 9), (2, 3), (3, 23), (4, 4), (5, 24)]⟩),
  (27, ⟨1, false, [.nl 1], 24, .slice 9⟩),
  (28, ⟨1, false, [.d (.x .nilFunc)], 8, .func⟩),
  (29, ⟨1, false, [.d (.x .nilFunc)], 8, .func⟩),
  (30, ⟨5, true, [.d (.i .i64 0), .d (.s []), .d (.i .i64 0), .nl 2, .nl 1], 80, .struct [(0, 3), (1, 9), (2, 3), (3, 23), (4, 24)]⟩),
  (31, ⟨5, true, [.d (.i .i64 0), .d (.s []), .d (.i .i64 0), .nl 2, .nl 1], 80, .struct [(0, 3), (1, 9), (2, 3), (3, 23), (4, 24)]⟩),
  (32, ⟨1, false, [.d (.x .nilFunc)], 8, .func⟩),
  (33, ⟨1, false, [.nl 6], 24, .slice 143⟩),
  (34, ⟨3, true, [.d (.i .i64 0), .d (.i .i64 0), .nl 6], 40, .struct [(0, 3), (1, 3), (2, 33)]⟩),
  (35, ⟨3, true, [.d (.i .i64 0), .d (.i .i64 0), .nl 6], 40, .struct [(0, 3), (1, 3), (2, 33)]⟩),
  (36, ⟨1, false, [.d (.x .nilFunc)], 8, .func⟩),
  (37, ⟨1, false, [.d (.x .nilFunc)], 8, .func⟩),
  (38, ⟨1, false, [.d (.x .nilFunc)], 8, .func⟩),
  (39, ⟨1, false, [.d (.x .nilFunc)], 8, .func⟩),
  (40, ⟨1, false, [.d (.x .nilFunc)], 8, .func⟩),
  (41, ⟨1, false, [.d (.x .nilFunc)], 8, .func⟩),
  (42, ⟨1, false, [.d (.x .nilFunc)], 8, .func⟩),
  (43, ⟨4, true, [.d (.i .i64 0), .d (.i .i64 0), .d (.i .i64 0), .nl 1], 48, .struct [(0, 3), (1, 3), (2, 3), (3, 24)]⟩),
  (44, ⟨4, true, [.d (.i .i64 0), .d (.i .i64 0), .d (.i .i64 0), .nl 1], 48, .struct [(0, 3), (1, 3), (2, 3), (3, 24)]⟩),
  (45, ⟨1, false, [.d (.i .i64 0)], 8, .int .i64⟩),
  (47, ⟨1, false, [.d (.x .nilFunc)], 8, .func⟩),
  (48, ⟨1, false, [.d (.x .nilFunc)], 8, .func⟩),
  (49, ⟨1, false, [.d (.x .nilFunc)], 8, .func⟩),
  (51, ⟨1, false, [.d (.x .nilFunc)], 8, .func⟩),
  (52, ⟨1, false, [.d (.x .nilFunc)], 8, .func⟩),
  (53, ⟨1, false, [.d (.x .nilFunc)], 8, .func⟩),
  (54, ⟨1, false, [.nl 1], 24, .slice 24⟩),
  (55, ⟨1, false, [.d (.x .nilFunc)], 8, .func⟩),
  (56, ⟨1, false, [.d (.x .nilFunc)], 8, .func⟩),
  (57, ⟨1, false, [.d (.x .nilFunc)], 8, .func⟩),
  (58, ⟨1, false, [.d (.x .nilFunc)], 8, .func⟩),
  (59, ⟨1, false, [.d (.x .nilFunc)], 8, .func⟩),
  (60, ⟨6, true, [.nl 1, .d (.i .i64 0), .d (.i .i64 0), .d (.i .i64 0), .d (.i .i64 0), .d (.i .i64 0)], 64, .struct [(0, 22), (1, 3), (2, 3), (3, 3), (4, 3), (5, 3)]⟩),
  (61, ⟨6, true, [.nl 1, .d (.i .i64 0), .d (.i .i64 0), .d (.i .i64 0), .d (.i .i64 0), .d (.i .i64 0)], 64, .struct [(0, 22), (1, 3), (2, 3), (3, 3), (4, 3), (5, 3)]⟩),
  (62, ⟨1, false, [.d (.x (.pointer none))], 8, .ptr 64⟩),
  (63, ⟨2, true, [.nl 1, .d (.i .i64 0)], 32, .struct [(0, 22), (1, 3)]⟩),
  (64, ⟨2, true, [.nl 1, .d (.i .i64 0)], 32, .struct [(0, 22), (1, 3)]⟩),
  (65, ⟨1, false, [.d (.x .nilFunc)], 8, .func⟩),
  (66, ⟨3, true, [.d (.i .i64 0), .d (.i .i64 0), .d (.i .i64 0)], 24, .struct [(0, 3), (1, 3), (2, 3)]⟩),
  (67, ⟨3, true, [.d (.i .i64 0), .d (.i .i64 0), .d (.i .i64 0)], 24, .struct [(0, 3), (1, 3), (2, 3)]⟩),
  (68, ⟨6, true, [.d (.i .i64 0), .d (.i .i64 0), .d (.i .i64 0), .d (.i .i64 0), .d (.i .i64 0), .d (.i .i64 0)], 48, .struct [(0, 3), (1, 3), (2, 3), (3, 67)]⟩),
  (69, ⟨6, true, [.d (.i .i64 0), .d (.i .i64 0), .d (.i .i64 0), .d (.i .i64 0), .d (.i .i64 0), .d (.i .i64 0)], 48, .struct [(0, 3), (1, 3), (2, 3), (3, 67)]⟩),
  (70, ⟨1, false, [.d (.x .nilFunc)], 8, .func⟩),
  (71, ⟨1, false, [.nl 2], 24, .slice 81⟩),
  (72, ⟨1, false, [.d (.x .nilFunc)], 8, .func⟩),
  (73, ⟨1, false, [.d (.x .nilFunc)], 8, .func⟩),
  (75, ⟨1, false, [.d (.x .nilFunc)], 8, .func⟩),
  (76, ⟨1, false, [.d (.x .nilFunc)], 8, .func⟩),
  (77, ⟨1, false, [.d (.x .nilFunc)], 8, .func⟩),
  (78, ⟨1, false, [.d (.x .nilFunc)], 8, .func⟩),
  (79, ⟨1, false, [.d (.x .nilFunc)], 8, .func⟩),
  (80, ⟨2, true, [.d (.i .i64 0), .d (.i .i64 0)], 16, .struct [(0, 3), (1, 3)]⟩),
  (81, ⟨2, true, [.d (.i .i64 0), .d (.i .i64 0)], 16, .struct [(0, 3), (1, 3)]⟩),
  (83, ⟨1, false, [.d (.x .nilFunc)], 8, .func⟩),
  (84, ⟨1, false, [.d (.x .nilFunc)], 8, .func⟩),
  (85, ⟨1, false, [.d (.x .nilFunc)], 8, .func⟩),
  (86, ⟨1, false, [.d (.x .nilFunc)], 8, .func⟩),
  (87, ⟨1, false, [.d (.x .nilFunc)], 8, .func⟩),
  (88, ⟨2, true, [.d (.s []), .d (.s [])], 32, .struct [(0, 9), (1, 9)]⟩),
  (89, ⟨2, true, [.d (.s []), .d (.s [])], 32, .struct [(0, 9), (1, 9)]⟩),
  (90, ⟨1, false, [.d (.x .nilFunc)], 8, .func⟩),
  (91, ⟨1, false, [.d (.x .nilFunc)], 8, .func⟩),
  (92, ⟨1, false, [.d (.x .nilFunc)], 8, .func⟩),
  (93, ⟨1, false, [.d (.x .nilFunc)], 8, .func⟩),
  (95, ⟨1, false, [.d (.x .nilFunc)], 8, .func⟩),
  (96, ⟨1, false, [.d (.x .nilFunc)], 8, .func⟩),
  (97, ⟨1, false, [.d (.x .nilFunc)], 8, .func⟩),
  (98, ⟨1, false, [.d (.x .nilFunc)], 8, .func⟩),
  (99, ⟨1, false, [.d (.x .nilFunc)], 8, .func⟩),
  (100, ⟨1, false, [.d (.x .nilFunc)], 8, .func⟩),
  (101, ⟨1, false, [.d (.x .nilFunc)], 8, .func⟩),
  (102, ⟨1, false, [.d (.x .nilFunc)], 8, .func⟩),
  (103, ⟨1, false, [.d (.x .nilFunc)], 8, .func⟩),
  (104, ⟨1, false, [.d (.x .nilFunc)], 8, .func⟩),
  (105, ⟨3, true, [.d (.b false), .d (.b false), .nl 1], 32, .struct [(0, 4), (1, 4), (2, 27)]⟩),
  (106, ⟨3, true, [.d (.b false), .d (.b false), .nl 1], 32, .struct [(0, 4), (1, 4), (2, 27)]⟩),
  (107, ⟨1, false, [.d (.x .nilFunc)], 8, .func⟩),
  (108, ⟨1, false, [.d (.x .nilFunc)], 8, .func⟩),
  (109, ⟨1, false, [.d (.x .nilFunc)], 8, .func⟩),
  (110, ⟨1, false, [.d (.i .u64 0)], 8, .int .u64⟩),
  (111, ⟨1, false, [.d (.x .nilFunc)], 8, .func⟩),
  (113, ⟨1, false, [.d (.x .nilFunc)], 8, .func⟩),
  (114, ⟨1, false, [.d (.x .nilFunc)], 8, .func⟩),
  (115, ⟨1, false, [.d (.x .nilFunc)], 8, .func⟩),
  (116, ⟨1, false, [.d (.x .nilFunc)], 8, .func⟩),
  (117, ⟨2, true, [.d (.s []), .d (.s [])], 32, .struct [(0, 9), (1, 9)]⟩),
  (118, ⟨1, false, [.d (.x .nilFunc)], 8, .func⟩),
  (119, ⟨1, false, [.d (.x .nilFunc)], 8, .func⟩),
  (120, ⟨1, false, [.d (.x .nilFunc)], 8, .func⟩),
  (121, ⟨2, true, [.nl 1, .d (.x .nilFunc)], 32, .struct [(0, 22), (1, 120)]⟩),
  (122, ⟨2, true, [.nl 1, .d (.x .nilFunc)], 32, .struct [(0, 22), (1, 120)]⟩),
  (124, ⟨1, false, [.d (.x .nilFunc)], 8, .func⟩),
  (125, ⟨1, false, [.d (.x .nilFunc)], 8, .func⟩),
  (126, ⟨1, false, [.d (.x .nilFunc)], 8, .func⟩),
  (127, ⟨1, false, [.d (.x .nilFunc)], 8, .func⟩),
  (128, ⟨1, false, [.d (.x (.map none))], 8, .map 9 27⟩),
  (129, ⟨1, false, [.d (.x .nilFunc)], 8, .func⟩),
  (130, ⟨1, false, [.d (.x .nilFunc)], 8, .func⟩),
  (131, ⟨1, false, [.d (.x .nilFunc)], 8, .func⟩),
  (132, ⟨1, false, [.d (.x .nilFunc)], 8, .func⟩),
  (133, ⟨1, false, [.d (.x .nilFunc)], 8, .func⟩),
  (134, ⟨1, false, [.d (.x .nilFunc)], 8, .func⟩),
  (135, ⟨1, false, [.d (.x .nilFunc)], 8, .func⟩),
  (137, ⟨1, false, [.d (.x .nilFunc)], 8, .func⟩),
  (138, ⟨1, false, [.d (.x .nilFunc)], 8, .func⟩),
  (139, ⟨1, false, [.d (.x (.pointer none))], 8, .ptr 141⟩),
  (140, ⟨2, true, [.d (.x (.pointer none)), .nl 1], 32, .struct [(0, 139), (1, 24)]⟩),
  (141, ⟨2, true, [.d (.x (.pointer none)), .nl 1], 32, .struct [(0, 139), (1, 24)]⟩),
  (142, ⟨6, true, [.d (.i .i64 0), .d (.i .i64 0), .d (.i .i64 0), .d (.b false), .d (.b false), .nl 1], 56, .struct [(0, 3), (1, 3), (2, 3), (3, 106)]⟩),
  (143, ⟨6, true, [.d (.i .i64 0), .d (.i .i64 0), .d (.i .i64 0), .d (.b false), .d (.b false), .nl 1], 56, .struct [(0, 3), (1, 3), (2, 3), (3, 106)]⟩),
  (144, ⟨1, false, [.d (.x .nilIface)], 16, .iface⟩),
  (145, ⟨1, false, [.d (.x .nilIface)], 16, .iface⟩),
  (147, ⟨1, false, [.d (.x .nilFunc)], 8, .func⟩),
  (148, ⟨1, false, [.d (.x .nilFunc)], 8, .func⟩),
  (149, ⟨1, false, [.d (.x .nilFunc)], 8, .func⟩),
  (150, ⟨1, false, [.d (.x .nilFunc)], 8, .func⟩),
  (151, ⟨1, false, [.d (.x .nilFunc)], 8, .func⟩),
  (152, ⟨1, false, [.nl 2], 24, .slice 117⟩),
  (153, ⟨1, false, [.d (.x .nilFunc)], 8, .func⟩),
  (154, ⟨1, false, [.d (.x .nilFunc)], 8, .func⟩),
  (155, ⟨1, false, [.d (.x .nilFunc)], 8, .func⟩),
  (156, ⟨1, false, [.d (.x .nilFunc)], 8, .func⟩),
  (158, ⟨1, false, [.d (.x .nilFunc)], 8, .func⟩),
  (159, ⟨1, false, [.d (.x .nilFunc)], 8, .func⟩),
  (161, ⟨1, false, [.d (.x .nilFunc)], 8, .func⟩),
  (162, ⟨1, false, [.d (.x .nilFunc)], 8, .func⟩),
  (164, ⟨1, false, [.d (.x .nilFunc)], 8, .func⟩),
  (165, ⟨7, true, [.d (.s []), .d (.s []), .d (.s []), .d (.s []), .d (.s []), .d (.s []), .d (.s [])], 112, .array 7 9⟩),
  (166, ⟨1, false, [.d (.x .nilFunc)], 8, .func⟩),
  (167, ⟨5, true, [.d (.s []), .d (.s []), .d (.s []), .d (.s []), .d (.s [])], 80, .array 5 9⟩),
  (168, ⟨1, false, [.d (.x .nilFunc)], 8, .func⟩),
  (169, ⟨1, false, [.d (.x .nilFunc)], 8, .func⟩),
  (170, ⟨1, false, [.d (.x .nilFunc)], 8, .func⟩),
  (172, ⟨1, false, [.d (.x .nilFunc)], 8, .func⟩),
  (173, ⟨1, false, [.d (.x .nilFunc)], 8, .func⟩),
  (174, ⟨1, false, [.d (.x .nilFunc)], 8, .func⟩),
  (175, ⟨1, false, [.d (.x .nilFunc)], 8, .func⟩),
  (176, ⟨3, true, [.d (.s []), .d (.s []), .d (.s [])], 48, .struct [(0, 89), (2, 9)]⟩),
  (177, ⟨3, true, [.d (.s []), .d (.s []), .d (.s [])], 48, .struct [(0, 89), (2, 9)]⟩),
  (178, ⟨1, false, [.d (.x .nilFunc)], 8, .func⟩),
  (179, ⟨1, false, [.d (.x .nilFunc)], 8, .func⟩),
  (180, ⟨1, false, [.d (.x .nilFunc)], 8, .func⟩),
  (181, ⟨1, true, [.d (.s [])], 16, .struct [(0, 9)]⟩),
  (182, ⟨1, true, [.d (.s [])], 16, .struct [(0, 9)]⟩),
  (183, ⟨1, false, [.d (.x .nilFunc)], 8, .func⟩),
  (184, ⟨1, false, [.d (.x .nilFunc)], 8, .func⟩),
  (185, ⟨1, false, [.d (.x .nilFunc)], 8, .func⟩),
  (186, ⟨1, false, [.d (.x .nilFunc)], 8, .func⟩),
  (187, ⟨1, false, [.d (.x .nilFunc)], 8, .func⟩),
  (188, ⟨2, true, [.d (.i .i64 0), .d (.s [])], 24, .struct [(0, 3), (1, 9)]⟩),
  (189, ⟨2, true, [.d (.i .i64 0), .d (.s [])], 24, .struct [(0, 3), (1, 9)]⟩),
  (190, ⟨24, true, [.d (.i .i64 0), .d (.s []), .d (.i .i64 0), .d (.s []), .d (.i .i64 0), .d (.s []), .d (.i .i64 0), .d (.s []), .d (.i .i64 0), .d (.s []), .d (.i .i64 0), .d (.s []), .d (.i .i64 0), .d (.s []), .d (.i .i64 0), .d (.s []), .d (.i .i64 0), .d (.s []), .d (.i .i64 0), .d (.s []), .d (.i .i64 0), .d (.s []), .d (.i .i64 0), .d (.s [])], 288, .array 12 189⟩),
  (191, ⟨1, false, [.d (.x .nilFunc)], 8, .func⟩),
  (192, ⟨1, false, [.d (.x .nilFunc)], 8, .func⟩),
  (193, ⟨1, false, [.d (.x (.pointer none))], 8, .ptr 5⟩),
  (194, ⟨1, false, [.d (.x .nilFunc)], 8, .func⟩),
  (195, ⟨1, false, [.d (.x .nilFunc)], 8, .func⟩),
  (196, ⟨1, false, [.d (.x .nilFunc)], 8, .func⟩),
  (197, ⟨1, false, [.d (.x .nilFunc)], 8, .func⟩),
  (198, ⟨1, false, [.d (.x .nilFunc)], 8, .func⟩),
  (199, ⟨1, false, [.d (.x .nilFunc)], 8, .func⟩),
  (200, ⟨1, false, [.d (.x .nilFunc)], 8, .func⟩),
  (201, ⟨1, false, [.d (.x .nilFunc)], 8, .func⟩),
  (202, ⟨1, false, [.d (.x .nilFunc)], 8, .func⟩),
  (203, ⟨1, false, [.d (.x .nilFunc)], 8, .func⟩),
  (204, ⟨1, false, [.d (.i .i64 0)], 8, .int .i64⟩),
  (206, ⟨1, false, [.d (.x .nilFunc)], 8, .func⟩),
  (207, ⟨1, false, [.d (.x .nilFunc)], 8, .func⟩),
  (208, ⟨1, false, [.d (.x .nilFunc)], 8, .func⟩),
  (210, ⟨1, false, [.d (.x .nilFunc)], 8, .func⟩),
  (211, ⟨1, false, [.d (.x .nilFunc)], 8, .func⟩),
  (212, ⟨1, false, [.d (.i .u32 0)], 4, .int .u32⟩),
  (213, ⟨1, false, [.d (.x .nilFunc)], 8, .func⟩),
  (214, ⟨1, false, [.d (.i .u64 0)], 8, .int .u64⟩),
  (215, ⟨1, false, [.d (.x .nilFunc)], 8, .func⟩),
  (216, ⟨1, false, [.d (.x .nilFunc)], 8, .func⟩),
  (217, ⟨1, false, [.d (.x .nilFunc)], 8, .func⟩),
  (218, ⟨1, false, [.d (.x .nilFunc)], 8, .func⟩),
  (219, ⟨1, false, [.d (.x .nilFunc)], 8, .func⟩),
  (220, ⟨1, false, [.nl 1], 24, .slice 23⟩),
  (221, ⟨1, false, [.d (.x .nilFunc)], 8, .func⟩),
  (222, ⟨1, false, [.d (.x (.pointer none))], 8, .uptr⟩),
  (223, ⟨1, false, [.d (.x .nilFunc)], 8, .func⟩),
  (224, ⟨1, false, [.d (.x .nilFunc)], 8, .func⟩),
  (225, ⟨1, false, [.d (.x .nilFunc)], 8, .func⟩),
  (226, ⟨1, false, [.d (.x .nilFunc)], 8, .func⟩),
  (227, ⟨1, false, [.d (.x .nilFunc)], 8, .func⟩),
  (228, ⟨1, false, [.d (.x .nilFunc)], 8, .func⟩),
  (229, ⟨1, false, [.d (.x .nilFunc)], 8, .func⟩),
  (230, ⟨1, false, [.d (.i .u64 0)], 8, .int .u64⟩),
  (231, ⟨1, false, [.d (.x .nilFunc)], 8, .func⟩),
  (232, ⟨1, false, [.d (.x .nilFunc)], 8, .func⟩),
  (233, ⟨1, false, [.d (.x .nilFunc)], 8, .func⟩),
  (234, ⟨1, false, [.d (.x (.pointer none))], 8, .ptr 3⟩),
  (235, ⟨1, false, [.d (.x .nilFunc)], 8, .func⟩),
  (236, ⟨1, false, [.d (.x .nilFunc)], 8, .func⟩),
  (237, ⟨1, false, [.d (.x .nilFunc)], 8, .func⟩),
  (238, ⟨1, false, [.d (.x .nilFunc)], 8, .func⟩),
  (239, ⟨1, false, [.d (.x .nilFunc)], 8, .func⟩),
  (240, ⟨24, true, List.replicate 24 (.d (.i .u8 0)), 24, .array 24 5⟩),
  (241, ⟨1, false, [.d (.x .nilFunc)], 8, .func⟩),
  (243, ⟨1, false, [.d (.x .nilFunc)], 8, .func⟩),
  (244, ⟨1, false, [.d (.x .nilFunc)], 8, .func⟩),
  (245, ⟨1, false, [.d (.x (.pointer none))], 8, .ptr 230⟩),
  (247, ⟨1, false, [.d (.x .nilFunc)], 8, .func⟩),
  (248, ⟨1, false, [.d (.x .nilFunc)], 8, .func⟩),
  (250, ⟨1, false, [.d (.x .nilFunc)], 8, .func⟩),
  (251, ⟨1, false, [.d (.x .nilFunc)], 8, .func⟩),
  (252, ⟨1, false, [.d (.x .nilFunc)], 8, .func⟩),
  (253, ⟨20, true, [.d (.i .u64 0), .d (.i .u64 0), .d (.i .u64 0), .d (.i .u64 0), .d (.i .u64 0), .d (.i .u64 0), .d (.i .u64 0), .d (.i .u64 0), .d (.i .u64 0), .d (.i .u64 0), .d (.i .u64 0), .d (.i .u64 0), .d (.i .u64 0), .d (.i .u64 0), .d (.i .u64 0), .d (.i .u64 0), .d (.i .u64 0), .d (.i .u64 0), .d (.i .u64 0), .d (.i .u64 0)], 160, .array 20 214⟩),
  (254, ⟨65, true, List.replicate 65 (.d (.i .u8 0)), 65, .array 65 5⟩),
  (255, ⟨1, false, [.d (.x .nilFunc)], 8, .func⟩),
  (256, ⟨1, false, [.d (.x .nilFunc)], 8, .func⟩),
  (258, ⟨1, false, [.d (.x .nilFunc)], 8, .func⟩),
  (259, ⟨32, true, List.replicate 32 (.d (.i .u8 0)), 32, .array 32 5⟩),
  (260, ⟨64, true, List.replicate 64 (.d (.i .u8 0)), 64, .array 64 5⟩),
  (262, ⟨2, true, [.d (.i .u8 0), .d (.i .u8 0)], 2, .struct [(0, 5), (1, 5)]⟩),
  (263, ⟨2, true, [.d (.i .u8 0), .d (.i .u8 0)], 2, .struct [(0, 5), (1, 5)]⟩),
  (264, ⟨32, true, List.replicate 32 (.d (.i .u8 0)), 32, .array 16 263⟩),
  (265, ⟨4, true, [.d (.x (.pointer none)), .d (.x (.pointer none)), .d (.x (.pointer none)), .d (.s [])], 40, .struct [(0, 17), (1, 17), (2, 17), (3, 9)]⟩),
  (266, ⟨4, true, [.d (.x (.pointer none)), .d (.x (.pointer none)), .d (.x (.pointer none)), .d (.s [])], 40, .struct [(0, 17), (1, 17), (2, 17), (3, 9)]⟩),
  (267, ⟨0, true, [], 0, .array 0 16⟩),
  (268, ⟨0, true, [], 0, .other⟩),
  (269, ⟨0, true, [], 0, .other⟩),
  (270, ⟨1, false, [.d (.x .nilFunc)], 8, .func⟩),
  (271, ⟨1, false, [.d (.i .u8 0)], 1, .int .u8⟩),
  (272, ⟨1, false, [.d (.i .u8 0)], 1, .int .u8⟩),
  (273, ⟨1, false, [.d (.x .nilFunc)], 8, .func⟩),
  (274, ⟨1, false, [.d (.i .i32 0)], 4, .int .i32⟩),
  (275, ⟨1, false, [.d (.i .i32 0)], 4, .int .i32⟩),
  (276, ⟨11, true, [.d (.i .u64 0), .d (.i .u64 0), .d (.i .u32 0), .d (.i .u8 0), .d (.i .u8 0), .d (.i .u8 0), .d (.i .u8 0), .d (.x .nilFunc), .d (.x (.pointer none)), .d (.i .i32 0), .d (.i .i32 0)], 48, .struct [(0, 12), (1, 12), (2, 212), (3, 271), (4, 5), (5, 5), (6, 272), (7, 273), (8, 193), (9, 274), (10, 275)]⟩),
  (277, ⟨11, true, [.d (.i .u64 0), .d (.i .u64 0), .d (.i .u32 0), .d (.i .u8 0), .d (.i .u8 0), .d (.i .u8 0), .d (.i .u8 0), .d (.x .nilFunc), .d (.x (.pointer none)), .d (.i .i32 0), .d (.i .i32 0)], 48, .struct [(0, 12), (1, 12), (2, 212), (3, 271), (4, 5), (5, 5), (6, 272), (7, 273), (8, 193), (9, 274), (10, 275)]⟩)]
def glPow : Gl := ⟨4, 1, [.i .u64 1, .i .u64 10, .i .u64 100, .i .u64 1000, .i .u64 10000, .i .u64 100000, .i .u64 1000000, .i .u64 10000000, .i .u64 100000000, .i .u64 1000000000, .i .u64 10000000000, .i .u64 100000000000, .i .u64 1000000000000, .i .u64 10000000000000, .i .u64 100000000000000, .i .u64 1000000000000000, .i .u64 10000000000000000, .i .u64 100000000000000000, .i .u64 1000000000000000000, .i .u64 10000000000000000000]⟩
def gl32 : Gl := ⟨5, 1, [.i .u8 0, .i .u8 1, .i .u8 28, .i .u8 2, .i .u8 29, .i .u8 14, .i .u8 24, .i .u8 3, .i .u8 30, .i .u8 22, .i .u8 20, .i .u8 15, .i .u8 25, .i .u8 17, .i .u8 4, .i .u8 8, .i .u8 31, .i .u8 27, .i .u8 13, .i .u8 23, .i .u8 21, .i .u8 19, .i .u8 16, .i .u8 7, .i .u8 26, .i .u8 12, .i .u8 18, .i .u8 6, .i .u8 11, .i .u8 5, .i .u8 10, .i .u8 9]⟩
def gl64 : Gl := ⟨6, 1, [.i .u8 0, .i .u8 1, .i .u8 56, .i .u8 2, .i .u8 57, .i .u8 49, .i .u8 28, .i .u8 3, .i .u8 61, .i .u8 58, .i .u8 42, .i .u8 50, .i .u8 38, .i .u8 29, .i .u8 17, .i .u8 4, .i .u8 62, .i .u8 47, .i .u8 59, .i .u8 36, .i .u8 45, .i .u8 43, .i .u8 51, .i .u8 22, .i .u8 53, .i .u8 39, .i .u8 33, .i .u8 30, .i .u8 24, .i .u8 18, .i .u8 12, .i .u8 5, .i .u8 63, .i .u8 55, .i .u8 48, .i .u8 27, .i .u8 60, .i .u8 41, .i .u8 37, .i .u8 16, .i .u8 46, .i .u8 35, .i .u8 44, .i .u8 21, .i .u8 52, .i .u8 32, .i .u8 23, .i .u8 11, .i .u8 54, .i .u8 26, .i .u8 40, .i .u8 15, .i .u8 34, .i .u8 20, .i .u8 31, .i .u8 10, .i .u8 25, .i .u8 14, .i .u8 19, .i .u8 9, .i .u8 13, .i .u8 8, .i .u8 7, .i .u8 6]⟩
def namesT : List (List UInt8) := [[105, 100, 108, 101], [114, 117, 110, 110, 105, 110, 103], [112, 114, 111, 109, 111, 116, 101, 100], [114, 111, 108, 108, 101, 100, 98, 97, 99, 107], [112, 97, 117, 115, 101, 100]]
def cmdsT : List (List UInt8) := [[], [115, 116, 97, 114, 116], [112, 97, 117, 115, 101], [114, 101, 115, 117, 109, 101], [112, 114, 111, 109, 111, 116, 101], [97, 98, 111, 114, 116], [114, 101, 115, 101, 116]]
def reasonsT : List (Int × List UInt8) := [(200, [79, 75]), (400, [66, 97, 100, 32, 82, 101, 113, 117, 101, 115, 116]), (404, [78, 111, 116, 32, 70, 111, 117, 110, 100]), (405, [77, 101, 116, 104, 111, 100, 32, 78, 111, 116, 32, 65, 108, 108, 111, 119, 101, 100]), (408, [82, 101, 113, 117, 101, 115, 116, 32, 84, 105, 109, 101, 111, 117, 116]), (409, [67, 111, 110, 102, 108, 105, 99, 116]), (413, [67, 111, 110, 116, 101, 110, 116, 32, 84, 111, 111, 32, 76, 97, 114, 103, 101]), (431, [82, 101, 113, 117, 101, 115, 116, 32, 72, 101, 97, 100, 101, 114, 32, 70, 105, 101, 108, 100, 115, 32, 84, 111, 111, 32, 76, 97, 114, 103, 101]), (502, [66, 97, 100, 32, 71, 97, 116, 101, 119, 97, 121]), (503, [83, 101, 114, 118, 105, 99, 101, 32, 85, 110, 97, 118, 97, 105, 108, 97, 98, 108, 101]), (504, [71, 97, 116, 101, 119, 97, 121, 32, 84, 105, 109, 101, 111, 117, 116]), (505, [72, 84, 84, 80, 32, 86, 101, 114, 115, 105, 111, 110, 32, 78, 111, 116, 32, 83, 117, 112, 112, 111, 114, 116, 101, 100])]
def rec2 (x : Int × List UInt8) : D := .agg [.i .i64 x.1, .s x.2]
def shaK : List Int := [1116352408, 1899447441, 3049323471, 3921009573, 961987163, 1508970993, 2453635748, 2870763221, 3624381080, 310598401, 607225278, 1426881987, 1925078388, 2162078206, 2614888103, 3248222580, 3835390401, 4022224774, 264347078, 604807628, 770255983, 1249150122, 1555081692, 1996064986, 2554220882, 2821834349, 2952996808, 3210313671, 3336571891, 3584528711, 113926993, 338241895, 666307205, 773529912, 1294757372, 1396182291, 1695183700, 1986661051, 2177026350, 2456956037, 2730485921, 2820302411, 3259730800, 3345764771, 3516065817, 3600352804, 4094571909, 275423344, 430227734, 506948616, 659060556, 883997877, 958139571, 1322822218, 1537002063, 1747873779, 1955562222, 2024104815, 2227730452, 2361852424, 2428436474, 2756734187, 3204031479, 3329325298]
def shaI : List Int := [1779033703, 3144134277, 1013904242, 2773480762, 1359893119, 2600822924, 528734635, 1541459225]
def glNames : Gl := ⟨1, 1, namesT.map .s⟩
def glCmds : Gl := ⟨0, 1, cmdsT.map .s⟩
def glReasons : Gl := ⟨2, 2, reasonsT.map rec2⟩
theorem tabOk : (tab.all fun x => chkTy Tryd.prog x.1 x.2) = true := by kernel_rfl
/-- The seat's context, with the variables that are told. -/
noncomputable abbrev CG (G : List Gl) : Ctx := ⟨Tryd.prog, tab, G, tabOk⟩
abbrev gN (G : List Gl) : List Gl := glPow :: gl32 :: gl64 :: G
abbrev gR (G : List Gl) : List Gl := gN (glReasons :: G)
abbrev gA (G : List Gl) : List Gl := gR (glNames :: glCmds :: G)
noncomputable abbrev CN (G : List Gl) : Ctx := CG (gN G)
noncomputable abbrev CR (G : List Gl) : Ctx := CG (gR G)
noncomputable abbrev CA (G : List Gl) : Ctx := CG (gA G)
theorem up {G1 G2 : List Gl} (hs : ∀ x, x ∈ G1 → x ∈ G2) {f : FuncId} {ds rs : List D} (h : Does (CG G1) f ds rs) : Does (CG G2) f ds rs :=
  ⟨h.1, fun w X vs hX hG => h.2 w X vs hX fun x hx => hG x (hs x hx)⟩
end Go.Proofs.YtiokdhklhnhfhaaDoor

namespace Go.Proofs.YtiokdhklhnhfhaaDoor
variable {G : List Go.Eng.Gl}
open Go.Eng
attribute [local irreducible] Hold Does

def addF (m : Int) : List Int → Int → Int
  | [], s => s
  | n :: l, s => addF m l (s + min (max n 0) (m - s))

def add25s (most : Int) (l : List Int) : Nat × Int → AS
  | (i, s) => ⟨[(0, .d (.i .i64 most)), (1, .d (ints l)), (5, .d (.i .i64 s)), (8, .d (ints l)), (9, .d (.i .i64 l.length)), (10, .d (.i .i64 i))], [], 1⟩
def add25i (most : Int) (l : List Int) : Nat × Int → Prop
  | (i, s) => i ≤ l.length ∧ 0 ≤ s ∧ s ≤ max most 0 ∧ addF (max most 0) (l.drop i) s = addF (max most 0) l 0

theorem add25 (most : Int) (l : List Int) (h : I64 most) (hl : l.length ≤ 9223372036854775807) : Does (CG G) 171 [.i .i64 most, ints l] [.i .i64 (addF (max most 0) l 0)] := by
  have hm := h.2
  refine Does.mk (n := 25) Tryd.func171 rfl rfl rfl (Nat.le_of_ble_eq_true rfl) ?_
  repeat refine seq_on ?_
  refine loop_inv (add25i most l) (add25s most l) (fun y => l.length - y.1) (0, 0) ⟨Nat.zero_le _, Int.le_refl _, by omega, rfl⟩ [] ?_ ?_
  · repeat' constructor
    all_goals refine hold ?_
    all_goals (first | with_reducible rfl | simp)
  rintro ⟨i, s⟩ ⟨hi, h0, hs, hf⟩
  refine cmp_dec (fun h1 => ?_) (fun h1 => ?_)
  · repeat refine seq_on ?_
    have hi' : i < l.length := by omega
    refine get_at i rfl (getInts hi') ?_
    refine ar ⟨by omega, by omega⟩ ?_
    refine ar ⟨by omega, by omega⟩ ?_
    refine ar ⟨by omega, by omega⟩ ?_
    refine again (i + 1, s + min (max (l.getD i 0) 0) (max most 0 - s)) [] (by exact ⟨by omega, by omega, by omega, by rw [← hf, drop_at 0 hi']; rfl⟩) (by show l.length - (i + 1) < l.length - i; omega) ?_
    repeat' constructor
    all_goals refine hold ?_
    all_goals (first | with_reducible rfl | simp)
  · repeat refine seq_on ?_
    refine congrArg (fun x => [D.i .i64 x]) ?_
    rw [← hf, List.drop_eq_nil_of_le (by omega)]; rfl

theorem addF_full (m : Int) (l : List Int) : addF m l m = m := by
  induction l with
  | nil => rfl
  | cons n l ih => simp only [addF]; rw [show m + min (max n 0) (m - m) = m by omega]; exact ih

def add26s (most : Int) (l : List Int) : Nat × Int → AS
  | (i, s) => ⟨[(0, .d (.i .i64 most)), (1, .d (ints l)), (5, .d (.i .i64 s)), (6, .d (.i .i64 i))], [], 1⟩

theorem add26 (most : Int) (l : List Int) (h : I64 most) (hl : l.length ≤ 9223372036854775807) : Does (CG G) 211 [.i .i64 most, ints l] [.i .i64 (addF (max most 0) l 0)] := by
  have hm := h.2
  refine Does.mk (n := 31) Tryd.func211 rfl rfl rfl (Nat.le_of_ble_eq_true rfl) ?_
  repeat refine seq_on ?_
  refine cmp_dec (fun h1 => ?_) (fun h1 => ?_)
  · repeat refine seq_on ?_
    refine congrArg (fun x => [D.i .i64 x]) ?_
    rw [show max most 0 = 0 by omega, addF_full]
  repeat refine seq_on ?_
  refine loop_inv (add25i most l) (add26s most l) (fun y => l.length - y.1) (0, 0) ⟨Nat.zero_le _, Int.le_refl _, by omega, rfl⟩ [] ?_ ?_
  · repeat' constructor
    all_goals refine hold ?_
    all_goals (first | with_reducible rfl | simp)
  rintro ⟨i, s⟩ ⟨hi, h0, hs, hf⟩
  have hlen : (l.map (D.i .i64)).length = l.length := by simp
  repeat refine seq_on ?_
  refine cmp_dec (fun h2 => ?_) (fun h2 => ?_)
  · repeat refine seq_on ?_
    have hi' : i < l.length := by omega
    have hf' := hf
    rw [drop_at 0 hi'] at hf'
    repeat refine seq_on ?_
    refine get_at i rfl (getInts hi') ?_
    repeat refine seq_on ?_
    refine ar ⟨by omega, by omega⟩ ?_
    repeat refine seq_on ?_
    refine cmp_dec (fun h3 => ?_) (fun h3 => ?_)
    · repeat refine seq_on ?_
      refine congrArg (fun x => [D.i .i64 x]) ?_
      simp only [addF] at hf'
      rw [← hf', show s + min (max (l.getD i 0) 0) (max most 0 - s) = most by omega, show max most 0 = most by omega, addF_full]
    · repeat refine seq_on ?_
      refine ar ⟨by omega, by omega⟩ ?_
      repeat refine seq_on ?_
      refine ar ⟨by omega, by omega⟩ ?_
      refine again (i + 1, s + min (max (l.getD i 0) 0) (max most 0 - s)) [] (by exact ⟨by omega, by omega, by omega, hf'⟩) (by show l.length - (i + 1) < l.length - i; omega) ?_
      repeat' constructor
      all_goals refine hold ?_
      all_goals (first | with_reducible rfl | (congr 1; omega) | simp)
  · repeat refine seq_on ?_
    refine congrArg (fun x => [D.i .i64 x]) ?_
    rw [← hf, List.drop_eq_nil_of_le (by omega)]; rfl
end Go.Proofs.YtiokdhklhnhfhaaDoor

namespace Go.Proofs.YtiokdhklhnhfhaaDoor
variable {G : List Go.Eng.Gl}
open Go.Eng
attribute [local irreducible] Hold Does

def dg (c : Int) : Int := if 48 ≤ c ∧ c ≤ 57 then c - 48 else if 97 ≤ c ∧ c ≤ 102 then c - 87 else if 65 ≤ c ∧ c ≤ 70 then c - 55 else 16

theorem dg_lo (c : Int) : 0 ≤ dg c ∧ dg c ≤ 16 := by
  unfold dg
  repeat' split
  all_goals omega

theorem digit80 (c : Int) (h : 0 ≤ c ∧ c ≤ 255) : Does (CG G) 244 [.i .u8 c] [.i .i64 (dg c)] := by
  refine Does.mk (n := 35) Tryd.func244 rfl rfl rfl (Nat.le_of_ble_eq_true rfl) ?_
  repeat' (first | refine seq_on ?_ | refine cmp_dec (fun _ => ?_) (fun _ => ?_) | refine ar8 ⟨by omega, by omega⟩ ?_ | refine ar ⟨by omega, by omega⟩ ?_)
  all_goals refine congrArg (fun x => [D.i .i64 x]) ?_
  all_goals unfold dg
  all_goals repeat' split
  all_goals omega

theorem digit92 (c : Int) : Does (CG G) 233 [.i .u8 c] [.b (decide (48 ≤ c ∧ c ≤ 57))] := by
  refine Does.mk (n := 9) Tryd.func233 rfl rfl rfl (Nat.le_of_ble_eq_true rfl) ?_
  repeat' (first | refine seq_on ?_ | refine cmp_dec (fun _ => ?_) (fun _ => ?_))
  all_goals refine congrArg (fun x => [D.b x]) ?_
  all_goals simp
  all_goals omega

theorem digit81 (c b : Int) (h : 0 ≤ c ∧ c ≤ 255) (hb : 2 ≤ b ∧ b ≤ 16) : Does (CG G) 204 [.i .u8 c, .i .i64 b] [.i .i64 (if b ≤ dg c then -1 else dg c)] := by
  refine Does.mk (n := 38) Tryd.func204 rfl rfl rfl (Nat.le_of_ble_eq_true rfl) ?_
  refine seq_inv (fun _ : Unit => True) (fun _ => ⟨[(0, .d (.i .u8 c)), (1, .d (.i .i64 b)), (5, .d (.i .i64 (if dg c = 16 then -1 else dg c)))], [], 1⟩) ?_ ?_
  · refine call_by (digit92 c) ?_
    by_cases h0 : 48 ≤ c ∧ c ≤ 57
    · rw [decide_eq_true h0]
      repeat' (first | refine seq_on ?_ | refine cmp_dec (fun _ => ?_) (fun _ => ?_) | refine ar8 ⟨by omega, by omega⟩ ?_ | refine ar ⟨by omega, by omega⟩ ?_)
      refine cut_inv () [] trivial ?_
      repeat' constructor
      all_goals refine hold ?_
      all_goals first | with_reducible rfl | skip
      congr 1; unfold dg; repeat' split
      all_goals omega
    · rw [decide_eq_false h0]
      repeat' (first | refine seq_on ?_ | refine cmp_dec (fun _ => ?_) (fun _ => ?_) | refine ar8 ⟨by omega, by omega⟩ ?_ | refine ar ⟨by omega, by omega⟩ ?_)
      all_goals refine cut_inv () [] trivial ?_
      all_goals repeat' constructor
      all_goals refine hold ?_
      all_goals first | with_reducible rfl | skip
      all_goals congr 1; unfold dg; repeat' split
      all_goals omega
  · intro _ _
    have hd := dg_lo c
    repeat' (first | refine seq_on ?_ | refine cmp_dec (fun _ => ?_) (fun _ => ?_))
    all_goals refine congrArg (fun x => [D.i .i64 x]) ?_
    all_goals split
    all_goals (try split at *)
    all_goals omega
end Go.Proofs.YtiokdhklhnhfhaaDoor

namespace Go.Proofs.YtiokdhklhnhfhaaDoor
variable {G : List Go.Eng.Gl}
open Go.Eng
attribute [local irreducible] Hold Does

def dc (c : UInt8) : Int := dg (c.toNat : Int)
theorem dc_lo (c : UInt8) : 0 ≤ dc c ∧ dc c ≤ 16 := dg_lo _
theorem u8_lo (c : UInt8) : 0 ≤ (c.toNat : Int) ∧ (c.toNat : Int) ≤ 255 := by
  have := c.toNat_lt; omega

def bad (base : Int) (s : List UInt8) : Prop := ∃ c, c ∈ s ∧ base ≤ dc c

def acc (base most : Int) : List UInt8 → Int → Option Int
  | [], n => some n
  | c :: l, n => if most < dc c ∨ (most - dc c).tdiv base < n then none else acc base most l (n * base + dc c)

def parseR (r : Option Int) : Int × Int := match r with | none => (0, 3) | some n => (n, 0)
noncomputable def parseF (base most : Int) (s : List UInt8) : Int × Int :=
  open Classical in if bad base s ∨ s = [] then (0, 2) else parseR (acc base most s 0)

theorem parseF_bad {base most : Int} {s : List UInt8} (h : bad base s ∨ s = []) : parseF base most s = (0, 2) := by unfold parseF; rw [if_pos h]
theorem parseF_ok {base most : Int} {s : List UInt8} (h : ¬ bad base s) (h1 : s ≠ []) : parseF base most s = parseR (acc base most s 0) := by
  unfold parseF; rw [if_neg]; rintro (h2 | h2)
  · exact h h2
  · exact h1 h2

def pres (r : Int × Int) : List D := [.i .i64 r.1, .i .i64 r.2]

theorem acc_none {base most : Int} {c : UInt8} {l : List UInt8} {n : Int} (h : most < dc c ∨ (most - dc c).tdiv base < n) : acc base most (c :: l) n = none := by simp only [acc]; rw [if_pos h]
theorem acc_some {base most : Int} {c : UInt8} {l : List UInt8} {n : Int} (h1 : ¬ most < dc c) (h : ¬ (most - dc c).tdiv base < n) : acc base most (c :: l) n = acc base most l (n * base + dc c) := by
  simp only [acc]; rw [if_neg (by omega)]
theorem div_mul {base a n : Int} (hb : 2 ≤ base) (ha : 0 ≤ a) (h : ¬ a.tdiv base < n) : n * base ≤ a := by
  rw [Int.tdiv_eq_ediv_of_nonneg ha] at h
  exact (Int.le_ediv_iff_mul_le (by omega)).1 (by omega)
theorem tdiv_lo {base a : Int} (hb : 2 ≤ base) (ha : 0 ≤ a) : 0 ≤ a.tdiv base ∧ a.tdiv base ≤ a := by
  rw [Int.tdiv_eq_ediv_of_nonneg ha]
  exact ⟨Int.ediv_nonneg ha (by omega), Int.ediv_le_self _ ha⟩

def p55a (s : List UInt8) (base most : Int) (i : Nat) : AS :=
  ⟨[(0, .d (.s s)), (1, .d (.i .i64 base)), (2, .d (.i .i64 most)), (13, .d (.i .i64 s.length)), (14, .d (.i .i64 i))], [], 1⟩
def p55b (s : List UInt8) (base most : Int) : Nat × Int → AS
  | (i, n) => ⟨[(0, .d (.s s)), (1, .d (.i .i64 base)), (2, .d (.i .i64 most)), (9, .d (.i .i64 n)), (27, .d (.i .i64 s.length)), (28, .d (.i .i64 i))], [], 1⟩
def pia (s : List UInt8) (base : Int) (i : Nat) : Prop := i ≤ s.length ∧ (bad base (s.drop i) ↔ bad base s)
def pib (s : List UInt8) (base most : Int) : Nat × Int → Prop
  | (i, n) => i ≤ s.length ∧ 0 ≤ n ∧ acc base most (s.drop i) n = acc base most s 0

theorem bad_cons {base : Int} {c : UInt8} {l : List UInt8} : bad base (c :: l) ↔ base ≤ dc c ∨ bad base l := by
  unfold bad
  constructor
  · rintro ⟨x, hx, hb⟩
    rcases List.mem_cons.1 hx with rfl | hx
    · exact .inl hb
    · exact .inr ⟨x, hx, hb⟩
  · rintro (h | ⟨x, hx, hb⟩)
    · exact ⟨c, List.mem_cons_self, h⟩
    · exact ⟨x, List.mem_cons_of_mem _ hx, hb⟩
theorem bad_nil {base : Int} : ¬ bad base [] := by rintro ⟨x, hx, _⟩; cases hx

theorem parse55 (s : List UInt8) (base most : Int) (hb : 2 ≤ base ∧ base ≤ 16) (hm : I64 most) (hs : s.length ≤ 9223372036854775807) :
    Does (CG G) 229 [.s s, .i .i64 base, .i .i64 most] (pres (parseF base most s)) := by
  have hmm := hm.2
  refine Does.mk (n := 54) Tryd.func229 rfl rfl rfl (Nat.le_of_ble_eq_true rfl) ?_
  refine seq_inv (fun _ : Unit => ¬ bad base s) (fun _ => ⟨[(0, .d (.s s)), (1, .d (.i .i64 base)), (2, .d (.i .i64 most))], [], 1⟩) ?_ ?_
  · repeat refine seq_on ?_
    refine loop_inv (pia s base) (p55a s base most) (fun i => s.length - i) 0 ⟨Nat.zero_le _, Iff.rfl⟩ [] ?_ ?_
    · ((repeat' constructor) <;> (first | refine hold ?_ | rfl) <;> first | with_reducible rfl | (congr 1 <;> omega) | (congr 1 <;> simp; done) | (simp; done) | exact encB_snoc _ _ | skip)
    rintro i ⟨hi, hf⟩
    repeat refine seq_on ?_
    refine cmp_dec (fun h1 => ?_) (fun h1 => ?_)
    · repeat refine seq_on ?_
      have hi' : i < s.length := by omega
      rw [drop_at 0 hi', bad_cons] at hf
      refine get_at i rfl (get_d 0 hi') ?_
      refine call_by (digit80 _ (u8_lo _)) ?_
      refine cmp_dec (fun h2 => ?_) (fun h2 => ?_)
      · show pres (0, 2) = pres (parseF base most s)
        rw [parseF_bad (.inl (hf.1 (.inl h2)))]
      · refine ar ⟨by omega, by omega⟩ ?_
        refine again (i + 1) [] ⟨by omega, ?_⟩ (by omega) ?_
        · rw [← hf]; exact ⟨.inr, fun h => h.resolve_left h2⟩
        · ((repeat' constructor) <;> (first | refine hold ?_ | rfl) <;> first | with_reducible rfl | (congr 1 <;> omega) | (congr 1 <;> simp; done) | (simp; done) | exact encB_snoc _ _ | skip)
    · repeat refine seq_on ?_
      refine cut_inv () [] ?_ ?_
      · rw [List.drop_eq_nil_of_le (by omega)] at hf
        exact fun h => bad_nil (hf.2 h)
      · ((repeat' constructor) <;> (first | refine hold ?_ | rfl) <;> first | with_reducible rfl | (congr 1 <;> omega) | (congr 1 <;> simp; done) | (simp; done) | exact encB_snoc _ _ | skip)
  rintro _ hnb
  repeat refine seq_on ?_
  refine cmp_dec (fun h1 => ?_) (fun h1 => ?_)
  · show pres (0, 2) = pres (parseF base most s)
    rw [parseF_bad (.inr h1)]
  rw [parseF_ok hnb h1]
  repeat refine seq_on ?_
  refine loop_inv (pib s base most) (p55b s base most) (fun y => s.length - y.1) (0, 0) ⟨Nat.zero_le _, Int.le_refl _, rfl⟩ [] ?_ ?_
  · ((repeat' constructor) <;> (first | refine hold ?_ | rfl) <;> first | with_reducible rfl | (congr 1 <;> omega) | (congr 1 <;> simp; done) | (simp; done) | exact encB_snoc _ _ | skip)
  rintro ⟨i, n⟩ ⟨hi, h0, hf⟩
  repeat refine seq_on ?_
  repeat refine seq_on ?_
  refine cmp_dec (fun h2 => ?_) (fun h2 => ?_)
  · repeat refine seq_on ?_
    have hi' : i < s.length := by omega
    rw [drop_at 0 hi'] at hf
    have hd := dc_lo (s.getD i 0)
    refine get_at i rfl (get_d 0 hi') ?_
    refine call_by (digit80 _ (u8_lo _)) ?_
    repeat refine seq_on ?_
    refine cmp_dec (fun h3 => ?_) (fun h3 => ?_)
    · show pres (0, 3) = pres _
      rw [← hf, acc_none (.inl h3)]; rfl
    have h3' : ¬ most < dc (s.getD i 0) := h3
    have hq := tdiv_lo hb.1 (a := most - dc (s.getD i 0)) (by omega)
    refine ar (e := most - dc (s.getD i 0)) ⟨by omega, by omega⟩ ?_
    refine div_ok (by omega) ?_
    refine ar (e := (most - dc (s.getD i 0)).tdiv base) ⟨by omega, by omega⟩ ?_
    repeat refine seq_on ?_
    refine cmp_dec (fun h4 => ?_) (fun h4 => ?_)
    · show pres (0, 3) = pres _
      rw [← hf, acc_none (.inr h4)]; rfl
    have hmul := div_mul hb.1 (by omega) h4
    have hmul0 : 0 ≤ n * base := Int.mul_nonneg h0 (by omega)
    refine ar (e := n * base) ⟨by omega, by omega⟩ ?_
    refine ar (e := n * base + dc (s.getD i 0)) ⟨by omega, by omega⟩ ?_
    refine ar (e := (i : Int) + 1) ⟨by omega, by omega⟩ ?_
    refine again (i + 1, n * base + dc (s.getD i 0)) [] ⟨by omega, by omega, ?_⟩ (by show s.length - (i + 1) < s.length - i; omega) ?_
    · rw [← hf, acc_some h3' h4]
    · ((repeat' constructor) <;> (first | refine hold ?_ | rfl) <;> first | with_reducible rfl | (congr 1 <;> omega) | (congr 1 <;> simp; done) | (simp; done) | exact encB_snoc _ _ | skip)
  · repeat refine seq_on ?_
    show pres (n, 0) = pres _
    rw [← hf, List.drop_eq_nil_of_le (by omega)]; rfl
end Go.Proofs.YtiokdhklhnhfhaaDoor

namespace Go.Proofs.YtiokdhklhnhfhaaDoor
variable {G : List Go.Eng.Gl}
open Go.Eng
attribute [local irreducible] Hold Does

def p56a (s : List UInt8) (base most : Int) (i : Nat) : AS :=
  ⟨[(0, .d (.s s)), (2, .d (.i .i64 base)), (1, .d (.i .i64 most)), (8, .d (.i .i64 i))], [], 1⟩
def p56b (s : List UInt8) (base most : Int) : Nat × Int → AS
  | (i, n) => ⟨[(0, .d (.s s)), (2, .d (.i .i64 base)), (1, .d (.i .i64 most)), (9, .d (.i .i64 n)), (10, .d (.i .i64 i))], [], 1⟩

theorem parse56 (s : List UInt8) (base most : Int) (hb : 2 ≤ base ∧ base ≤ 16) (hm : I64 most) (hs : s.length ≤ 9223372036854775807) :
    Does (CG G) 159 [.s s, .i .i64 most, .i .i64 base] (pres (parseF base most s)) := by
  have hmm := hm.2
  refine Does.mk (n := 55) Tryd.func159 rfl rfl rfl (Nat.le_of_ble_eq_true rfl) ?_
  repeat refine seq_on ?_
  refine cmp_dec (fun h1 => ?_) (fun h1 => ?_)
  · show pres (0, 2) = pres (parseF base most s)
    rw [parseF_bad (.inr h1)]
  refine seq_inv (fun _ : Unit => ¬ bad base s) (fun _ => ⟨[(0, .d (.s s)), (2, .d (.i .i64 base)), (1, .d (.i .i64 most))], [], 1⟩) ?_ ?_
  · repeat refine seq_on ?_
    refine loop_inv (pia s base) (p56a s base most) (fun i => s.length - i) 0 ⟨Nat.zero_le _, Iff.rfl⟩ [] ?_ ?_
    · ((repeat' constructor) <;> (first | refine hold ?_ | rfl) <;> first | with_reducible rfl | (congr 1 <;> omega) | (congr 1 <;> simp; done) | (simp; done) | exact encB_snoc _ _ | skip)
    rintro i ⟨hi, hf⟩
    repeat refine seq_on ?_
    refine cmp_dec (fun h1 => ?_) (fun h1 => ?_)
    · repeat refine seq_on ?_
      have hi' : i < s.length := by omega
      rw [drop_at 0 hi', bad_cons] at hf
      refine get_at i rfl (get_d 0 hi') ?_
      refine call_by (digit81 _ base (u8_lo _) hb) ?_
      have hd := dc_lo (s.getD i 0)
      refine cmp_dec (fun h2 => ?_) (fun h2 => ?_)
      · show pres (0, 2) = pres (parseF base most s)
        have : base ≤ dc (s.getD i 0) := by
          unfold dc at *
          split at h2 <;> omega
        rw [parseF_bad (.inl (hf.1 (.inl this)))]
      · repeat refine seq_on ?_
        have : ¬ base ≤ dc (s.getD i 0) := by
          intro h3
          have h4 : base ≤ dg ((s.getD i 0).toNat : Int) := h3
          rw [if_pos h4] at h2; omega
        refine ar ⟨by omega, by omega⟩ ?_
        refine again (i + 1) [] ⟨by omega, ?_⟩ (by omega) ?_
        · rw [← hf]; exact ⟨.inr, fun h => h.resolve_left this⟩
        · ((repeat' constructor) <;> (first | refine hold ?_ | rfl) <;> first | with_reducible rfl | (congr 1 <;> omega) | (congr 1 <;> simp; done) | (simp; done) | exact encB_snoc _ _ | skip)
    · repeat refine seq_on ?_
      refine cut_inv () [] ?_ ?_
      · rw [List.drop_eq_nil_of_le (by omega)] at hf
        exact fun h => bad_nil (hf.2 h)
      · ((repeat' constructor) <;> (first | refine hold ?_ | rfl) <;> first | with_reducible rfl | (congr 1 <;> omega) | (congr 1 <;> simp; done) | (simp; done) | exact encB_snoc _ _ | skip)
  rintro _ hnb
  rw [parseF_ok hnb h1]
  repeat refine seq_on ?_
  refine loop_inv (fun y => pib s base most y) (p56b s base most) (fun y => s.length - y.1) (0, 0) ⟨Nat.zero_le _, Int.le_refl _, rfl⟩ [] ?_ ?_
  · ((repeat' constructor) <;> (first | refine hold ?_ | rfl) <;> first | with_reducible rfl | (congr 1 <;> omega) | (congr 1 <;> simp; done) | (simp; done) | exact encB_snoc _ _ | skip)
  rintro ⟨i, n⟩ ⟨hi, h0, hf⟩
  repeat refine seq_on ?_
  refine cmp_dec (fun h2 => ?_) (fun h2 => ?_)
  · repeat refine seq_on ?_
    have hi' : i < s.length := by omega
    rw [drop_at 0 hi'] at hf
    have hd := dc_lo (s.getD i 0)
    have hdb : ¬ base ≤ dg ((s.getD i 0).toNat : Int) := fun h => hnb ⟨s.getD i 0, List.mem_of_getElem? (get_d 0 hi'), h⟩
    refine get_at i rfl (get_d 0 hi') ?_
    refine call_by (digit81 _ base (u8_lo _) hb) ?_
    rw [if_neg hdb]
    repeat refine seq_on ?_
    refine cmp_dec (fun h3 => ?_) (fun h3 => ?_)
    · repeat refine seq_on ?_
      show pres (0, 3) = pres _
      rw [← hf, acc_none (.inl h3)]; rfl
    have h3' : ¬ most < dc (s.getD i 0) := h3
    have hq := tdiv_lo hb.1 (a := most - dc (s.getD i 0)) (by omega)
    refine ar (e := most - dc (s.getD i 0)) ⟨by omega, by omega⟩ ?_
    refine div_ok (by omega) ?_
    refine ar (e := (most - dc (s.getD i 0)).tdiv base) ⟨by omega, by omega⟩ ?_
    repeat refine seq_on ?_
    refine cmp_dec (fun h4 => ?_) (fun h4 => ?_)
    · repeat refine seq_on ?_
      show pres (0, 3) = pres _
      rw [← hf, acc_none (.inr h4)]; rfl
    have hmul := div_mul hb.1 (by omega) h4
    have hmul0 : 0 ≤ n * base := Int.mul_nonneg h0 (by omega)
    repeat refine seq_on ?_
    refine ar (e := n * base) ⟨by omega, by omega⟩ ?_
    refine ar (e := n * base + dc (s.getD i 0)) ⟨by omega, by omega⟩ ?_
    refine ar (e := (i : Int) + 1) ⟨by omega, by omega⟩ ?_
    refine again (i + 1, n * base + dc (s.getD i 0)) [] ⟨by omega, by omega, ?_⟩ (by show s.length - (i + 1) < s.length - i; omega) ?_
    · rw [← hf, acc_some h3' h4]
    · ((repeat' constructor) <;> (first | refine hold ?_ | rfl) <;> first | with_reducible rfl | (congr 1 <;> omega) | (congr 1 <;> simp; done) | (simp; done) | exact encB_snoc _ _ | skip)
  · repeat refine seq_on ?_
    show pres (n, 0) = pres _
    rw [← hf, List.drop_eq_nil_of_le (by omega)]; rfl

theorem parseHex21 (s : List UInt8) (most : Int) (hm : I64 most) (hs : s.length ≤ 9223372036854775807) : Does (CG G) 200 [.s s, .i .i64 most] (pres (parseF 16 most s)) := by
  refine Does.mk (n := 11) Tryd.func200 rfl rfl rfl (Nat.le_of_ble_eq_true rfl) ?_
  refine call_by (parse55 s 16 most (by omega) hm hs) ?_
  exact rfl
theorem parseHex24 (s : List UInt8) (most : Int) (hm : I64 most) (hs : s.length ≤ 9223372036854775807) : Does (CG G) 115 [.s s, .i .i64 most] (pres (parseF 16 most s)) := by
  refine Does.mk (n := 11) Tryd.func115 rfl rfl rfl (Nat.le_of_ble_eq_true rfl) ?_
  refine call_by (parse56 s 16 most (by omega) hm hs) ?_
  exact rfl
end Go.Proofs.YtiokdhklhnhfhaaDoor

