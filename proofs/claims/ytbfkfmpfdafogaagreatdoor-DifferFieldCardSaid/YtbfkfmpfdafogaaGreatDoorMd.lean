import Derived.Test.YtbfkfmpfdafogaaGreatDoorMc2
import Derived.Test.YtbfkfmpfdafogaaGreatDoorProg
import Derived.KernelRfl
/-
  The seat's types and tables for the engine. The list 'tab' is printed by wip/Tab.lean off the dump.
-/
namespace Go.Proofs.YtbfkfmpfdafogaaGreatDoor
open Go.Eng
def tab : List (Nat × TyI) := [
  (1, ⟨1, false, [.d (.x .nilFunc)], 8, .func⟩),
  (2, ⟨1, false, [.d (.i .i64 0)], 8, .int .i64⟩),
  (3, ⟨1, false, [.d (.i .i64 0)], 8, .int .i64⟩),
  (4, ⟨1, false, [.d (.b false)], 1, .bool⟩),
  (5, ⟨1, false, [.d (.i .u8 0)], 1, .int .u8⟩),
  (6, ⟨1, false, [.d (.i .u8 0)], 1, .int .u8⟩),
  (7, ⟨4, true, [.d (.i .i64 0), .d (.i .i64 0), .d (.b false), .d (.i .u8 0)], 24, .struct [(0, 2), (1, 3), (2, 4), (3, 6)]⟩),
  (8, ⟨4, true, [.d (.i .i64 0), .d (.i .i64 0), .d (.b false), .d (.i .u8 0)], 24, .struct [(0, 2), (1, 3), (2, 4), (3, 6)]⟩),
  (9, ⟨1, false, [.d (.s [])], 16, .str⟩),
  (10, ⟨1, false, [.d (.s [])], 16, .str⟩),
  (11, ⟨1, false, [.d (.s [])], 16, .str⟩),
  (12, ⟨1, false, [.d (.i .u64 0)], 8, .int .u64⟩),
  (13, ⟨2, true, [.d (.s []), .d (.i .u64 0)], 24, .struct [(0, 9), (1, 12)]⟩),
  (14, ⟨2, true, [.d (.s []), .d (.i .u64 0)], 24, .struct [(0, 9), (1, 12)]⟩),
  (15, ⟨1, false, [.d (.x (.pointer none))], 8, .ptr 169⟩),
  (16, ⟨1, false, [.d (.x (.pointer none))], 8, .ptr 172⟩),
  (17, ⟨1, false, [.d (.x (.pointer none))], 8, .ptr 180⟩),
  (18, ⟨1, true, [.d (.x (.pointer none))], 8, .struct [(0, 17)]⟩),
  (19, ⟨1, true, [.d (.x (.pointer none))], 8, .struct [(0, 17)]⟩),
  (20, ⟨1, false, [.d (.x .nilIface)], 16, .iface⟩),
  (21, ⟨1, false, [.d (.i .i32 0)], 4, .int .i32⟩),
  (22, ⟨1, false, [.nl 1], 24, .slice 3⟩),
  (23, ⟨1, false, [.nl 2], 24, .slice 53⟩),
  (24, ⟨1, false, [.nl 1], 24, .slice 9⟩),
  (25, ⟨1, false, [.d (.x .nilFunc)], 8, .func⟩),
  (26, ⟨1, false, [.d (.x .nilFunc)], 8, .func⟩),
  (27, ⟨1, false, [.d (.x .nilFunc)], 8, .func⟩),
  (28, ⟨1, false, [.d (.x .nilFunc)], 8, .func⟩),
  (29, ⟨1, false, [.d (.x .nilFunc)], 8, .func⟩),
  (30, ⟨1, false, [.d (.x .nilFunc)], 8, .func⟩),
  (31, ⟨1, false, [.d (.x .nilFunc)], 8, .func⟩),
  (32, ⟨1, false, [.d (.x .nilFunc)], 8, .func⟩),
  (33, ⟨1, false, [.nl 1], 24, .slice 5⟩),
  (34, ⟨5, true, [.d (.i .i64 0), .d (.s []), .d (.i .i64 0), .nl 2, .nl 1], 80, .struct [(0, 3), (1, 9), (2, 3), (3, 23), (4, 33)]⟩),
  (35, ⟨5, true, [.d (.i .i64 0), .d (.s []), .d (.i .i64 0), .nl 2, .nl 1], 80, .struct [(0, 3), (1, 9), (2, 3), (3, 23), (4, 33)]⟩),
  (36, ⟨1, false, [.d (.x .nilFunc)], 8, .func⟩),
  (37, ⟨1, false, [.d (.x .nilFunc)], 8, .func⟩),
  (38, ⟨4, true, [.d (.i .i64 0), .nl 2, .d (.i .i64 0), .nl 1], 64, .struct [(0, 3), (1, 23), (2, 3), (3, 33)]⟩),
  (39, ⟨4, true, [.d (.i .i64 0), .nl 2, .d (.i .i64 0), .nl 1], 64, .struct [(0, 3), (1, 23), (2, 3), (3, 33)]⟩),
  (40, ⟨1, false, [.d (.x .nilFunc)], 8, .func⟩),
  (41, ⟨1, false, [.d (.x .nilFunc)], 8, .func⟩),
  (42, ⟨1, false, [.d (.x .nilFunc)], 8, .func⟩),
  (43, ⟨3, true, [.d (.b false), .d (.b false), .nl 1], 32, .struct [(0, 4), (1, 4), (2, 24)]⟩),
  (44, ⟨3, true, [.d (.b false), .d (.b false), .nl 1], 32, .struct [(0, 4), (1, 4), (2, 24)]⟩),
  (45, ⟨1, false, [.d (.x .nilFunc)], 8, .func⟩),
  (46, ⟨1, false, [.d (.x .nilFunc)], 8, .func⟩),
  (47, ⟨1, false, [.d (.x .nilFunc)], 8, .func⟩),
  (48, ⟨1, false, [.d (.x .nilFunc)], 8, .func⟩),
  (49, ⟨1, false, [.d (.x .nilFunc)], 8, .func⟩),
  (50, ⟨1, false, [.d (.x .nilFunc)], 8, .func⟩),
  (51, ⟨1, false, [.d (.x .nilFunc)], 8, .func⟩),
  (52, ⟨2, true, [.d (.s []), .d (.s [])], 32, .struct [(0, 9), (1, 9)]⟩),
  (53, ⟨2, true, [.d (.s []), .d (.s [])], 32, .struct [(0, 9), (1, 9)]⟩),
  (54, ⟨1, false, [.d (.x .nilFunc)], 8, .func⟩),
  (55, ⟨1, false, [.d (.x (.pointer none))], 8, .ptr 57⟩),
  (56, ⟨2, true, [.nl 1, .d (.i .i64 0)], 32, .struct [(0, 22), (1, 3)]⟩),
  (57, ⟨2, true, [.nl 1, .d (.i .i64 0)], 32, .struct [(0, 22), (1, 3)]⟩),
  (58, ⟨1, false, [.d (.x .nilFunc)], 8, .func⟩),
  (59, ⟨1, false, [.d (.x (.map none))], 8, .map 9 24⟩),
  (60, ⟨1, false, [.d (.x .nilFunc)], 8, .func⟩),
  (61, ⟨1, false, [.d (.x .nilFunc)], 8, .func⟩),
  (62, ⟨1, false, [.d (.x .nilFunc)], 8, .func⟩),
  (63, ⟨1, false, [.d (.x .nilFunc)], 8, .func⟩),
  (64, ⟨1, false, [.d (.x .nilFunc)], 8, .func⟩),
  (65, ⟨1, false, [.d (.x .nilFunc)], 8, .func⟩),
  (66, ⟨1, false, [.d (.x .nilFunc)], 8, .func⟩),
  (67, ⟨1, false, [.d (.x .nilFunc)], 8, .func⟩),
  (68, ⟨1, false, [.d (.x .nilFunc)], 8, .func⟩),
  (69, ⟨1, false, [.d (.x .nilFunc)], 8, .func⟩),
  (70, ⟨1, false, [.d (.x .nilFunc)], 8, .func⟩),
  (71, ⟨1, false, [.d (.x .nilFunc)], 8, .func⟩),
  (72, ⟨1, false, [.d (.x .nilFunc)], 8, .func⟩),
  (73, ⟨1, false, [.d (.x .nilFunc)], 8, .func⟩),
  (74, ⟨2, true, [.d (.i .i64 0), .d (.i .i64 0)], 16, .array 2 3⟩),
  (75, ⟨1, false, [.d (.x .nilFunc)], 8, .func⟩),
  (76, ⟨1, false, [.d (.x .nilFunc)], 8, .func⟩),
  (78, ⟨1, false, [.d (.x .nilFunc)], 8, .func⟩),
  (79, ⟨1, false, [.d (.x .nilFunc)], 8, .func⟩),
  (80, ⟨3, true, [.d (.s []), .d (.s []), .d (.s [])], 48, .struct [(0, 53), (2, 9)]⟩),
  (81, ⟨3, true, [.d (.s []), .d (.s []), .d (.s [])], 48, .struct [(0, 53), (2, 9)]⟩),
  (82, ⟨1, false, [.d (.x .nilFunc)], 8, .func⟩),
  (83, ⟨1, false, [.d (.x .nilFunc)], 8, .func⟩),
  (84, ⟨1, false, [.d (.x .nilFunc)], 8, .func⟩),
  (85, ⟨1, false, [.d (.x .nilFunc)], 8, .func⟩),
  (86, ⟨1, true, [.d (.s [])], 16, .struct [(0, 9)]⟩),
  (87, ⟨1, true, [.d (.s [])], 16, .struct [(0, 9)]⟩),
  (88, ⟨1, false, [.d (.x .nilFunc)], 8, .func⟩),
  (89, ⟨1, false, [.d (.x (.pointer none))], 8, .ptr 91⟩),
  (90, ⟨2, true, [.d (.x (.pointer none)), .nl 1], 32, .struct [(0, 89), (1, 33)]⟩),
  (91, ⟨2, true, [.d (.x (.pointer none)), .nl 1], 32, .struct [(0, 89), (1, 33)]⟩),
  (92, ⟨1, false, [.d (.x .nilFunc)], 8, .func⟩),
  (93, ⟨1, false, [.d (.x .nilIface)], 16, .iface⟩),
  (94, ⟨1, false, [.d (.x .nilIface)], 16, .iface⟩),
  (96, ⟨1, false, [.d (.x .nilFunc)], 8, .func⟩),
  (97, ⟨1, false, [.d (.x .nilFunc)], 8, .func⟩),
  (98, ⟨1, false, [.d (.x .nilFunc)], 8, .func⟩),
  (99, ⟨1, false, [.d (.x .nilFunc)], 8, .func⟩),
  (100, ⟨1, false, [.d (.i .u64 0)], 8, .int .u64⟩),
  (101, ⟨1, false, [.d (.x .nilFunc)], 8, .func⟩),
  (102, ⟨1, false, [.d (.x .nilFunc)], 8, .func⟩),
  (103, ⟨1, false, [.d (.x .nilFunc)], 8, .func⟩),
  (104, ⟨1, false, [.d (.x .nilFunc)], 8, .func⟩),
  (105, ⟨1, false, [.nl 1], 24, .slice 33⟩),
  (106, ⟨1, false, [.d (.i .u32 0)], 4, .int .u32⟩),
  (107, ⟨8, true, [.d (.i .u32 0), .d (.i .u32 0), .d (.i .u32 0), .d (.i .u32 0), .d (.i .u32 0), .d (.i .u32 0), .d (.i .u32 0), .d (.i .u32 0)], 32, .array 8 106⟩),
  (108, ⟨10, true, [.d (.i .u32 0), .d (.i .u32 0), .d (.i .u32 0), .d (.i .u32 0), .d (.i .u32 0), .d (.i .u32 0), .d (.i .u32 0), .d (.i .u32 0), .d (.i .i64 0), .nl 1], 64, .struct [(0, 107), (8, 3), (9, 33)]⟩),
  (109, ⟨10, true, [.d (.i .u32 0), .d (.i .u32 0), .d (.i .u32 0), .d (.i .u32 0), .d (.i .u32 0), .d (.i .u32 0), .d (.i .u32 0), .d (.i .u32 0), .d (.i .i64 0), .nl 1], 64, .struct [(0, 107), (8, 3), (9, 33)]⟩),
  (110, ⟨1, false, [.d (.x .nilFunc)], 8, .func⟩),
  (111, ⟨1, false, [.d (.x .nilFunc)], 8, .func⟩),
  (112, ⟨1, false, [.d (.x .nilFunc)], 8, .func⟩),
  (113, ⟨1, false, [.d (.x .nilFunc)], 8, .func⟩),
  (114, ⟨1, false, [.d (.x .nilFunc)], 8, .func⟩),
  (115, ⟨1, false, [.d (.x .nilFunc)], 8, .func⟩),
  (116, ⟨1, false, [.d (.x .nilFunc)], 8, .func⟩),
  (117, ⟨1, false, [.d (.x .nilFunc)], 8, .func⟩),
  (118, ⟨1, false, [.d (.x (.pointer none))], 8, .ptr 5⟩),
  (119, ⟨1, false, [.d (.x .nilFunc)], 8, .func⟩),
  (120, ⟨1, false, [.d (.i .i64 0)], 8, .int .i64⟩),
  (122, ⟨1, false, [.d (.x .nilFunc)], 8, .func⟩),
  (123, ⟨1, false, [.d (.x .nilFunc)], 8, .func⟩),
  (124, ⟨1, false, [.d (.x .nilFunc)], 8, .func⟩),
  (126, ⟨1, false, [.d (.x .nilFunc)], 8, .func⟩),
  (127, ⟨1, false, [.d (.x .nilFunc)], 8, .func⟩),
  (128, ⟨1, false, [.d (.x .nilFunc)], 8, .func⟩),
  (129, ⟨1, false, [.d (.i .u64 0)], 8, .int .u64⟩),
  (130, ⟨1, false, [.d (.x .nilFunc)], 8, .func⟩),
  (131, ⟨1, false, [.d (.x .nilFunc)], 8, .func⟩),
  (132, ⟨1, false, [.d (.x .nilFunc)], 8, .func⟩),
  (133, ⟨1, false, [.d (.x .nilFunc)], 8, .func⟩),
  (134, ⟨1, false, [.d (.x .nilFunc)], 8, .func⟩),
  (135, ⟨64, true, List.replicate 64 (.d (.i .u32 0)), 256, .array 64 106⟩),
  (136, ⟨1, false, [.d (.x .nilFunc)], 8, .func⟩),
  (137, ⟨1, false, [.d (.x .nilFunc)], 8, .func⟩),
  (138, ⟨1, false, [.d (.x .nilFunc)], 8, .func⟩),
  (139, ⟨1, false, [.d (.x .nilFunc)], 8, .func⟩),
  (140, ⟨1, false, [.d (.x (.pointer none))], 8, .uptr⟩),
  (141, ⟨1, false, [.d (.x .nilFunc)], 8, .func⟩),
  (142, ⟨1, false, [.d (.i .u64 0)], 8, .int .u64⟩),
  (143, ⟨1, false, [.d (.x .nilFunc)], 8, .func⟩),
  (144, ⟨1, false, [.d (.x .nilFunc)], 8, .func⟩),
  (145, ⟨1, false, [.d (.x .nilFunc)], 8, .func⟩),
  (146, ⟨1, false, [.d (.x (.pointer none))], 8, .ptr 3⟩),
  (147, ⟨1, false, [.d (.x .nilFunc)], 8, .func⟩),
  (148, ⟨1, false, [.d (.x .nilFunc)], 8, .func⟩),
  (149, ⟨1, false, [.d (.x .nilFunc)], 8, .func⟩),
  (150, ⟨1, false, [.d (.x .nilFunc)], 8, .func⟩),
  (151, ⟨1, false, [.d (.x .nilFunc)], 8, .func⟩),
  (152, ⟨1, false, [.d (.x .nilFunc)], 8, .func⟩),
  (153, ⟨1, false, [.d (.x (.pointer none))], 8, .ptr 142⟩),
  (155, ⟨1, false, [.d (.x .nilFunc)], 8, .func⟩),
  (156, ⟨1, false, [.d (.x .nilFunc)], 8, .func⟩),
  (157, ⟨1, false, [.d (.x .nilFunc)], 8, .func⟩),
  (158, ⟨1, false, [.d (.x .nilFunc)], 8, .func⟩),
  (160, ⟨1, false, [.d (.x .nilFunc)], 8, .func⟩),
  (161, ⟨1, false, [.d (.x .nilFunc)], 8, .func⟩),
  (163, ⟨2, true, [.d (.i .u8 0), .d (.i .u8 0)], 2, .struct [(0, 5), (1, 5)]⟩),
  (164, ⟨2, true, [.d (.i .u8 0), .d (.i .u8 0)], 2, .struct [(0, 5), (1, 5)]⟩),
  (165, ⟨32, true, List.replicate 32 (.d (.i .u8 0)), 32, .array 16 164⟩),
  (167, ⟨1, false, [.d (.x .nilFunc)], 8, .func⟩),
  (168, ⟨4, true, [.d (.x (.pointer none)), .d (.x (.pointer none)), .d (.x (.pointer none)), .d (.s [])], 40, .struct [(0, 17), (1, 17), (2, 17), (3, 9)]⟩),
  (169, ⟨4, true, [.d (.x (.pointer none)), .d (.x (.pointer none)), .d (.x (.pointer none)), .d (.s [])], 40, .struct [(0, 17), (1, 17), (2, 17), (3, 9)]⟩),
  (170, ⟨0, true, [], 0, .array 0 16⟩),
  (171, ⟨0, true, [], 0, .other⟩),
  (172, ⟨0, true, [], 0, .other⟩),
  (173, ⟨1, false, [.d (.x .nilFunc)], 8, .func⟩),
  (174, ⟨1, false, [.d (.i .u8 0)], 1, .int .u8⟩),
  (175, ⟨1, false, [.d (.i .u8 0)], 1, .int .u8⟩),
  (176, ⟨1, false, [.d (.x .nilFunc)], 8, .func⟩),
  (177, ⟨1, false, [.d (.i .i32 0)], 4, .int .i32⟩),
  (178, ⟨1, false, [.d (.i .i32 0)], 4, .int .i32⟩),
  (179, ⟨11, true, [.d (.i .u64 0), .d (.i .u64 0), .d (.i .u32 0), .d (.i .u8 0), .d (.i .u8 0), .d (.i .u8 0), .d (.i .u8 0), .d (.x .nilFunc), .d (.x (.pointer none)), .d (.i .i32 0), .d (.i .i32 0)], 48, .struct [(0, 12), (1, 12), (2, 106), (3, 174), (4, 5), (5, 5), (6, 175), (7, 176), (8, 118), (9, 177), (10, 178)]⟩),
  (180, ⟨11, true, [.d (.i .u64 0), .d (.i .u64 0), .d (.i .u32 0), .d (.i .u8 0), .d (.i .u8 0), .d (.i .u8 0), .d (.i .u8 0), .d (.x .nilFunc), .d (.x (.pointer none)), .d (.i .i32 0), .d (.i .i32 0)], 48, .struct [(0, 12), (1, 12), (2, 106), (3, 174), (4, 5), (5, 5), (6, 175), (7, 176), (8, 118), (9, 177), (10, 178)]⟩)]
def namesT : List (List UInt8) := [[105, 100, 108, 101], [114, 117, 110, 110, 105, 110, 103], [112, 114, 111, 109, 111, 116, 101, 100], [114, 111, 108, 108, 101, 100, 98, 97, 99, 107], [112, 97, 117, 115, 101, 100]]
def cmdsT : List (List UInt8) := [[], [115, 116, 97, 114, 116], [112, 97, 117, 115, 101], [114, 101, 115, 117, 109, 101], [112, 114, 111, 109, 111, 116, 101], [97, 98, 111, 114, 116], [114, 101, 115, 101, 116]]
def reasonsT : List (Int × List UInt8) := [(200, [79, 75]), (400, [66, 97, 100, 32, 82, 101, 113, 117, 101, 115, 116]), (404, [78, 111, 116, 32, 70, 111, 117, 110, 100]), (405, [77, 101, 116, 104, 111, 100, 32, 78, 111, 116, 32, 65, 108, 108, 111, 119, 101, 100]), (408, [82, 101, 113, 117, 101, 115, 116, 32, 84, 105, 109, 101, 111, 117, 116]), (409, [67, 111, 110, 102, 108, 105, 99, 116]), (413, [67, 111, 110, 116, 101, 110, 116, 32, 84, 111, 111, 32, 76, 97, 114, 103, 101]), (431, [82, 101, 113, 117, 101, 115, 116, 32, 72, 101, 97, 100, 101, 114, 32, 70, 105, 101, 108, 100, 115, 32, 84, 111, 111, 32, 76, 97, 114, 103, 101]), (502, [66, 97, 100, 32, 71, 97, 116, 101, 119, 97, 121]), (503, [83, 101, 114, 118, 105, 99, 101, 32, 85, 110, 97, 118, 97, 105, 108, 97, 98, 108, 101]), (504, [71, 97, 116, 101, 119, 97, 121, 32, 84, 105, 109, 101, 111, 117, 116]), (505, [72, 84, 84, 80, 32, 86, 101, 114, 115, 105, 111, 110, 32, 78, 111, 116, 32, 83, 117, 112, 112, 111, 114, 116, 101, 100])]
def rec2 (x : Int × List UInt8) : D := .agg [.i .i64 x.1, .s x.2]
def shaK : List Int := [1116352408, 1899447441, 3049323471, 3921009573, 961987163, 1508970993, 2453635748, 2870763221, 3624381080, 310598401, 607225278, 1426881987, 1925078388, 2162078206, 2614888103, 3248222580, 3835390401, 4022224774, 264347078, 604807628, 770255983, 1249150122, 1555081692, 1996064986, 2554220882, 2821834349, 2952996808, 3210313671, 3336571891, 3584528711, 113926993, 338241895, 666307205, 773529912, 1294757372, 1396182291, 1695183700, 1986661051, 2177026350, 2456956037, 2730485921, 2820302411, 3259730800, 3345764771, 3516065817, 3600352804, 4094571909, 275423344, 430227734, 506948616, 659060556, 883997877, 958139571, 1322822218, 1537002063, 1747873779, 1955562222, 2024104815, 2227730452, 2361852424, 2428436474, 2756734187, 3204031479, 3329325298]
def shaI : List Int := [1779033703, 3144134277, 1013904242, 2773480762, 1359893119, 2600822924, 528734635, 1541459225]
def glShaK : Gl := ⟨2, 1, shaK.map (.i .u32)⟩
def glShaI : Gl := ⟨1, 1, shaI.map (.i .u32)⟩
theorem tabOk : (tab.all fun x => chkTy Tryz.prog x.1 x.2) = true := by kernel_rfl
/-- The seat's context, with the variables that are told. -/
noncomputable abbrev CG (G : List Gl) : Ctx := ⟨Tryz.prog, tab, G, tabOk⟩
abbrev gD (G : List Gl) : List Gl := glShaK :: glShaI :: G
noncomputable abbrev CD (G : List Gl) : Ctx := CG (gD G)
theorem up {G1 G2 : List Gl} (hs : ∀ x, x ∈ G1 → x ∈ G2) {f : FuncId} {ds rs : List D} (h : Does (CG G1) f ds rs) : Does (CG G2) f ds rs :=
  ⟨h.1, fun w X vs hX hG => h.2 w X vs hX fun x hx => hG x (hs x hx)⟩
end Go.Proofs.YtbfkfmpfdafogaaGreatDoor

namespace Go.Proofs.YtbfkfmpfdafogaaGreatDoor
variable {G : List Go.Eng.Gl}
open Go.Eng
attribute [local irreducible] Hold Does

def addF (m : Int) : List Int → Int → Int
  | [], s => s
  | n :: l, s => addF m l (s + min (max n 0) (m - s))

def add25s (most : Int) (l : List Int) : Nat × Int → AS
  | (i, s) => ⟨[(0, .d (.i .i64 most)), (1, .d (ints l)), (5, .d (.i .i64 s)), (8, .d (ints l)), (9, .d (.i .i64 l.length)), (10, .d (.i .i64 i))], [], 1⟩
def add25i (most : Int) (l : List Int) : Nat × Int → Prop
  | (i, s) => i ≤ l.length ∧ 0 ≤ s ∧ s ≤ max most 0 ∧ addF (max most 0) (l.drop i) s = addF (max most 0) l 0

theorem addF_full (m : Int) (l : List Int) : addF m l m = m := by
  induction l with
  | nil => rfl
  | cons n l ih => simp only [addF]; rw [show m + min (max n 0) (m - m) = m by omega]; exact ih

def add26s (most : Int) (l : List Int) : Nat × Int → AS
  | (i, s) => ⟨[(0, .d (.i .i64 most)), (1, .d (ints l)), (5, .d (.i .i64 s)), (6, .d (.i .i64 i))], [], 1⟩

end Go.Proofs.YtbfkfmpfdafogaaGreatDoor

namespace Go.Proofs.YtbfkfmpfdafogaaGreatDoor
variable {G : List Go.Eng.Gl}
open Go.Eng
attribute [local irreducible] Hold Does

def dg (c : Int) : Int := if 48 ≤ c ∧ c ≤ 57 then c - 48 else if 97 ≤ c ∧ c ≤ 102 then c - 87 else if 65 ≤ c ∧ c ≤ 70 then c - 55 else 16

theorem dg_lo (c : Int) : 0 ≤ dg c ∧ dg c ≤ 16 := by
  unfold dg
  repeat' split
  all_goals omega

end Go.Proofs.YtbfkfmpfdafogaaGreatDoor

namespace Go.Proofs.YtbfkfmpfdafogaaGreatDoor
variable {G : List Go.Eng.Gl}
open Go.Eng
attribute [local irreducible] Hold Does

def dc (c : UInt8) : Int := dg (c.toNat : Int)
theorem dc_lo (c : UInt8) : 0 ≤ dc c ∧ dc c ≤ 16 := dg_lo _
theorem u8_lo (c : UInt8) : 0 ≤ (c.toNat : Int) ∧ (c.toNat : Int) ≤ 255 := by
  have := c.toNat_lt; omega

def bad (base : Int) (s : List UInt8) : Prop := ∃ c, c ∈ s ∧ base ≤ dc c

def acc (base most : Int) : List UInt8 → Int → Option Int
  | [], n => some n
  | c :: l, n => if most < dc c ∨ (most - dc c).tdiv base < n then none else acc base most l (n * base + dc c)

def parseR (r : Option Int) : Int × Int := match r with | none => (0, 3) | some n => (n, 0)
noncomputable def parseF (base most : Int) (s : List UInt8) : Int × Int :=
  open Classical in if bad base s ∨ s = [] then (0, 2) else parseR (acc base most s 0)

theorem parseF_bad {base most : Int} {s : List UInt8} (h : bad base s ∨ s = []) : parseF base most s = (0, 2) := by unfold parseF; rw [if_pos h]
theorem parseF_ok {base most : Int} {s : List UInt8} (h : ¬ bad base s) (h1 : s ≠ []) : parseF base most s = parseR (acc base most s 0) := by
  unfold parseF; rw [if_neg]; rintro (h2 | h2)
  · exact h h2
  · exact h1 h2

def pres (r : Int × Int) : List D := [.i .i64 r.1, .i .i64 r.2]

theorem acc_none {base most : Int} {c : UInt8} {l : List UInt8} {n : Int} (h : most < dc c ∨ (most - dc c).tdiv base < n) : acc base most (c :: l) n = none := by simp only [acc]; rw [if_pos h]
theorem acc_some {base most : Int} {c : UInt8} {l : List UInt8} {n : Int} (h1 : ¬ most < dc c) (h : ¬ (most - dc c).tdiv base < n) : acc base most (c :: l) n = acc base most l (n * base + dc c) := by
  simp only [acc]; rw [if_neg (by omega)]
theorem div_mul {base a n : Int} (hb : 2 ≤ base) (ha : 0 ≤ a) (h : ¬ a.tdiv base < n) : n * base ≤ a := by
  rw [Int.tdiv_eq_ediv_of_nonneg ha] at h
  exact (Int.le_ediv_iff_mul_le (by omega)).1 (by omega)
theorem tdiv_lo {base a : Int} (hb : 2 ≤ base) (ha : 0 ≤ a) : 0 ≤ a.tdiv base ∧ a.tdiv base ≤ a := by
  rw [Int.tdiv_eq_ediv_of_nonneg ha]
  exact ⟨Int.ediv_nonneg ha (by omega), Int.ediv_le_self _ ha⟩

def p55a (s : List UInt8) (base most : Int) (i : Nat) : AS :=
  ⟨[(0, .d (.s s)), (1, .d (.i .i64 base)), (2, .d (.i .i64 most)), (13, .d (.i .i64 s.length)), (14, .d (.i .i64 i))], [], 1⟩
def p55b (s : List UInt8) (base most : Int) : Nat × Int → AS
  | (i, n) => ⟨[(0, .d (.s s)), (1, .d (.i .i64 base)), (2, .d (.i .i64 most)), (9, .d (.i .i64 n)), (27, .d (.i .i64 s.length)), (28, .d (.i .i64 i))], [], 1⟩
def pia (s : List UInt8) (base : Int) (i : Nat) : Prop := i ≤ s.length ∧ (bad base (s.drop i) ↔ bad base s)
def pib (s : List UInt8) (base most : Int) : Nat × Int → Prop
  | (i, n) => i ≤ s.length ∧ 0 ≤ n ∧ acc base most (s.drop i) n = acc base most s 0

theorem bad_cons {base : Int} {c : UInt8} {l : List UInt8} : bad base (c :: l) ↔ base ≤ dc c ∨ bad base l := by
  unfold bad
  constructor
  · rintro ⟨x, hx, hb⟩
    rcases List.mem_cons.1 hx with rfl | hx
    · exact .inl hb
    · exact .inr ⟨x, hx, hb⟩
  · rintro (h | ⟨x, hx, hb⟩)
    · exact ⟨c, List.mem_cons_self, h⟩
    · exact ⟨x, List.mem_cons_of_mem _ hx, hb⟩
theorem bad_nil {base : Int} : ¬ bad base [] := by rintro ⟨x, hx, _⟩; cases hx

end Go.Proofs.YtbfkfmpfdafogaaGreatDoor

namespace Go.Proofs.YtbfkfmpfdafogaaGreatDoor
variable {G : List Go.Eng.Gl}
open Go.Eng
attribute [local irreducible] Hold Does

def p56a (s : List UInt8) (base most : Int) (i : Nat) : AS :=
  ⟨[(0, .d (.s s)), (2, .d (.i .i64 base)), (1, .d (.i .i64 most)), (8, .d (.i .i64 i))], [], 1⟩
def p56b (s : List UInt8) (base most : Int) : Nat × Int → AS
  | (i, n) => ⟨[(0, .d (.s s)), (2, .d (.i .i64 base)), (1, .d (.i .i64 most)), (9, .d (.i .i64 n)), (10, .d (.i .i64 i))], [], 1⟩

end Go.Proofs.YtbfkfmpfdafogaaGreatDoor

