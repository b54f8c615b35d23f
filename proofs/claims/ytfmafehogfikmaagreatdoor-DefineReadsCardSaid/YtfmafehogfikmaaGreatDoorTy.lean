/- The types of this translation, as far as walks ask for them: a table, checked against the program by the kernel. Written by a program of this repo (gen.py). -/
import Derived.Test.YtfmafehogfikmaaGreatDoorEj
import Derived.Test.YtfmafehogfikmaaGreatDoorRows
namespace Go.Proofs.YtfmafehogfikmaaGreatDoor
open Go

def tab : List (Nat × TE) := [
  (1, ⟨.func, 1, 8, [.nilFunc]⟩),
  (2, ⟨.int .i64, 1, 8, [.int .i64 0]⟩),
  (3, ⟨.int .i64, 1, 8, [.int .i64 0]⟩),
  (4, ⟨.bool, 1, 1, [.bool false]⟩),
  (5, ⟨.int .u8, 1, 1, [.int .u8 0]⟩),
  (9, ⟨.str, 1, 16, [.string ⟨#[]⟩]⟩),
  (12, ⟨.int .u64, 1, 8, [.int .u64 0]⟩),
  (13, ⟨.struct [(0, 9), (1, 12)], 2, 24, [.string ⟨#[]⟩, .int .u64 0]⟩),
  (21, ⟨.int .i32, 1, 4, [.int .i32 0]⟩),
  (22, ⟨.func, 1, 8, [.nilFunc]⟩),
  (23, ⟨.slice 37, 1, 24, [.slice none 0 0]⟩),
  (24, ⟨.func, 1, 8, [.nilFunc]⟩),
  (25, ⟨.slice 9, 1, 24, [.slice none 0 0]⟩),
  (26, ⟨.slice 3, 1, 24, [.slice none 0 0]⟩),
  (27, ⟨.array 2 9, 2, 32, [.string ⟨#[]⟩, .string ⟨#[]⟩]⟩),
  (28, ⟨.slice 54, 1, 24, [.slice none 0 0]⟩),
  (29, ⟨.struct [(0, 9), (1, 9), (2, 3), (3, 25), (4, 26), (5, 27), (7, 9), (8, 9), (9, 4), (10, 28), (11, 3), (12, 9), (13, 9), (14, 9), (15, 3)], 16, 248, [.string ⟨#[]⟩, .string ⟨#[]⟩, .int .i64 0, .slice none 0 0, .slice none 0 0, .string ⟨#[]⟩, .string ⟨#[]⟩, .string ⟨#[]⟩, .string ⟨#[]⟩, .bool false, .slice none 0 0, .int .i64 0, .string ⟨#[]⟩, .string ⟨#[]⟩, .string ⟨#[]⟩, .int .i64 0]⟩),
  (30, ⟨.struct [(0, 9), (1, 9), (2, 3), (3, 25), (4, 26), (5, 27), (7, 9), (8, 9), (9, 4), (10, 28), (11, 3), (12, 9), (13, 9), (14, 9), (15, 3)], 16, 248, [.string ⟨#[]⟩, .string ⟨#[]⟩, .int .i64 0, .slice none 0 0, .slice none 0 0, .string ⟨#[]⟩, .string ⟨#[]⟩, .string ⟨#[]⟩, .string ⟨#[]⟩, .bool false, .slice none 0 0, .int .i64 0, .string ⟨#[]⟩, .string ⟨#[]⟩, .string ⟨#[]⟩, .int .i64 0]⟩),
  (31, ⟨.int .i64, 1, 8, [.int .i64 0]⟩),
  (33, ⟨.func, 1, 8, [.nilFunc]⟩),
  (34, ⟨.slice 50, 1, 24, [.slice none 0 0]⟩),
  (35, ⟨.slice 63, 1, 24, [.slice none 0 0]⟩),
  (36, ⟨.struct [(0, 9), (1, 34), (2, 4), (3, 35)], 4, 72, [.string ⟨#[]⟩, .slice none 0 0, .bool false, .slice none 0 0]⟩),
  (37, ⟨.struct [(0, 9), (1, 34), (2, 4), (3, 35)], 4, 72, [.string ⟨#[]⟩, .slice none 0 0, .bool false, .slice none 0 0]⟩),
  (38, ⟨.struct [(0, 9), (1, 9), (2, 3), (3, 25), (4, 26), (5, 27), (7, 9), (8, 9), (9, 4), (10, 28), (11, 3), (12, 9), (13, 9), (14, 9), (15, 3)], 16, 248, [.string ⟨#[]⟩, .string ⟨#[]⟩, .int .i64 0, .slice none 0 0, .slice none 0 0, .string ⟨#[]⟩, .string ⟨#[]⟩, .string ⟨#[]⟩, .string ⟨#[]⟩, .bool false, .slice none 0 0, .int .i64 0, .string ⟨#[]⟩, .string ⟨#[]⟩, .string ⟨#[]⟩, .int .i64 0]⟩),
  (40, ⟨.func, 1, 8, [.nilFunc]⟩),
  (41, ⟨.func, 1, 8, [.nilFunc]⟩),
  (42, ⟨.func, 1, 8, [.nilFunc]⟩),
  (43, ⟨.func, 1, 8, [.nilFunc]⟩),
  (45, ⟨.func, 1, 8, [.nilFunc]⟩),
  (46, ⟨.func, 1, 8, [.nilFunc]⟩),
  (47, ⟨.struct [(0, 3), (1, 9), (2, 3), (3, 4), (4, 4), (5, 4)], 6, 40, [.int .i64 0, .string ⟨#[]⟩, .int .i64 0, .bool false, .bool false, .bool false]⟩),
  (48, ⟨.struct [(0, 3), (1, 9), (2, 3), (3, 4), (4, 4), (5, 4)], 6, 40, [.int .i64 0, .string ⟨#[]⟩, .int .i64 0, .bool false, .bool false, .bool false]⟩),
  (49, ⟨.struct [(0, 48), (6, 34)], 7, 64, [.int .i64 0, .string ⟨#[]⟩, .int .i64 0, .bool false, .bool false, .bool false, .slice none 0 0]⟩),
  (50, ⟨.struct [(0, 48), (6, 34)], 7, 64, [.int .i64 0, .string ⟨#[]⟩, .int .i64 0, .bool false, .bool false, .bool false, .slice none 0 0]⟩),
  (51, ⟨.func, 1, 8, [.nilFunc]⟩),
  (52, ⟨.func, 1, 8, [.nilFunc]⟩),
  (53, ⟨.func, 1, 8, [.nilFunc]⟩),
  (54, ⟨.array 2 3, 2, 16, [.int .i64 0, .int .i64 0]⟩),
  (56, ⟨.func, 1, 8, [.nilFunc]⟩),
  (57, ⟨.slice 5, 1, 24, [.slice none 0 0]⟩),
  (58, ⟨.func, 1, 8, [.nilFunc]⟩),
  (59, ⟨.ptr 61, 1, 8, [.pointer none]⟩),
  (60, ⟨.struct [(0, 30), (16, 25), (17, 25), (18, 26), (19, 4), (20, 4)], 21, 328, [.string ⟨#[]⟩, .string ⟨#[]⟩, .int .i64 0, .slice none 0 0, .slice none 0 0, .string ⟨#[]⟩, .string ⟨#[]⟩, .string ⟨#[]⟩, .string ⟨#[]⟩, .bool false, .slice none 0 0, .int .i64 0, .string ⟨#[]⟩, .string ⟨#[]⟩, .string ⟨#[]⟩, .int .i64 0, .slice none 0 0, .slice none 0 0, .slice none 0 0, .bool false, .bool false]⟩),
  (61, ⟨.struct [(0, 30), (16, 25), (17, 25), (18, 26), (19, 4), (20, 4)], 21, 328, [.string ⟨#[]⟩, .string ⟨#[]⟩, .int .i64 0, .slice none 0 0, .slice none 0 0, .string ⟨#[]⟩, .string ⟨#[]⟩, .string ⟨#[]⟩, .string ⟨#[]⟩, .bool false, .slice none 0 0, .int .i64 0, .string ⟨#[]⟩, .string ⟨#[]⟩, .string ⟨#[]⟩, .int .i64 0, .slice none 0 0, .slice none 0 0, .slice none 0 0, .bool false, .bool false]⟩),
  (62, ⟨.struct [(0, 9), (1, 34), (2, 4)], 3, 48, [.string ⟨#[]⟩, .slice none 0 0, .bool false]⟩),
  (63, ⟨.struct [(0, 9), (1, 34), (2, 4)], 3, 48, [.string ⟨#[]⟩, .slice none 0 0, .bool false]⟩),
  (64, ⟨.func, 1, 8, [.nilFunc]⟩),
  (65, ⟨.func, 1, 8, [.nilFunc]⟩),
  (66, ⟨.ptr 69, 1, 8, [.pointer none]⟩),
  (67, ⟨.func, 1, 8, [.nilFunc]⟩),
  (68, ⟨.struct [(0, 38), (16, 25), (17, 25), (18, 26)], 19, 320, [.string ⟨#[]⟩, .string ⟨#[]⟩, .int .i64 0, .slice none 0 0, .slice none 0 0, .string ⟨#[]⟩, .string ⟨#[]⟩, .string ⟨#[]⟩, .string ⟨#[]⟩, .bool false, .slice none 0 0, .int .i64 0, .string ⟨#[]⟩, .string ⟨#[]⟩, .string ⟨#[]⟩, .int .i64 0, .slice none 0 0, .slice none 0 0, .slice none 0 0]⟩),
  (69, ⟨.struct [(0, 38), (16, 25), (17, 25), (18, 26)], 19, 320, [.string ⟨#[]⟩, .string ⟨#[]⟩, .int .i64 0, .slice none 0 0, .slice none 0 0, .string ⟨#[]⟩, .string ⟨#[]⟩, .string ⟨#[]⟩, .string ⟨#[]⟩, .bool false, .slice none 0 0, .int .i64 0, .string ⟨#[]⟩, .string ⟨#[]⟩, .string ⟨#[]⟩, .int .i64 0, .slice none 0 0, .slice none 0 0, .slice none 0 0]⟩),
  (70, ⟨.func, 1, 8, [.nilFunc]⟩),
  (71, ⟨.func, 1, 8, [.nilFunc]⟩),
  (72, ⟨.func, 1, 8, [.nilFunc]⟩),
  (73, ⟨.func, 1, 8, [.nilFunc]⟩),
  (74, ⟨.slice 48, 1, 24, [.slice none 0 0]⟩),
  (75, ⟨.func, 1, 8, [.nilFunc]⟩),
  (76, ⟨.slice 21, 1, 24, [.slice none 0 0]⟩),
  (77, ⟨.func, 1, 8, [.nilFunc]⟩),
  (78, ⟨.func, 1, 8, [.nilFunc]⟩),
  (79, ⟨.func, 1, 8, [.nilFunc]⟩),
  (80, ⟨.func, 1, 8, [.nilFunc]⟩),
  (81, ⟨.func, 1, 8, [.nilFunc]⟩),
  (82, ⟨.func, 1, 8, [.nilFunc]⟩),
  (83, ⟨.func, 1, 8, [.nilFunc]⟩),
  (84, ⟨.ptr 9, 1, 8, [.pointer none]⟩),
  (85, ⟨.func, 1, 8, [.nilFunc]⟩),
  (86, ⟨.func, 1, 8, [.nilFunc]⟩),
  (87, ⟨.func, 1, 8, [.nilFunc]⟩),
  (88, ⟨.func, 1, 8, [.nilFunc]⟩),
  (89, ⟨.func, 1, 8, [.nilFunc]⟩),
  (91, ⟨.func, 1, 8, [.nilFunc]⟩),
  (93, ⟨.func, 1, 8, [.nilFunc]⟩),
  (94, ⟨.ptr 96, 1, 8, [.pointer none]⟩),
  (95, ⟨.struct [(0, 76), (1, 3)], 2, 32, [.slice none 0 0, .int .i64 0]⟩),
  (96, ⟨.struct [(0, 76), (1, 3)], 2, 32, [.slice none 0 0, .int .i64 0]⟩),
  (97, ⟨.func, 1, 8, [.nilFunc]⟩),
  (98, ⟨.func, 1, 8, [.nilFunc]⟩),
  (99, ⟨.func, 1, 8, [.nilFunc]⟩),
  (100, ⟨.func, 1, 8, [.nilFunc]⟩),
  (101, ⟨.ptr 103, 1, 8, [.pointer none]⟩),
  (102, ⟨.struct [(0, 101), (1, 57)], 2, 32, [.pointer none, .slice none 0 0]⟩),
  (103, ⟨.struct [(0, 101), (1, 57)], 2, 32, [.pointer none, .slice none 0 0]⟩),
  (105, ⟨.plain, 1, 16, [.nilIface]⟩),
  (106, ⟨.func, 1, 8, [.nilFunc]⟩),
  (107, ⟨.func, 1, 8, [.nilFunc]⟩),
  (108, ⟨.slice 38, 1, 24, [.slice none 0 0]⟩),
  (109, ⟨.func, 1, 8, [.nilFunc]⟩),
  (111, ⟨.func, 1, 8, [.nilFunc]⟩),
  (112, ⟨.func, 1, 8, [.nilFunc]⟩),
  (114, ⟨.func, 1, 8, [.nilFunc]⟩),
  (115, ⟨.func, 1, 8, [.nilFunc]⟩),
  (116, ⟨.slice 34, 1, 24, [.slice none 0 0]⟩),
  (117, ⟨.func, 1, 8, [.nilFunc]⟩),
  (118, ⟨.func, 1, 8, [.nilFunc]⟩),
  (119, ⟨.func, 1, 8, [.nilFunc]⟩),
  (120, ⟨.func, 1, 8, [.nilFunc]⟩),
  (121, ⟨.func, 1, 8, [.nilFunc]⟩),
  (122, ⟨.func, 1, 8, [.nilFunc]⟩),
  (123, ⟨.func, 1, 8, [.nilFunc]⟩),
  (124, ⟨.func, 1, 8, [.nilFunc]⟩),
  (125, ⟨.func, 1, 8, [.nilFunc]⟩),
  (126, ⟨.func, 1, 8, [.nilFunc]⟩),
  (127, ⟨.func, 1, 8, [.nilFunc]⟩),
  (129, ⟨.func, 1, 8, [.nilFunc]⟩),
  (130, ⟨.ptr 5, 1, 8, [.pointer none]⟩),
  (131, ⟨.func, 1, 8, [.nilFunc]⟩),
  (132, ⟨.func, 1, 8, [.nilFunc]⟩),
  (133, ⟨.func, 1, 8, [.nilFunc]⟩),
  (134, ⟨.func, 1, 8, [.nilFunc]⟩),
  (135, ⟨.func, 1, 8, [.nilFunc]⟩),
  (136, ⟨.func, 1, 8, [.nilFunc]⟩),
  (137, ⟨.func, 1, 8, [.nilFunc]⟩),
  (138, ⟨.slice 140, 1, 24, [.slice none 0 0]⟩),
  (139, ⟨.struct [(0, 3), (1, 3)], 2, 16, [.int .i64 0, .int .i64 0]⟩),
  (140, ⟨.struct [(0, 3), (1, 3)], 2, 16, [.int .i64 0, .int .i64 0]⟩),
  (141, ⟨.int .u32, 1, 4, [.int .u32 0]⟩),
  (142, ⟨.func, 1, 8, [.nilFunc]⟩),
  (143, ⟨.ptr 150, 1, 8, [.pointer none]⟩),
  (146, ⟨.func, 1, 8, [.nilFunc]⟩),
  (147, ⟨.slice 153, 1, 24, [.slice none 0 0]⟩),
  (148, ⟨.slice 156, 1, 24, [.slice none 0 0]⟩),
  (149, ⟨.struct [(0, 147), (1, 148), (2, 3)], 3, 56, [.slice none 0 0, .slice none 0 0, .int .i64 0]⟩),
  (150, ⟨.struct [(0, 147), (1, 148), (2, 3)], 3, 56, [.slice none 0 0, .slice none 0 0, .int .i64 0]⟩),
  (151, ⟨.int .u16, 1, 2, [.int .u16 0]⟩),
  (152, ⟨.struct [(0, 151), (1, 151), (2, 151)], 3, 6, [.int .u16 0, .int .u16 0, .int .u16 0]⟩),
  (153, ⟨.struct [(0, 151), (1, 151), (2, 151)], 3, 6, [.int .u16 0, .int .u16 0, .int .u16 0]⟩),
  (154, ⟨.func, 1, 8, [.nilFunc]⟩),
  (155, ⟨.struct [(0, 141), (1, 141), (2, 141)], 3, 12, [.int .u32 0, .int .u32 0, .int .u32 0]⟩),
  (156, ⟨.struct [(0, 141), (1, 141), (2, 141)], 3, 12, [.int .u32 0, .int .u32 0, .int .u32 0]⟩),
  (157, ⟨.func, 1, 8, [.nilFunc]⟩),
  (158, ⟨.ptr 153, 1, 8, [.pointer none]⟩),
  (159, ⟨.int .u64, 1, 8, [.int .u64 0]⟩),
  (160, ⟨.ptr 156, 1, 8, [.pointer none]⟩),
  (166, ⟨.func, 1, 8, [.nilFunc]⟩)
]
theorem tab_ok : TyTab Tryz.prog tab := by
  unfold tab
  exact ⟨by kernel_rfl, by kernel_rfl, by kernel_rfl, by kernel_rfl, by kernel_rfl, by kernel_rfl, by kernel_rfl, by kernel_rfl, by kernel_rfl, by kernel_rfl, by kernel_rfl, by kernel_rfl, by kernel_rfl, by kernel_rfl, by kernel_rfl, by kernel_rfl, by kernel_rfl, by kernel_rfl, by kernel_rfl, by kernel_rfl, by kernel_rfl, by kernel_rfl, by kernel_rfl, by kernel_rfl, by kernel_rfl, by kernel_rfl, by kernel_rfl, by kernel_rfl, by kernel_rfl, by kernel_rfl, by kernel_rfl, by kernel_rfl, by kernel_rfl, by kernel_rfl, by kernel_rfl, by kernel_rfl, by kernel_rfl, by kernel_rfl, by kernel_rfl, by kernel_rfl, by kernel_rfl, by kernel_rfl, by kernel_rfl, by kernel_rfl, by kernel_rfl, by kernel_rfl, by kernel_rfl, by kernel_rfl, by kernel_rfl, by kernel_rfl, by kernel_rfl, by kernel_rfl, by kernel_rfl, by kernel_rfl, by kernel_rfl, by kernel_rfl, by kernel_rfl, by kernel_rfl, by kernel_rfl, by kernel_rfl, by kernel_rfl, by kernel_rfl, by kernel_rfl, by kernel_rfl, by kernel_rfl, by kernel_rfl, by kernel_rfl, by kernel_rfl, by kernel_rfl, by kernel_rfl, by kernel_rfl, by kernel_rfl, by kernel_rfl, by kernel_rfl, by kernel_rfl, by kernel_rfl, by kernel_rfl, by kernel_rfl, by kernel_rfl, by kernel_rfl, by kernel_rfl, by kernel_rfl, by kernel_rfl, by kernel_rfl, by kernel_rfl, by kernel_rfl, by kernel_rfl, by kernel_rfl, by kernel_rfl, by kernel_rfl, by kernel_rfl, by kernel_rfl, by kernel_rfl, by kernel_rfl, by kernel_rfl, by kernel_rfl, by kernel_rfl, by kernel_rfl, by kernel_rfl, by kernel_rfl, by kernel_rfl, by kernel_rfl, by kernel_rfl, by kernel_rfl, by kernel_rfl, by kernel_rfl, by kernel_rfl, by kernel_rfl, by kernel_rfl, by kernel_rfl, by kernel_rfl, by kernel_rfl, by kernel_rfl, by kernel_rfl, by kernel_rfl, by kernel_rfl, by kernel_rfl, by kernel_rfl, by kernel_rfl, by kernel_rfl, by kernel_rfl, by kernel_rfl, by kernel_rfl, by kernel_rfl, by kernel_rfl, by kernel_rfl, by kernel_rfl, by kernel_rfl, by kernel_rfl, by kernel_rfl, by kernel_rfl, by kernel_rfl, by kernel_rfl, by kernel_rfl, by kernel_rfl, by kernel_rfl, by kernel_rfl, trivial⟩
theorem call4 : uz Tryz.prog 4 := uv Tryz.func4 rfl (by kernel_rfl)
theorem call5 : uz Tryz.prog 5 := uv Tryz.func5 rfl (by kernel_rfl)
theorem call6 : uz Tryz.prog 6 := uv Tryz.func6 rfl (by kernel_rfl)
theorem call7 : uz Tryz.prog 7 := uv Tryz.func7 rfl (by kernel_rfl)
theorem call8 : uz Tryz.prog 8 := uv Tryz.func8 rfl (by kernel_rfl)
theorem call9 : uz Tryz.prog 9 := uv Tryz.func9 rfl (by kernel_rfl)
theorem call10 : uz Tryz.prog 10 := uv Tryz.func10 rfl (by kernel_rfl)
theorem call11 : uz Tryz.prog 11 := uv Tryz.func11 rfl (by kernel_rfl)
theorem call12 : uz Tryz.prog 12 := uv Tryz.func12 rfl (by kernel_rfl)
theorem ze : uz Tryz.prog 13 := uv Tryz.func13 rfl (by kernel_rfl)
theorem zX : uz Tryz.prog 14 := uv Tryz.func14 rfl (by kernel_rfl)
theorem call15 : uz Tryz.prog 15 := uv Tryz.func15 rfl (by kernel_rfl)
theorem call16 : uz Tryz.prog 16 := uv Tryz.func16 rfl (by kernel_rfl)
theorem call17 : uz Tryz.prog 17 := uv Tryz.func17 rfl (by kernel_rfl)
theorem call18 : uz Tryz.prog 18 := uv Tryz.func18 rfl (by kernel_rfl)
theorem call19 : uz Tryz.prog 19 := uv Tryz.func19 rfl (by kernel_rfl)
theorem call20 : uz Tryz.prog 20 := uv Tryz.func20 rfl (by kernel_rfl)
theorem ko : uz Tryz.prog 21 := uv Tryz.func21 rfl (by kernel_rfl)
theorem call22 : uz Tryz.prog 22 := uv Tryz.func22 rfl (by kernel_rfl)
theorem call23 : uz Tryz.prog 23 := uv Tryz.func23 rfl (by kernel_rfl)
theorem call24 : uz Tryz.prog 24 := uv Tryz.func24 rfl (by kernel_rfl)
theorem call25 : uz Tryz.prog 25 := uv Tryz.func25 rfl (by kernel_rfl)
theorem call26 : uz Tryz.prog 26 := uv Tryz.func26 rfl (by kernel_rfl)
theorem call27 : uz Tryz.prog 27 := uv Tryz.func27 rfl (by kernel_rfl)
theorem call28 : uz Tryz.prog 28 := uv Tryz.func28 rfl (by kernel_rfl)
theorem call29 : uz Tryz.prog 29 := uv Tryz.func29 rfl (by kernel_rfl)
theorem call30 : uz Tryz.prog 30 := uv Tryz.func30 rfl (by kernel_rfl)
theorem call31 : uz Tryz.prog 31 := uv Tryz.func31 rfl (by kernel_rfl)
theorem zd : uz Tryz.prog 32 := uv Tryz.func32 rfl (by kernel_rfl)
theorem yq : uz Tryz.prog 33 := uv Tryz.func33 rfl (by kernel_rfl)
theorem call34 : uz Tryz.prog 34 := uv Tryz.func34 rfl (by kernel_rfl)
theorem qD : uz Tryz.prog 35 := uv Tryz.func35 rfl (by kernel_rfl)
theorem call36 : uz Tryz.prog 36 := uv Tryz.func36 rfl (by kernel_rfl)
theorem call37 : uz Tryz.prog 37 := uv Tryz.func37 rfl (by kernel_rfl)
theorem call38 : uz Tryz.prog 38 := uv Tryz.func38 rfl (by kernel_rfl)
theorem call39 : uz Tryz.prog 39 := uv Tryz.func39 rfl (by kernel_rfl)
theorem call40 : uz Tryz.prog 40 := uv Tryz.func40 rfl (by kernel_rfl)
theorem call41 : uz Tryz.prog 41 := uv Tryz.func41 rfl (by kernel_rfl)
theorem call42 : uz Tryz.prog 42 := uv Tryz.func42 rfl (by kernel_rfl)
theorem call43 : uz Tryz.prog 43 := uv Tryz.func43 rfl (by kernel_rfl)
theorem call44 : uz Tryz.prog 44 := uv Tryz.func44 rfl (by kernel_rfl)
theorem call45 : uz Tryz.prog 45 := uv Tryz.func45 rfl (by kernel_rfl)
theorem call46 : uz Tryz.prog 46 := uv Tryz.func46 rfl (by kernel_rfl)
theorem call47 : uz Tryz.prog 47 := uv Tryz.func47 rfl (by kernel_rfl)
theorem call48 : uz Tryz.prog 48 := uv Tryz.func48 rfl (by kernel_rfl)
theorem call49 : uz Tryz.prog 49 := uv Tryz.func49 rfl (by kernel_rfl)
theorem call50 : uz Tryz.prog 50 := uv Tryz.func50 rfl (by kernel_rfl)
theorem zc : uz Tryz.prog 51 := uv Tryz.func51 rfl (by kernel_rfl)
theorem call52 : uz Tryz.prog 52 := uv Tryz.func52 rfl (by kernel_rfl)
theorem call53 : uz Tryz.prog 53 := uv Tryz.func53 rfl (by kernel_rfl)
theorem call54 : uz Tryz.prog 54 := uv Tryz.func54 rfl (by kernel_rfl)
theorem call55 : uz Tryz.prog 55 := uv Tryz.func55 rfl (by kernel_rfl)
theorem call56 : uz Tryz.prog 56 := uv Tryz.func56 rfl (by kernel_rfl)
theorem vh : uz Tryz.prog 57 := uv Tryz.func57 rfl (by kernel_rfl)
theorem call58 : uz Tryz.prog 58 := uv Tryz.func58 rfl (by kernel_rfl)
theorem call59 : uz Tryz.prog 59 := uv Tryz.func59 rfl (by kernel_rfl)
theorem kn : uz Tryz.prog 60 := uv Tryz.func60 rfl (by kernel_rfl)
theorem call61 : uz Tryz.prog 61 := uv Tryz.func61 rfl (by kernel_rfl)
theorem call62 : uz Tryz.prog 62 := uv Tryz.func62 rfl (by kernel_rfl)
theorem call63 : uz Tryz.prog 63 := uv Tryz.func63 rfl (by kernel_rfl)
theorem call64 : uz Tryz.prog 64 := uv Tryz.func64 rfl (by kernel_rfl)
theorem call65 : uz Tryz.prog 65 := uv Tryz.func65 rfl (by kernel_rfl)
theorem call66 : uz Tryz.prog 66 := uv Tryz.func66 rfl (by kernel_rfl)
theorem call67 : uz Tryz.prog 67 := uv Tryz.func67 rfl (by kernel_rfl)
theorem call68 : uz Tryz.prog 68 := uv Tryz.func68 rfl (by kernel_rfl)
theorem call69 : uz Tryz.prog 69 := uv Tryz.func69 rfl (by kernel_rfl)
theorem call70 : uz Tryz.prog 70 := uv Tryz.func70 rfl (by kernel_rfl)
theorem call71 : uz Tryz.prog 71 := uv Tryz.func71 rfl (by kernel_rfl)
theorem call72 : uz Tryz.prog 72 := uv Tryz.func72 rfl (by kernel_rfl)
theorem call73 : uz Tryz.prog 73 := uv Tryz.func73 rfl (by kernel_rfl)
theorem call74 : uz Tryz.prog 74 := uv Tryz.func74 rfl (by kernel_rfl)
theorem call75 : uz Tryz.prog 75 := uv Tryz.func75 rfl (by kernel_rfl)
theorem call76 : uz Tryz.prog 76 := uv Tryz.func76 rfl (by kernel_rfl)
theorem call77 : uz Tryz.prog 77 := uv Tryz.func77 rfl (by kernel_rfl)
theorem call78 : uz Tryz.prog 78 := uv Tryz.func78 rfl (by kernel_rfl)
theorem call79 : uz Tryz.prog 79 := uv Tryz.func79 rfl (by kernel_rfl)
theorem call80 : uz Tryz.prog 80 := uv Tryz.func80 rfl (by kernel_rfl)
theorem zb : uz Tryz.prog 81 := uv Tryz.func81 rfl (by kernel_rfl)
theorem km : uz Tryz.prog 82 := uv Tryz.func82 rfl (by kernel_rfl)
theorem call83 : uz Tryz.prog 83 := uv Tryz.func83 rfl (by kernel_rfl)
theorem call84 : uz Tryz.prog 84 := uv Tryz.func84 rfl (by kernel_rfl)
theorem call85 : uz Tryz.prog 85 := uv Tryz.func85 rfl (by kernel_rfl)
theorem call86 : uz Tryz.prog 86 := uv Tryz.func86 rfl (by kernel_rfl)
theorem call87 : uz Tryz.prog 87 := uv Tryz.func87 rfl (by kernel_rfl)
theorem qC : uz Tryz.prog 88 := uv Tryz.func88 rfl (by kernel_rfl)
theorem call89 : uz Tryz.prog 89 := uv Tryz.func89 rfl (by kernel_rfl)
theorem call90 : uz Tryz.prog 90 := uv Tryz.func90 rfl (by kernel_rfl)
theorem call91 : uz Tryz.prog 91 := uv Tryz.func91 rfl (by kernel_rfl)
theorem call92 : uz Tryz.prog 92 := uv Tryz.func92 rfl (by kernel_rfl)
theorem call93 : uz Tryz.prog 93 := uv Tryz.func93 rfl (by kernel_rfl)
theorem call94 : uz Tryz.prog 94 := uv Tryz.func94 rfl (by kernel_rfl)
theorem call97 : uz Tryz.prog 97 := uv Tryz.func97 rfl (by kernel_rfl)
theorem call98 : uz Tryz.prog 98 := uv Tryz.func98 rfl (by kernel_rfl)
theorem call99 : uz Tryz.prog 99 := uv Tryz.func99 rfl (by kernel_rfl)
theorem call100 : uz Tryz.prog 100 := uv Tryz.func100 rfl (by kernel_rfl)
theorem call101 : uz Tryz.prog 101 := uv Tryz.func101 rfl (by kernel_rfl)
theorem call102 : uz Tryz.prog 102 := uv Tryz.func102 rfl (by kernel_rfl)
theorem call103 : uz Tryz.prog 103 := uv Tryz.func103 rfl (by kernel_rfl)
theorem call104 : uz Tryz.prog 104 := uv Tryz.func104 rfl (by kernel_rfl)
theorem call105 : uz Tryz.prog 105 := uv Tryz.func105 rfl (by kernel_rfl)
theorem call106 : uz Tryz.prog 106 := uv Tryz.func106 rfl (by kernel_rfl)
theorem call107 : uz Tryz.prog 107 := uv Tryz.func107 rfl (by kernel_rfl)
theorem call110 : uz Tryz.prog 110 := uv Tryz.func110 rfl (by kernel_rfl)
theorem call111 : uz Tryz.prog 111 := uv Tryz.func111 rfl (by kernel_rfl)
theorem call112 : uz Tryz.prog 112 := uv Tryz.func112 rfl (by kernel_rfl)
theorem vM : Tryz.prog.follows .mixedOrders = true := by kernel_rfl
end Go.Proofs.YtfmafehogfikmaaGreatDoor
