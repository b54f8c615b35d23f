/- The types of this translation, as far as walks ask for them: a table, checked against the program by the kernel. Written by a program of this repo (gen.py). -/
import Derived.Test.YtfmafehogfikmaaGreatDoorEj
import Derived.Test.YtfmafehogfikmaaGreatDoorRows
namespace Go.Proofs.YtfmafehogfikmaaGreatDoor
open Go

def tab : List (Nat × TE) := [
  (1, ⟨.func, 1, 8, [.nilFunc]⟩),
  (2, ⟨.int .i64, 1, 8, [.int .i64 0]⟩),
  (3, ⟨.int .i64, 1, 8, [.int .i64 0]⟩),
  (4, ⟨.bool, 1, 1, [.bool false]⟩),
  (5, ⟨.int .u8, 1, 1, [.int .u8 0]⟩),
  (9, ⟨.str, 1, 16, [.string ⟨#[]⟩]⟩),
  (12, ⟨.int .u64, 1, 8, [.int .u64 0]⟩),
  (13, ⟨.struct [(0, 9), (1, 12)], 2, 24, [.string ⟨#[]⟩, .int .u64 0]⟩),
  (21, ⟨.int .i32, 1, 4, [.int .i32 0]⟩),
  (22, ⟨.func, 1, 8, [.nilFunc]⟩),
  (23, ⟨.slice 37, 1, 24, [.slice none 0 0]⟩),
  (24, ⟨.func, 1, 8, [.nilFunc]⟩),
  (25, ⟨.slice 9, 1, 24, [.slice none 0 0]⟩),
  (26, ⟨.slice 3, 1, 24, [.slice none 0 0]⟩),
  (27, ⟨.array 2 9, 2, 32, [.string ⟨#[]⟩, .string ⟨#[]⟩]⟩),
  (28, ⟨.slice 54, 1, 24, [.slice none 0 0]⟩),
  (29, ⟨.struct [(0, 9), (1, 9), (2, 3), (3, 25), (4, 26), (5, 27), (7, 9), (8, 9), (9, 4), (10, 28), (11, 3), (12, 9), (13, 9), (14, 9), (15, 3)], 16, 248, [.string ⟨#[]⟩, .string ⟨#[]⟩, .int .i64 0, .slice none 0 0, .slice none 0 0, .string ⟨#[]⟩, .string ⟨#[]⟩, .string ⟨#[]⟩, .string ⟨#[]⟩, .bool false, .slice none 0 0, .int .i64 0, .string ⟨#[]⟩, .string ⟨#[]⟩, .string ⟨#[]⟩, .int .i64 0]⟩),
  (30, ⟨.struct [(0, 9), (1, 9), (2, 3), (3, 25), (4, 26), (5, 27), (7, 9), (8, 9), (9, 4), (10, 28), (11, 3), (12, 9), (13, 9), (14, 9), (15, 3)], 16, 248, [.string ⟨#[]⟩, .string ⟨#[]⟩, .int .i64 0, .slice none 0 0, .slice none 0 0, .string ⟨#[]⟩, .string ⟨#[]⟩, .string ⟨#[]⟩, .string ⟨#[]⟩, .bool false, .slice none 0 0, .int .i64 0, .string ⟨#[]⟩, .string ⟨#[]⟩, .string ⟨#[]⟩, .int .i64 0]⟩),
  (31, ⟨.int .i64, 1, 8, [.int .i64 0]⟩),
  (33, ⟨.func, 1, 8, [.nilFunc]⟩),
  (34, ⟨.slice 50, 1, 24, [.slice none 0 0]⟩),
  (35, ⟨.slice 63, 1, 24, [.slice none 0 0]⟩),
  (36, ⟨.struct [(0, 9), (1, 34), (2, 4), (3, 35)], 4, 72, [.string ⟨#[]⟩, .slice none 0 0, .bool false, .slice none 0 0]⟩),
  (37, ⟨.struct [(0, 9), (1, 34), (2, 4), (3, 35)], 4, 72, [.string ⟨#[]⟩, .slice none 0 0, .bool false, .slice none 0 0]⟩),
  (38, ⟨.struct [(0, 9), (1, 9), (2, 3), (3, 25), (4, 26), (5, 27), (7, 9), (8, 9), (9, 4), (10, 28), (11, 3), (12, 9), (13, 9), (14, 9), (15, 3)], 16, 248, [.string ⟨#[]⟩, .string ⟨#[]⟩, .int .i64 0, .slice none 0 0, .slice none 0 0, .string ⟨#[]⟩, .string ⟨#[]⟩, .string ⟨#[]⟩, .string ⟨#[]⟩, .bool false, .slice none 0 0, .int .i64 0, .string ⟨#[]⟩, .string ⟨#[]⟩, .string ⟨#[]⟩, .int .i64 0]⟩),
  (40, ⟨.func, 1, 8, [.nilFunc]⟩),
  (41, ⟨.func, 1, 8, [.nilFunc]⟩),
  (42, ⟨.func, 1, 8, [.nilFunc]⟩),
  (43, ⟨.func, 1, 8, [.nilFunc]⟩),
  (45, ⟨.func, 1, 8, [.nilFunc]⟩),
  (46, ⟨.func, 1, 8, [.nilFunc]⟩),
  (47, ⟨.struct [(0, 3), (1, 9), (2, 3), (3, 4), (4, 4), (5, 4)], 6, 40, [.int .i64 0, .string ⟨#[]⟩, .int .i64 0, .bool false, .bool false, .bool false]⟩),
  (48, ⟨.struct [(0, 3), (1, 9), (2, 3), (3, 4), (4, 4), (5, 4)], 6, 40, [.int .i64 0, .string ⟨#[]⟩, .int .i64 0, .bool false, .bool false, .bool false]⟩),
  (49, ⟨.struct [(0, 48), (6, 34)], 7, 64, [.int .i64 0, .string ⟨#[]⟩, .int .i64 0, .bool false, .bool false, .bool false, .slice none 0 0]⟩),
  (50, ⟨.struct [(0, 48), (6, 34)], 7, 64, [.int .i64 0, .string ⟨#[]⟩, .int .i64 0, .bool false, .bool false, .bool false, .slice none 0 0]⟩),
  (51, ⟨.func, 1, 8, [.nilFunc]⟩),
  (52, ⟨.func, 1, 8, [.nilFunc]⟩),
  (53, ⟨.func, 1, 8, [.nilFunc]⟩),
  (54, ⟨.array 2 3, 2, 16, [.int .i64 0, .int .i64 0]⟩),
  (56, ⟨.func, 1, 8, [.nilFunc]⟩),
  (57, ⟨.slice 5, 1, 24, [.slice none 0 0]⟩),
  (58, ⟨.func, 1, 8, [.nilFunc]⟩),
  (59, ⟨.ptr 61, 1, 8, [.pointer none]⟩),
  (60, ⟨.struct [(0, 30), (16, 25), (17, 25), (18, 26), (19, 4), (20, 4)], 21, 328, [.string ⟨#[]⟩, .string ⟨#[]⟩, .int .i64 0, .slice none 0 0, .slice none 0 0, .string ⟨#[]⟩, .string ⟨#[]⟩, .string ⟨#[]⟩, .string ⟨#[]⟩, .bool false, .slice none 0 0, .int .i64 0, .string ⟨#[]⟩, .string ⟨#[]⟩, .string ⟨#[]⟩, .int .i64 0, .slice none 0 0, .slice none 0 0, .slice none 0 0, .bool false, .bool false]⟩),
  (61, ⟨.struct [(0, 30), (16, 25), (17, 25), (18, 26), (19, 4), (20, 4)], 21, 328, [.string ⟨#[]⟩, .string ⟨#[]⟩, .int .i64 0, .slice none 0 0, .slice none 0 0, .string ⟨#[]⟩, .string ⟨#[]⟩, .string ⟨#[]⟩, .string ⟨#[]⟩, .bool false, .slice none 0 0, .int .i64 0, .string ⟨#[]⟩, .string ⟨#[]⟩, .string ⟨#[]⟩, .int .i64 0, .slice none 0 0, .slice none 0 0, .slice none 0 0, .bool false, .bool false]⟩),
  (62, ⟨.struct [(0, 9), (1, 34), (2, 4)], 3, 48, [.string ⟨#[]⟩, .slice none 0 0, .bool false]⟩),
  (63, ⟨.struct [(0, 9), (1, 34), (2, 4)], 3, 48, [.string ⟨#[]⟩, .slice none 0 0, .bool false]⟩),
  (64, ⟨.func, 1, 8, [.nilFunc]⟩),
  (65, ⟨.func, 1, 8, [.nilFunc]⟩),
  (66, ⟨.ptr 69, 1, 8, [.pointer none]⟩),
  (67, ⟨.func, 1, 8, [.nilFunc]⟩),
  (68, ⟨.struct [(0, 38), (16, 25), (17, 25), (18, 26)], 19, 320, [.string ⟨#[]⟩, .string ⟨#[]⟩, .int .i64 0, .slice none 0 0, .slice none 0 0, .string ⟨#[]⟩, .string ⟨#[]⟩, .string ⟨#[]⟩, .string ⟨#[]⟩, .bool false, .slice none 0 0, .int .i64 0, .string ⟨#[]⟩, .string ⟨#[]⟩, .string ⟨#[]⟩, .int .i64 0, .slice none 0 0, .slice none 0 0, .slice none 0 0]⟩),
  (69, ⟨.struct [(0, 38), (16, 25), (17, 25), (18, 26)], 19, 320, [.string ⟨#[]⟩, .string ⟨#[]⟩, .int .i64 0, .slice none 0 0, .slice none 0 0, .string ⟨#[]⟩, .string ⟨#[]⟩, .string ⟨#[]⟩, .string ⟨#[]⟩, .bool false, .slice none 0 0, .int .i64 0, .string ⟨#[]⟩, .string ⟨#[]⟩, .string ⟨#[]⟩, .int .i64 0, .slice none 0 0, .slice none 0 0, .slice none 0 0]⟩),
  (70, ⟨.func, 1, 8, [.nilFunc]⟩),
  (71, ⟨.func, 1, 8, [.nilFunc]⟩),
  (72, ⟨.func, 1, 8, [.nilFunc]⟩),
  (73, ⟨.func, 1, 8, [.nilFunc]⟩),
  (74, ⟨.slice 48, 1, 24, [.slice none 0 0]⟩),
  (75, ⟨.func, 1, 8, [.nilFunc]⟩),
  (76, ⟨.slice 21, 1, 24, [.slice none 0 0]⟩),
  (77, ⟨.func, 1, 8, [.nilFunc]⟩),
  (78, ⟨.func, 1, 8, [.nilFunc]⟩),
  (79, ⟨.func, 1, 8, [.nilFunc]⟩),
  (80, ⟨.func, 1, 8, [.nilFunc]⟩),
  (81, ⟨.func, 1, 8, [.nilFunc]⟩),
  (82, ⟨.func, 1, 8, [.nilFunc]⟩),
  (83, ⟨.func, 1, 8, [.nilFunc]⟩),
  (84, ⟨.ptr 9, 1, 8, [.pointer none]⟩),
  (85, ⟨.func, 1, 8, [.nilFunc]⟩),
  (86, ⟨.func, 1, 8, [.nilFunc]⟩),
  (87, ⟨.func, 1, 8, [.nilFunc]⟩),
  (88, ⟨.func, 1, 8, [.nilFunc]⟩),
  (89, ⟨.func, 1, 8, [.nilFunc]⟩),
  (91, ⟨.func, 1, 8, [.nilFunc]⟩),
  (93, ⟨.func, 1, 8, [.nilFunc]⟩),
  (94, ⟨.ptr 96, 1, 8, [.pointer none]⟩),
  (95, ⟨.struct [(0, 76), (1, 3)], 2, 32, [.slice none 0 0, .int .i64 0]⟩),
  (96, ⟨.struct [(0, 76), (1, 3)], 2, 32, [.slice none 0 0, .int .i64 0]⟩),
  (97, ⟨.func, 1, 8, [.nilFunc]⟩),
  (98, ⟨.func, 1, 8, [.nilFunc]⟩),
  (99, ⟨.func, 1, 8, [.nilFunc]⟩),
  (100, ⟨.func, 1, 8, [.nilFunc]⟩),
  (101, ⟨.ptr 103, 1, 8, [.pointer none]⟩),
  (102, ⟨.struct [(0, 101), (1, 57)], 2, 32, [.pointer none, .slice none 0 0]⟩),
  (103, ⟨.struct [(0, 101), (1, 57)], 2, 32, [.pointer none, .slice none 0 0]⟩),
  (105, ⟨.plain, 1, 16, [.nilIface]⟩),
  (106, ⟨.func, 1, 8, [.nilFunc]⟩),
  (107, ⟨.func, 1, 8, [.nilFunc]⟩),
  (108, ⟨.slice 38, 1, 24, [.slice none 0 0]⟩),
  (109, ⟨.func, 1, 8, [.nilFunc]⟩),
  (111, ⟨.func, 1, 8, [.nilFunc]⟩),
  (112, ⟨.func, 1, 8, [.nilFunc]⟩),
  (114, ⟨.func, 1, 8, [.nilFunc]⟩),
  (115, ⟨.func, 1, 8, [.nilFunc]⟩),
  (116, ⟨.slice 34, 1, 24, [.slice none 0 0]⟩),
  (117, ⟨.func, 1, 8, [.nilFunc]⟩),
  (118, ⟨.func, 1, 8, [.nilFunc]⟩),
  (119, ⟨.func, 1, 8, [.nilFunc]⟩),
  (120, ⟨.func, 1, 8, [.nilFunc]⟩),
  (121, ⟨.func, 1, 8, [.nilFunc]⟩),
  (122, ⟨.func, 1, 8, [.nilFunc]⟩),
  (123, ⟨.func, 1, 8, [.nilFunc]⟩),
  (124, ⟨.func, 1, 8, [.nilFunc]⟩),
  (125, ⟨.func, 1, 8, [.nilFunc]⟩),
  (126, ⟨.func, 1, 8, [.nilFunc]⟩),
  (127, ⟨.func, 1, 8, [.nilFunc]⟩),
  (129, ⟨.func, 1, 8, [.nilFunc]⟩),
  (130, ⟨.ptr 5, 1, 8, [.pointer none]⟩),
  (131, ⟨.func, 1, 8, [.nilFunc]⟩),
  (132, ⟨.func, 1, 8, [.nilFunc]⟩),
  (133, ⟨.func, 1, 8, [.nilFunc]⟩),
  (134, ⟨.func, 1, 8, [.nilFunc]⟩),
  (135, ⟨.func, 1, 8, [.nilFunc]⟩),
  (136, ⟨.func, 1, 8, [.nilFunc]⟩),
  (137, ⟨.func, 1, 8, [.nilFunc]⟩),
  (138, ⟨.slice 140, 1, 24, [.slice none 0 0]⟩),
  (139, ⟨.struct [(0, 3), (1, 3)], 2, 16, [.int .i64 0, .int .i64 0]⟩),
  (140, ⟨.struct [(0, 3), (1, 3)], 2, 16, [.int .i64 0, .int .i64 0]⟩),
  (141, ⟨.int .u32, 1, 4, [.int .u32 0]⟩),
  (142, ⟨.func, 1, 8, [.nilFunc]⟩),
  (143, ⟨.ptr 150, 1, 8, [.pointer none]⟩),
  (146, ⟨.func, 1, 8, [.nilFunc]⟩),
  (147, ⟨.slice 153, 1, 24, [.slice none 0 0]⟩),
  (148, ⟨.slice 156, 1, 24, [.slice none 0 0]⟩),
  (149, ⟨.struct [(0, 147), (1, 148), (2, 3)], 3, 56, [.slice none 0 0, .slice none 0 0, .int .i64 0]⟩),
  (150, ⟨.struct [(0, 147), (1, 148), (2, 3)], 3, 56, [.slice none 0 0, .slice none 0 0, .int .i64 0]⟩),
  (151, ⟨.int .u16, 1, 2, [.int .u16 0]⟩),
  (152, ⟨.struct [(0, 151), (1, 151), (2, 151)], 3, 6, [.int .u16 0, .int .u16 0, .int .u16 0]⟩),
  (153, ⟨.struct [(0, 151), (1, 151), (2, 151)], 3, 6, [.int .u16 0, .int .u16 0, .int .u16 0]⟩),
  (154, ⟨.func, 1, 8, [.nilFunc]⟩),
  (155, ⟨.struct [(0, 141), (1, 141), (2, 141)], 3, 12, [.int .u32 0, .int .u32 0, .int .u32 0]⟩),
  (156, ⟨.struct [(0, 141), (1, 141), (2, 141)], 3, 12, [.int .u32 0, .int .u32 0, .int .u32 0]⟩),
  (157, ⟨.func, 1, 8, [.nilFunc]⟩),
  (158, ⟨.ptr 153, 1, 8, [.pointer none]⟩),
  (159, ⟨.int .u64, 1, 8, [.int .u64 0]⟩),
  (160, ⟨.ptr 156, 1, 8, [.pointer none]⟩),
  (166, ⟨.func, 1, 8, [.nilFunc]⟩)
]
theorem tab_ok : TyTab Tryz.prog tab := by
  unfold tab
  exact ⟨by kernel_rfl, by kernel_rfl, by kernel_rfl, by kernel_rfl, by kernel_rfl, by kernel_rfl, by kernel_rfl, by kernel_rfl, by kernel_rfl, by kernel_rfl, by kernel_rfl, by kernel_rfl, by kernel_rfl, by kernel_rfl, by kernel_rfl, by kernel_rfl, by kernel_rfl, by kernel_rfl, by kernel_rfl, by kernel_rfl, by kernel_rfl, by kernel_rfl, by kernel_rfl, by kernel_rfl, by kernel_rfl, by kernel_rfl, by kernel_rfl, by kernel_rfl, by kernel_rfl, by kernel_rfl, by kernel_rfl, by kernel_rfl, by kernel_rfl, by kernel_rfl, by kernel_rfl, by kernel_rfl, by kernel_rfl, by kernel_rfl, by kernel_rfl, by kernel_rfl, by kernel_rfl, by kernel_rfl, by kernel_rfl, by kernel_rfl, by kernel_rfl, by kernel_rfl, by kernel_rfl, by kernel_rfl, by kernel_rfl, by kernel_rfl, by kernel_rfl, by kernel_rfl, by kernel_rfl, by kernel_rfl, by kernel_rfl, by kernel_rfl, by kernel_rfl, by kernel_rfl, by kernel_rfl, by kernel_rfl, by kernel_rfl, by kernel_rfl, by kernel_rfl, by kernel_rfl, by kernel_rfl, by kernel_rfl, by kernel_rfl, by kernel_rfl, by kernel_rfl, by kernel_rfl, by kernel_rfl, by kernel_rfl, by kernel_rfl, by kernel_rfl, by kernel_rfl, by kernel_rfl, by kernel_rfl, by kernel_rfl, by kernel_rfl, by kernel_rfl, by kernel_rfl, by kernel_rfl, by kernel_rfl, by kernel_rfl, by kernel_rfl, by kernel_rfl, by kernel_rfl, by kernel_rfl, by kernel_rfl, by kernel_rfl, by kernel_rfl, by kernel_rfl, by kernel_rfl, by kernel_rfl, by kernel_rfl, by kernel_rfl, by kernel_rfl, by kernel_rfl, by kernel_rfl, by kernel_rfl, by kernel_rfl, by kernel_rfl, by kernel_rfl, by kernel_rfl, by kernel_rfl, by kernel_rfl, by kernel_rfl, by kernel_rfl, by kernel_rfl, by kernel_rfl, by kernel_rfl, by kernel_rfl, by kernel_rfl, by kernel_rfl, by kernel_rfl, by kernel_rfl, by kernel_rfl, by kernel_rfl, by kernel_rfl, by kernel_rfl, by kernel_rfl, by kernel_rfl, by kernel_rfl, by kernel_rfl, by kernel_rfl, by kernel_rfl, by kernel_rfl, by kernel_rfl, by kernel_rfl, by kernel_rfl, by kernel_rfl, by kernel_rfl, by kernel_rfl, by kernel_rfl, by kernel_rfl, by kernel_rfl, by kernel_rfl, trivial⟩
theorem call5 : Callable Tryz.prog 5 := callable_of Tryz.func5 rfl (by kernel_rfl)
theorem call6 : Callable Tryz.prog 6 := callable_of Tryz.func6 rfl (by kernel_rfl)
theorem call7 : Callable Tryz.prog 7 := callable_of Tryz.func7 rfl (by kernel_rfl)
theorem call8 : Callable Tryz.prog 8 := callable_of Tryz.func8 rfl (by kernel_rfl)
theorem call9 : Callable Tryz.prog 9 := callable_of Tryz.func9 rfl (by kernel_rfl)
theorem call10 : Callable Tryz.prog 10 := callable_of Tryz.func10 rfl (by kernel_rfl)
theorem call11 : Callable Tryz.prog 11 := callable_of Tryz.func11 rfl (by kernel_rfl)
theorem call12 : Callable Tryz.prog 12 := callable_of Tryz.func12 rfl (by kernel_rfl)
theorem call13 : Callable Tryz.prog 13 := callable_of Tryz.func13 rfl (by kernel_rfl)
theorem call14 : Callable Tryz.prog 14 := callable_of Tryz.func14 rfl (by kernel_rfl)
theorem call15 : Callable Tryz.prog 15 := callable_of Tryz.func15 rfl (by kernel_rfl)
theorem call16 : Callable Tryz.prog 16 := callable_of Tryz.func16 rfl (by kernel_rfl)
theorem call17 : Callable Tryz.prog 17 := callable_of Tryz.func17 rfl (by kernel_rfl)
theorem call18 : Callable Tryz.prog 18 := callable_of Tryz.func18 rfl (by kernel_rfl)
theorem call19 : Callable Tryz.prog 19 := callable_of Tryz.func19 rfl (by kernel_rfl)
theorem call20 : Callable Tryz.prog 20 := callable_of Tryz.func20 rfl (by kernel_rfl)
theorem call21 : Callable Tryz.prog 21 := callable_of Tryz.func21 rfl (by kernel_rfl)
theorem call25 : Callable Tryz.prog 25 := callable_of Tryz.func25 rfl (by kernel_rfl)
theorem call26 : Callable Tryz.prog 26 := callable_of Tryz.func26 rfl (by kernel_rfl)
theorem call27 : Callable Tryz.prog 27 := callable_of Tryz.func27 rfl (by kernel_rfl)
theorem call28 : Callable Tryz.prog 28 := callable_of Tryz.func28 rfl (by kernel_rfl)
theorem call29 : Callable Tryz.prog 29 := callable_of Tryz.func29 rfl (by kernel_rfl)
theorem call30 : Callable Tryz.prog 30 := callable_of Tryz.func30 rfl (by kernel_rfl)
theorem call31 : Callable Tryz.prog 31 := callable_of Tryz.func31 rfl (by kernel_rfl)
theorem call32 : Callable Tryz.prog 32 := callable_of Tryz.func32 rfl (by kernel_rfl)
theorem call33 : Callable Tryz.prog 33 := callable_of Tryz.func33 rfl (by kernel_rfl)
theorem call34 : Callable Tryz.prog 34 := callable_of Tryz.func34 rfl (by kernel_rfl)
theorem call35 : Callable Tryz.prog 35 := callable_of Tryz.func35 rfl (by kernel_rfl)
theorem call36 : Callable Tryz.prog 36 := callable_of Tryz.func36 rfl (by kernel_rfl)
theorem call37 : Callable Tryz.prog 37 := callable_of Tryz.func37 rfl (by kernel_rfl)
theorem call38 : Callable Tryz.prog 38 := callable_of Tryz.func38 rfl (by kernel_rfl)
theorem call39 : Callable Tryz.prog 39 := callable_of Tryz.func39 rfl (by kernel_rfl)
theorem call40 : Callable Tryz.prog 40 := callable_of Tryz.func40 rfl (by kernel_rfl)
theorem call41 : Callable Tryz.prog 41 := callable_of Tryz.func41 rfl (by kernel_rfl)
theorem call42 : Callable Tryz.prog 42 := callable_of Tryz.func42 rfl (by kernel_rfl)
theorem call43 : Callable Tryz.prog 43 := callable_of Tryz.func43 rfl (by kernel_rfl)
theorem call44 : Callable Tryz.prog 44 := callable_of Tryz.func44 rfl (by kernel_rfl)
theorem call45 : Callable Tryz.prog 45 := callable_of Tryz.func45 rfl (by kernel_rfl)
theorem call46 : Callable Tryz.prog 46 := callable_of Tryz.func46 rfl (by kernel_rfl)
theorem call47 : Callable Tryz.prog 47 := callable_of Tryz.func47 rfl (by kernel_rfl)
theorem call48 : Callable Tryz.prog 48 := callable_of Tryz.func48 rfl (by kernel_rfl)
theorem call49 : Callable Tryz.prog 49 := callable_of Tryz.func49 rfl (by kernel_rfl)
theorem call50 : Callable Tryz.prog 50 := callable_of Tryz.func50 rfl (by kernel_rfl)
theorem call51 : Callable Tryz.prog 51 := callable_of Tryz.func51 rfl (by kernel_rfl)
theorem call52 : Callable Tryz.prog 52 := callable_of Tryz.func52 rfl (by kernel_rfl)
theorem call53 : Callable Tryz.prog 53 := callable_of Tryz.func53 rfl (by kernel_rfl)
theorem call54 : Callable Tryz.prog 54 := callable_of Tryz.func54 rfl (by kernel_rfl)
theorem call55 : Callable Tryz.prog 55 := callable_of Tryz.func55 rfl (by kernel_rfl)
theorem call56 : Callable Tryz.prog 56 := callable_of Tryz.func56 rfl (by kernel_rfl)
theorem call57 : Callable Tryz.prog 57 := callable_of Tryz.func57 rfl (by kernel_rfl)
theorem call58 : Callable Tryz.prog 58 := callable_of Tryz.func58 rfl (by kernel_rfl)
theorem call59 : Callable Tryz.prog 59 := callable_of Tryz.func59 rfl (by kernel_rfl)
theorem call60 : Callable Tryz.prog 60 := callable_of Tryz.func60 rfl (by kernel_rfl)
theorem call61 : Callable Tryz.prog 61 := callable_of Tryz.func61 rfl (by kernel_rfl)
theorem call62 : Callable Tryz.prog 62 := callable_of Tryz.func62 rfl (by kernel_rfl)
theorem call63 : Callable Tryz.prog 63 := callable_of Tryz.func63 rfl (by kernel_rfl)
theorem call64 : Callable Tryz.prog 64 := callable_of Tryz.func64 rfl (by kernel_rfl)
theorem call65 : Callable Tryz.prog 65 := callable_of Tryz.func65 rfl (by kernel_rfl)
theorem call66 : Callable Tryz.prog 66 := callable_of Tryz.func66 rfl (by kernel_rfl)
theorem call67 : Callable Tryz.prog 67 := callable_of Tryz.func67 rfl (by kernel_rfl)
theorem call68 : Callable Tryz.prog 68 := callable_of Tryz.func68 rfl (by kernel_rfl)
theorem call69 : Callable Tryz.prog 69 := callable_of Tryz.func69 rfl (by kernel_rfl)
theorem call70 : Callable Tryz.prog 70 := callable_of Tryz.func70 rfl (by kernel_rfl)
theorem call71 : Callable Tryz.prog 71 := callable_of Tryz.func71 rfl (by kernel_rfl)
theorem call72 : Callable Tryz.prog 72 := callable_of Tryz.func72 rfl (by kernel_rfl)
theorem call73 : Callable Tryz.prog 73 := callable_of Tryz.func73 rfl (by kernel_rfl)
theorem call74 : Callable Tryz.prog 74 := callable_of Tryz.func74 rfl (by kernel_rfl)
theorem call75 : Callable Tryz.prog 75 := callable_of Tryz.func75 rfl (by kernel_rfl)
theorem call76 : Callable Tryz.prog 76 := callable_of Tryz.func76 rfl (by kernel_rfl)
theorem call77 : Callable Tryz.prog 77 := callable_of Tryz.func77 rfl (by kernel_rfl)
theorem call78 : Callable Tryz.prog 78 := callable_of Tryz.func78 rfl (by kernel_rfl)
theorem call79 : Callable Tryz.prog 79 := callable_of Tryz.func79 rfl (by kernel_rfl)
theorem call80 : Callable Tryz.prog 80 := callable_of Tryz.func80 rfl (by kernel_rfl)
theorem call81 : Callable Tryz.prog 81 := callable_of Tryz.func81 rfl (by kernel_rfl)
theorem call82 : Callable Tryz.prog 82 := callable_of Tryz.func82 rfl (by kernel_rfl)
theorem call83 : Callable Tryz.prog 83 := callable_of Tryz.func83 rfl (by kernel_rfl)
theorem call84 : Callable Tryz.prog 84 := callable_of Tryz.func84 rfl (by kernel_rfl)
theorem call85 : Callable Tryz.prog 85 := callable_of Tryz.func85 rfl (by kernel_rfl)
theorem call86 : Callable Tryz.prog 86 := callable_of Tryz.func86 rfl (by kernel_rfl)
theorem call87 : Callable Tryz.prog 87 := callable_of Tryz.func87 rfl (by kernel_rfl)
theorem call88 : Callable Tryz.prog 88 := callable_of Tryz.func88 rfl (by kernel_rfl)
theorem call89 : Callable Tryz.prog 89 := callable_of Tryz.func89 rfl (by kernel_rfl)
theorem call90 : Callable Tryz.prog 90 := callable_of Tryz.func90 rfl (by kernel_rfl)
theorem call91 : Callable Tryz.prog 91 := callable_of Tryz.func91 rfl (by kernel_rfl)
theorem call92 : Callable Tryz.prog 92 := callable_of Tryz.func92 rfl (by kernel_rfl)
theorem call93 : Callable Tryz.prog 93 := callable_of Tryz.func93 rfl (by kernel_rfl)
theorem call94 : Callable Tryz.prog 94 := callable_of Tryz.func94 rfl (by kernel_rfl)
theorem call97 : Callable Tryz.prog 97 := callable_of Tryz.func97 rfl (by kernel_rfl)
theorem call98 : Callable Tryz.prog 98 := callable_of Tryz.func98 rfl (by kernel_rfl)
theorem call99 : Callable Tryz.prog 99 := callable_of Tryz.func99 rfl (by kernel_rfl)
theorem call100 : Callable Tryz.prog 100 := callable_of Tryz.func100 rfl (by kernel_rfl)
theorem call101 : Callable Tryz.prog 101 := callable_of Tryz.func101 rfl (by kernel_rfl)
theorem call102 : Callable Tryz.prog 102 := callable_of Tryz.func102 rfl (by kernel_rfl)
theorem call103 : Callable Tryz.prog 103 := callable_of Tryz.func103 rfl (by kernel_rfl)
theorem call104 : Callable Tryz.prog 104 := callable_of Tryz.func104 rfl (by kernel_rfl)
theorem call105 : Callable Tryz.prog 105 := callable_of Tryz.func105 rfl (by kernel_rfl)
theorem call106 : Callable Tryz.prog 106 := callable_of Tryz.func106 rfl (by kernel_rfl)
theorem call107 : Callable Tryz.prog 107 := callable_of Tryz.func107 rfl (by kernel_rfl)
theorem call110 : Callable Tryz.prog 110 := callable_of Tryz.func110 rfl (by kernel_rfl)
theorem call111 : Callable Tryz.prog 111 := callable_of Tryz.func111 rfl (by kernel_rfl)
theorem call112 : Callable Tryz.prog 112 := callable_of Tryz.func112 rfl (by kernel_rfl)
theorem mixed_ok : Tryz.prog.follows .mixedOrders = true := by kernel_rfl
end Go.Proofs.YtfmafehogfikmaaGreatDoor
