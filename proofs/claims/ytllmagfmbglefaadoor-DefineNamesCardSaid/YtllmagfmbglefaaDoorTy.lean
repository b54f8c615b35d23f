/- The types of this translation, as far as walks ask for them: a table, checked against the program by the kernel. Written by a program of this repo (gen.py). -/
import Derived.Test.YtllmagfmbglefaaDoorEj
import Derived.Test.YtllmagfmbglefaaDoorRows
namespace Go.Proofs.YtllmagfmbglefaaDoor
open Go

def tab : List (Nat × TE) := [
  (1, ⟨.func, 1, 8, [.nilFunc]⟩),
  (2, ⟨.int .i64, 1, 8, [.int .i64 0]⟩),
  (3, ⟨.int .i64, 1, 8, [.int .i64 0]⟩),
  (4, ⟨.bool, 1, 1, [.bool false]⟩),
  (5, ⟨.int .u8, 1, 1, [.int .u8 0]⟩),
  (9, ⟨.str, 1, 16, [.string ⟨#[]⟩]⟩),
  (12, ⟨.int .u64, 1, 8, [.int .u64 0]⟩),
  (13, ⟨.struct [(0, 9), (1, 12)], 2, 24, [.string ⟨#[]⟩, .int .u64 0]⟩),
  (21, ⟨.int .i32, 1, 4, [.int .i32 0]⟩),
  (22, ⟨.slice 9, 1, 24, [.slice none 0 0]⟩),
  (23, ⟨.func, 1, 8, [.nilFunc]⟩),
  (24, ⟨.func, 1, 8, [.nilFunc]⟩),
  (25, ⟨.slice 68, 1, 24, [.slice none 0 0]⟩),
  (26, ⟨.slice 66, 1, 24, [.slice none 0 0]⟩),
  (27, ⟨.struct [(0, 9), (1, 9), (2, 9), (3, 25), (4, 4), (5, 4), (6, 22), (7, 4), (8, 26), (9, 26), (10, 26)], 11, 184, [.string ⟨#[]⟩, .string ⟨#[]⟩, .string ⟨#[]⟩, .slice none 0 0, .bool false, .bool false, .slice none 0 0, .bool false, .slice none 0 0, .slice none 0 0, .slice none 0 0]⟩),
  (28, ⟨.struct [(0, 9), (1, 9), (2, 9), (3, 25), (4, 4), (5, 4), (6, 22), (7, 4), (8, 26), (9, 26), (10, 26)], 11, 184, [.string ⟨#[]⟩, .string ⟨#[]⟩, .string ⟨#[]⟩, .slice none 0 0, .bool false, .bool false, .slice none 0 0, .bool false, .slice none 0 0, .slice none 0 0, .slice none 0 0]⟩),
  (29, ⟨.struct [(0, 9), (1, 3), (2, 28)], 13, 208, [.string ⟨#[]⟩, .int .i64 0, .string ⟨#[]⟩, .string ⟨#[]⟩, .string ⟨#[]⟩, .slice none 0 0, .bool false, .bool false, .slice none 0 0, .bool false, .slice none 0 0, .slice none 0 0, .slice none 0 0]⟩),
  (30, ⟨.struct [(0, 9), (1, 3), (2, 28)], 13, 208, [.string ⟨#[]⟩, .int .i64 0, .string ⟨#[]⟩, .string ⟨#[]⟩, .string ⟨#[]⟩, .slice none 0 0, .bool false, .bool false, .slice none 0 0, .bool false, .slice none 0 0, .slice none 0 0, .slice none 0 0]⟩),
  (31, ⟨.int .i64, 1, 8, [.int .i64 0]⟩),
  (33, ⟨.func, 1, 8, [.nilFunc]⟩),
  (34, ⟨.func, 1, 8, [.nilFunc]⟩),
  (35, ⟨.func, 1, 8, [.nilFunc]⟩),
  (36, ⟨.func, 1, 8, [.nilFunc]⟩),
  (37, ⟨.func, 1, 8, [.nilFunc]⟩),
  (38, ⟨.func, 1, 8, [.nilFunc]⟩),
  (39, ⟨.func, 1, 8, [.nilFunc]⟩),
  (40, ⟨.func, 1, 8, [.nilFunc]⟩),
  (41, ⟨.func, 1, 8, [.nilFunc]⟩),
  (42, ⟨.func, 1, 8, [.nilFunc]⟩),
  (43, ⟨.slice 3, 1, 24, [.slice none 0 0]⟩),
  (44, ⟨.array 2 9, 2, 32, [.string ⟨#[]⟩, .string ⟨#[]⟩]⟩),
  (45, ⟨.slice 50, 1, 24, [.slice none 0 0]⟩),
  (46, ⟨.struct [(0, 9), (1, 9), (2, 3), (3, 22), (4, 43), (5, 44), (7, 9), (8, 9), (9, 4), (10, 45), (11, 3), (12, 9), (13, 9), (14, 9), (15, 3)], 16, 248, [.string ⟨#[]⟩, .string ⟨#[]⟩, .int .i64 0, .slice none 0 0, .slice none 0 0, .string ⟨#[]⟩, .string ⟨#[]⟩, .string ⟨#[]⟩, .string ⟨#[]⟩, .bool false, .slice none 0 0, .int .i64 0, .string ⟨#[]⟩, .string ⟨#[]⟩, .string ⟨#[]⟩, .int .i64 0]⟩),
  (47, ⟨.struct [(0, 9), (1, 9), (2, 3), (3, 22), (4, 43), (5, 44), (7, 9), (8, 9), (9, 4), (10, 45), (11, 3), (12, 9), (13, 9), (14, 9), (15, 3)], 16, 248, [.string ⟨#[]⟩, .string ⟨#[]⟩, .int .i64 0, .slice none 0 0, .slice none 0 0, .string ⟨#[]⟩, .string ⟨#[]⟩, .string ⟨#[]⟩, .string ⟨#[]⟩, .bool false, .slice none 0 0, .int .i64 0, .string ⟨#[]⟩, .string ⟨#[]⟩, .string ⟨#[]⟩, .int .i64 0]⟩),
  (49, ⟨.func, 1, 8, [.nilFunc]⟩),
  (50, ⟨.array 2 3, 2, 16, [.int .i64 0, .int .i64 0]⟩),
  (51, ⟨.func, 1, 8, [.nilFunc]⟩),
  (52, ⟨.func, 1, 8, [.nilFunc]⟩),
  (53, ⟨.func, 1, 8, [.nilFunc]⟩),
  (55, ⟨.func, 1, 8, [.nilFunc]⟩),
  (56, ⟨.slice 80, 1, 24, [.slice none 0 0]⟩),
  (57, ⟨.func, 1, 8, [.nilFunc]⟩),
  (58, ⟨.func, 1, 8, [.nilFunc]⟩),
  (59, ⟨.func, 1, 8, [.nilFunc]⟩),
  (60, ⟨.slice 64, 1, 24, [.slice none 0 0]⟩),
  (61, ⟨.func, 1, 8, [.nilFunc]⟩),
  (62, ⟨.func, 1, 8, [.nilFunc]⟩),
  (63, ⟨.struct [(0, 9), (1, 56), (2, 4)], 3, 48, [.string ⟨#[]⟩, .slice none 0 0, .bool false]⟩),
  (64, ⟨.struct [(0, 9), (1, 56), (2, 4)], 3, 48, [.string ⟨#[]⟩, .slice none 0 0, .bool false]⟩),
  (65, ⟨.struct [(0, 9), (1, 3), (2, 4), (3, 4)], 4, 32, [.string ⟨#[]⟩, .int .i64 0, .bool false, .bool false]⟩),
  (66, ⟨.struct [(0, 9), (1, 3), (2, 4), (3, 4)], 4, 32, [.string ⟨#[]⟩, .int .i64 0, .bool false, .bool false]⟩),
  (67, ⟨.struct [(0, 3), (1, 9), (2, 9), (3, 9)], 4, 56, [.int .i64 0, .string ⟨#[]⟩, .string ⟨#[]⟩, .string ⟨#[]⟩]⟩),
  (68, ⟨.struct [(0, 3), (1, 9), (2, 9), (3, 9)], 4, 56, [.int .i64 0, .string ⟨#[]⟩, .string ⟨#[]⟩, .string ⟨#[]⟩]⟩),
  (69, ⟨.func, 1, 8, [.nilFunc]⟩),
  (70, ⟨.func, 1, 8, [.nilFunc]⟩),
  (71, ⟨.func, 1, 8, [.nilFunc]⟩),
  (72, ⟨.int .u64, 1, 8, [.int .u64 0]⟩),
  (73, ⟨.slice 5, 1, 24, [.slice none 0 0]⟩),
  (74, ⟨.func, 1, 8, [.nilFunc]⟩),
  (75, ⟨.func, 1, 8, [.nilFunc]⟩),
  (76, ⟨.func, 1, 8, [.nilFunc]⟩),
  (77, ⟨.struct [(0, 3), (1, 9), (2, 3), (3, 4), (4, 4), (5, 4)], 6, 40, [.int .i64 0, .string ⟨#[]⟩, .int .i64 0, .bool false, .bool false, .bool false]⟩),
  (78, ⟨.struct [(0, 3), (1, 9), (2, 3), (3, 4), (4, 4), (5, 4)], 6, 40, [.int .i64 0, .string ⟨#[]⟩, .int .i64 0, .bool false, .bool false, .bool false]⟩),
  (79, ⟨.struct [(0, 78), (6, 56)], 7, 64, [.int .i64 0, .string ⟨#[]⟩, .int .i64 0, .bool false, .bool false, .bool false, .slice none 0 0]⟩),
  (80, ⟨.struct [(0, 78), (6, 56)], 7, 64, [.int .i64 0, .string ⟨#[]⟩, .int .i64 0, .bool false, .bool false, .bool false, .slice none 0 0]⟩),
  (81, ⟨.slice 85, 1, 24, [.slice none 0 0]⟩),
  (82, ⟨.func, 1, 8, [.nilFunc]⟩),
  (83, ⟨.func, 1, 8, [.nilFunc]⟩),
  (84, ⟨.struct [(0, 9), (1, 56), (2, 4), (3, 60)], 4, 72, [.string ⟨#[]⟩, .slice none 0 0, .bool false, .slice none 0 0]⟩),
  (85, ⟨.struct [(0, 9), (1, 56), (2, 4), (3, 60)], 4, 72, [.string ⟨#[]⟩, .slice none 0 0, .bool false, .slice none 0 0]⟩),
  (86, ⟨.func, 1, 8, [.nilFunc]⟩),
  (87, ⟨.func, 1, 8, [.nilFunc]⟩),
  (88, ⟨.func, 1, 8, [.nilFunc]⟩),
  (89, ⟨.func, 1, 8, [.nilFunc]⟩),
  (90, ⟨.func, 1, 8, [.nilFunc]⟩),
  (91, ⟨.func, 1, 8, [.nilFunc]⟩),
  (92, ⟨.func, 1, 8, [.nilFunc]⟩),
  (93, ⟨.slice 78, 1, 24, [.slice none 0 0]⟩),
  (94, ⟨.func, 1, 8, [.nilFunc]⟩),
  (95, ⟨.slice 21, 1, 24, [.slice none 0 0]⟩),
  (96, ⟨.func, 1, 8, [.nilFunc]⟩),
  (98, ⟨.func, 1, 8, [.nilFunc]⟩),
  (99, ⟨.func, 1, 8, [.nilFunc]⟩),
  (100, ⟨.func, 1, 8, [.nilFunc]⟩),
  (101, ⟨.func, 1, 8, [.nilFunc]⟩),
  (102, ⟨.func, 1, 8, [.nilFunc]⟩),
  (103, ⟨.func, 1, 8, [.nilFunc]⟩),
  (104, ⟨.ptr 28, 1, 8, [.pointer none]⟩),
  (105, ⟨.func, 1, 8, [.nilFunc]⟩),
  (106, ⟨.func, 1, 8, [.nilFunc]⟩),
  (107, ⟨.func, 1, 8, [.nilFunc]⟩),
  (109, ⟨.func, 1, 8, [.nilFunc]⟩),
  (110, ⟨.ptr 112, 1, 8, [.pointer none]⟩),
  (111, ⟨.struct [(0, 47), (16, 22), (17, 22), (18, 43), (19, 4), (20, 4)], 21, 328, [.string ⟨#[]⟩, .string ⟨#[]⟩, .int .i64 0, .slice none 0 0, .slice none 0 0, .string ⟨#[]⟩, .string ⟨#[]⟩, .string ⟨#[]⟩, .string ⟨#[]⟩, .bool false, .slice none 0 0, .int .i64 0, .string ⟨#[]⟩, .string ⟨#[]⟩, .string ⟨#[]⟩, .int .i64 0, .slice none 0 0, .slice none 0 0, .slice none 0 0, .bool false, .bool false]⟩),
  (112, ⟨.struct [(0, 47), (16, 22), (17, 22), (18, 43), (19, 4), (20, 4)], 21, 328, [.string ⟨#[]⟩, .string ⟨#[]⟩, .int .i64 0, .slice none 0 0, .slice none 0 0, .string ⟨#[]⟩, .string ⟨#[]⟩, .string ⟨#[]⟩, .string ⟨#[]⟩, .bool false, .slice none 0 0, .int .i64 0, .string ⟨#[]⟩, .string ⟨#[]⟩, .string ⟨#[]⟩, .int .i64 0, .slice none 0 0, .slice none 0 0, .slice none 0 0, .bool false, .bool false]⟩),
  (113, ⟨.func, 1, 8, [.nilFunc]⟩),
  (114, ⟨.func, 1, 8, [.nilFunc]⟩),
  (115, ⟨.func, 1, 8, [.nilFunc]⟩),
  (116, ⟨.func, 1, 8, [.nilFunc]⟩),
  (117, ⟨.func, 1, 8, [.nilFunc]⟩),
  (118, ⟨.ptr 120, 1, 8, [.pointer none]⟩),
  (119, ⟨.struct [(0, 118), (1, 73)], 2, 32, [.pointer none, .slice none 0 0]⟩),
  (120, ⟨.struct [(0, 118), (1, 73)], 2, 32, [.pointer none, .slice none 0 0]⟩),
  (122, ⟨.plain, 1, 16, [.nilIface]⟩),
  (123, ⟨.func, 1, 8, [.nilFunc]⟩),
  (124, ⟨.func, 1, 8, [.nilFunc]⟩),
  (126, ⟨.func, 1, 8, [.nilFunc]⟩),
  (127, ⟨.ptr 129, 1, 8, [.pointer none]⟩),
  (128, ⟨.struct [(0, 95), (1, 3)], 2, 32, [.slice none 0 0, .int .i64 0]⟩),
  (129, ⟨.struct [(0, 95), (1, 3)], 2, 32, [.slice none 0 0, .int .i64 0]⟩),
  (130, ⟨.func, 1, 8, [.nilFunc]⟩),
  (131, ⟨.func, 1, 8, [.nilFunc]⟩),
  (132, ⟨.slice 134, 1, 24, [.slice none 0 0]⟩),
  (133, ⟨.struct [(0, 3), (1, 3)], 2, 16, [.int .i64 0, .int .i64 0]⟩),
  (134, ⟨.struct [(0, 3), (1, 3)], 2, 16, [.int .i64 0, .int .i64 0]⟩),
  (135, ⟨.int .u32, 1, 4, [.int .u32 0]⟩),
  (136, ⟨.func, 1, 8, [.nilFunc]⟩),
  (137, ⟨.ptr 156, 1, 8, [.pointer none]⟩),
  (139, ⟨.func, 1, 8, [.nilFunc]⟩),
  (140, ⟨.func, 1, 8, [.nilFunc]⟩),
  (141, ⟨.func, 1, 8, [.nilFunc]⟩),
  (142, ⟨.func, 1, 8, [.nilFunc]⟩),
  (143, ⟨.func, 1, 8, [.nilFunc]⟩),
  (145, ⟨.func, 1, 8, [.nilFunc]⟩),
  (146, ⟨.func, 1, 8, [.nilFunc]⟩),
  (147, ⟨.ptr 9, 1, 8, [.pointer none]⟩),
  (148, ⟨.ptr 5, 1, 8, [.pointer none]⟩),
  (149, ⟨.func, 1, 8, [.nilFunc]⟩),
  (150, ⟨.func, 1, 8, [.nilFunc]⟩),
  (151, ⟨.func, 1, 8, [.nilFunc]⟩),
  (152, ⟨.func, 1, 8, [.nilFunc]⟩),
  (153, ⟨.slice 159, 1, 24, [.slice none 0 0]⟩),
  (154, ⟨.slice 162, 1, 24, [.slice none 0 0]⟩),
  (155, ⟨.struct [(0, 153), (1, 154), (2, 3)], 3, 56, [.slice none 0 0, .slice none 0 0, .int .i64 0]⟩),
  (156, ⟨.struct [(0, 153), (1, 154), (2, 3)], 3, 56, [.slice none 0 0, .slice none 0 0, .int .i64 0]⟩),
  (157, ⟨.int .u16, 1, 2, [.int .u16 0]⟩),
  (158, ⟨.struct [(0, 157), (1, 157), (2, 157)], 3, 6, [.int .u16 0, .int .u16 0, .int .u16 0]⟩),
  (159, ⟨.struct [(0, 157), (1, 157), (2, 157)], 3, 6, [.int .u16 0, .int .u16 0, .int .u16 0]⟩),
  (160, ⟨.func, 1, 8, [.nilFunc]⟩),
  (161, ⟨.struct [(0, 135), (1, 135), (2, 135)], 3, 12, [.int .u32 0, .int .u32 0, .int .u32 0]⟩),
  (162, ⟨.struct [(0, 135), (1, 135), (2, 135)], 3, 12, [.int .u32 0, .int .u32 0, .int .u32 0]⟩),
  (163, ⟨.func, 1, 8, [.nilFunc]⟩),
  (164, ⟨.func, 1, 8, [.nilFunc]⟩),
  (166, ⟨.func, 1, 8, [.nilFunc]⟩),
  (168, ⟨.func, 1, 8, [.nilFunc]⟩),
  (170, ⟨.func, 1, 8, [.nilFunc]⟩),
  (171, ⟨.func, 1, 8, [.nilFunc]⟩),
  (172, ⟨.slice 56, 1, 24, [.slice none 0 0]⟩),
  (173, ⟨.func, 1, 8, [.nilFunc]⟩),
  (174, ⟨.func, 1, 8, [.nilFunc]⟩),
  (176, ⟨.func, 1, 8, [.nilFunc]⟩),
  (179, ⟨.func, 1, 8, [.nilFunc]⟩),
  (180, ⟨.func, 1, 8, [.nilFunc]⟩),
  (181, ⟨.ptr 159, 1, 8, [.pointer none]⟩),
  (182, ⟨.int .u64, 1, 8, [.int .u64 0]⟩),
  (183, ⟨.ptr 162, 1, 8, [.pointer none]⟩),
  (184, ⟨.func, 1, 8, [.nilFunc]⟩),
  (185, ⟨.func, 1, 8, [.nilFunc]⟩),
  (186, ⟨.func, 1, 8, [.nilFunc]⟩),
  (192, ⟨.func, 1, 8, [.nilFunc]⟩)
]
theorem tab_ok : TyTab Tryd.prog tab := by
  unfold tab
  exact ⟨by kernel_rfl, by kernel_rfl, by kernel_rfl, by kernel_rfl, by kernel_rfl, by kernel_rfl, by kernel_rfl, by kernel_rfl, by kernel_rfl, by kernel_rfl, by kernel_rfl, by kernel_rfl, by kernel_rfl, by kernel_rfl, by kernel_rfl, by kernel_rfl, by kernel_rfl, by kernel_rfl, by kernel_rfl, by kernel_rfl, by kernel_rfl, by kernel_rfl, by kernel_rfl, by kernel_rfl, by kernel_rfl, by kernel_rfl, by kernel_rfl, by kernel_rfl, by kernel_rfl, by kernel_rfl, by kernel_rfl, by kernel_rfl, by kernel_rfl, by kernel_rfl, by kernel_rfl, by kernel_rfl, by kernel_rfl, by kernel_rfl, by kernel_rfl, by kernel_rfl, by kernel_rfl, by kernel_rfl, by kernel_rfl, by kernel_rfl, by kernel_rfl, by kernel_rfl, by kernel_rfl, by kernel_rfl, by kernel_rfl, by kernel_rfl, by kernel_rfl, by kernel_rfl, by kernel_rfl, by kernel_rfl, by kernel_rfl, by kernel_rfl, by kernel_rfl, by kernel_rfl, by kernel_rfl, by kernel_rfl, by kernel_rfl, by kernel_rfl, by kernel_rfl, by kernel_rfl, by kernel_rfl, by kernel_rfl, by kernel_rfl, by kernel_rfl, by kernel_rfl, by kernel_rfl, by kernel_rfl, by kernel_rfl, by kernel_rfl, by kernel_rfl, by kernel_rfl, by kernel_rfl, by kernel_rfl, by kernel_rfl, by kernel_rfl, by kernel_rfl, by kernel_rfl, by kernel_rfl, by kernel_rfl, by kernel_rfl, by kernel_rfl, by kernel_rfl, by kernel_rfl, by kernel_rfl, by kernel_rfl, by kernel_rfl, by kernel_rfl, by kernel_rfl, by kernel_rfl, by kernel_rfl, by kernel_rfl, by kernel_rfl, by kernel_rfl, by kernel_rfl, by kernel_rfl, by kernel_rfl, by kernel_rfl, by kernel_rfl, by kernel_rfl, by kernel_rfl, by kernel_rfl, by kernel_rfl, by kernel_rfl, by kernel_rfl, by kernel_rfl, by kernel_rfl, by kernel_rfl, by kernel_rfl, by kernel_rfl, by kernel_rfl, by kernel_rfl, by kernel_rfl, by kernel_rfl, by kernel_rfl, by kernel_rfl, by kernel_rfl, by kernel_rfl, by kernel_rfl, by kernel_rfl, by kernel_rfl, by kernel_rfl, by kernel_rfl, by kernel_rfl, by kernel_rfl, by kernel_rfl, by kernel_rfl, by kernel_rfl, by kernel_rfl, by kernel_rfl, by kernel_rfl, by kernel_rfl, by kernel_rfl, by kernel_rfl, by kernel_rfl, by kernel_rfl, by kernel_rfl, by kernel_rfl, by kernel_rfl, by kernel_rfl, by kernel_rfl, by kernel_rfl, by kernel_rfl, by kernel_rfl, by kernel_rfl, by kernel_rfl, by kernel_rfl, by kernel_rfl, by kernel_rfl, by kernel_rfl, by kernel_rfl, by kernel_rfl, by kernel_rfl, by kernel_rfl, by kernel_rfl, by kernel_rfl, by kernel_rfl, trivial⟩
theorem u4 : uG Tryd.prog 11 := uy Tryd.func11 rfl (by kernel_rfl)
theorem call16 : uG Tryd.prog 16 := uy Tryd.func16 rfl (by kernel_rfl)
theorem vt : uG Tryd.prog 21 := uy Tryd.func21 rfl (by kernel_rfl)
theorem wi : uG Tryd.prog 22 := uy Tryd.func22 rfl (by kernel_rfl)
theorem call23 : uG Tryd.prog 23 := uy Tryd.func23 rfl (by kernel_rfl)
theorem vl : uG Tryd.prog 24 := uy Tryd.func24 rfl (by kernel_rfl)
theorem vn : uG Tryd.prog 25 := uy Tryd.func25 rfl (by kernel_rfl)
theorem call26 : uG Tryd.prog 26 := uy Tryd.func26 rfl (by kernel_rfl)
theorem zM : uG Tryd.prog 34 := uy Tryd.func34 rfl (by kernel_rfl)
theorem call35 : uG Tryd.prog 35 := uy Tryd.func35 rfl (by kernel_rfl)
theorem call36 : uG Tryd.prog 36 := uy Tryd.func36 rfl (by kernel_rfl)
theorem call37 : uG Tryd.prog 37 := uy Tryd.func37 rfl (by kernel_rfl)
theorem call38 : uG Tryd.prog 38 := uy Tryd.func38 rfl (by kernel_rfl)
theorem call39 : uG Tryd.prog 39 := uy Tryd.func39 rfl (by kernel_rfl)
theorem call40 : uG Tryd.prog 40 := uy Tryd.func40 rfl (by kernel_rfl)
theorem call41 : uG Tryd.prog 41 := uy Tryd.func41 rfl (by kernel_rfl)
theorem call42 : uG Tryd.prog 42 := uy Tryd.func42 rfl (by kernel_rfl)
theorem call43 : uG Tryd.prog 43 := uy Tryd.func43 rfl (by kernel_rfl)
theorem qm : uG Tryd.prog 44 := uy Tryd.func44 rfl (by kernel_rfl)
theorem call45 : uG Tryd.prog 45 := uy Tryd.func45 rfl (by kernel_rfl)
theorem call46 : uG Tryd.prog 46 := uy Tryd.func46 rfl (by kernel_rfl)
theorem call47 : uG Tryd.prog 47 := uy Tryd.func47 rfl (by kernel_rfl)
theorem call48 : uG Tryd.prog 48 := uy Tryd.func48 rfl (by kernel_rfl)
theorem call51 : uG Tryd.prog 51 := uy Tryd.func51 rfl (by kernel_rfl)
theorem call52 : uG Tryd.prog 52 := uy Tryd.func52 rfl (by kernel_rfl)
theorem call59 : uG Tryd.prog 59 := uy Tryd.func59 rfl (by kernel_rfl)
theorem call60 : uG Tryd.prog 60 := uy Tryd.func60 rfl (by kernel_rfl)
theorem call61 : uG Tryd.prog 61 := uy Tryd.func61 rfl (by kernel_rfl)
theorem call62 : uG Tryd.prog 62 := uy Tryd.func62 rfl (by kernel_rfl)
theorem call63 : uG Tryd.prog 63 := uy Tryd.func63 rfl (by kernel_rfl)
theorem call64 : uG Tryd.prog 64 := uy Tryd.func64 rfl (by kernel_rfl)
theorem call65 : uG Tryd.prog 65 := uy Tryd.func65 rfl (by kernel_rfl)
theorem zL : uG Tryd.prog 66 := uy Tryd.func66 rfl (by kernel_rfl)
theorem call67 : uG Tryd.prog 67 := uy Tryd.func67 rfl (by kernel_rfl)
theorem call68 : uG Tryd.prog 68 := uy Tryd.func68 rfl (by kernel_rfl)
theorem call69 : uG Tryd.prog 69 := uy Tryd.func69 rfl (by kernel_rfl)
theorem call70 : uG Tryd.prog 70 := uy Tryd.func70 rfl (by kernel_rfl)
theorem vi : uG Tryd.prog 71 := uy Tryd.func71 rfl (by kernel_rfl)
theorem call72 : uG Tryd.prog 72 := uy Tryd.func72 rfl (by kernel_rfl)
theorem call74 : uG Tryd.prog 74 := uy Tryd.func74 rfl (by kernel_rfl)
theorem call75 : uG Tryd.prog 75 := uy Tryd.func75 rfl (by kernel_rfl)
theorem call76 : uG Tryd.prog 76 := uy Tryd.func76 rfl (by kernel_rfl)
theorem call77 : uG Tryd.prog 77 := uy Tryd.func77 rfl (by kernel_rfl)
theorem call78 : uG Tryd.prog 78 := uy Tryd.func78 rfl (by kernel_rfl)
theorem call79 : uG Tryd.prog 79 := uy Tryd.func79 rfl (by kernel_rfl)
theorem ql : uG Tryd.prog 85 := uy Tryd.func85 rfl (by kernel_rfl)
theorem call86 : uG Tryd.prog 86 := uy Tryd.func86 rfl (by kernel_rfl)
theorem call88 : uG Tryd.prog 88 := uy Tryd.func88 rfl (by kernel_rfl)
theorem call89 : uG Tryd.prog 89 := uy Tryd.func89 rfl (by kernel_rfl)
theorem call90 : uG Tryd.prog 90 := uy Tryd.func90 rfl (by kernel_rfl)
theorem call91 : uG Tryd.prog 91 := uy Tryd.func91 rfl (by kernel_rfl)
theorem call92 : uG Tryd.prog 92 := uy Tryd.func92 rfl (by kernel_rfl)
theorem call94 : uG Tryd.prog 94 := uy Tryd.func94 rfl (by kernel_rfl)
theorem call95 : uG Tryd.prog 95 := uy Tryd.func95 rfl (by kernel_rfl)
theorem call96 : uG Tryd.prog 96 := uy Tryd.func96 rfl (by kernel_rfl)
theorem yR : uG Tryd.prog 97 := uy Tryd.func97 rfl (by kernel_rfl)
theorem zK : uG Tryd.prog 98 := uy Tryd.func98 rfl (by kernel_rfl)
theorem call99 : uG Tryd.prog 99 := uy Tryd.func99 rfl (by kernel_rfl)
theorem call100 : uG Tryd.prog 100 := uy Tryd.func100 rfl (by kernel_rfl)
theorem z4 : uG Tryd.prog 101 := uy Tryd.func101 rfl (by kernel_rfl)
theorem call102 : uG Tryd.prog 102 := uy Tryd.func102 rfl (by kernel_rfl)
theorem call103 : uG Tryd.prog 103 := uy Tryd.func103 rfl (by kernel_rfl)
theorem yf : uG Tryd.prog 104 := uy Tryd.func104 rfl (by kernel_rfl)
theorem call105 : uG Tryd.prog 105 := uy Tryd.func105 rfl (by kernel_rfl)
theorem call106 : uG Tryd.prog 106 := uy Tryd.func106 rfl (by kernel_rfl)
theorem call107 : uG Tryd.prog 107 := uy Tryd.func107 rfl (by kernel_rfl)
theorem call108 : uG Tryd.prog 108 := uy Tryd.func108 rfl (by kernel_rfl)
theorem call111 : uG Tryd.prog 111 := uy Tryd.func111 rfl (by kernel_rfl)
theorem call115 : uG Tryd.prog 115 := uy Tryd.func115 rfl (by kernel_rfl)
theorem call116 : uG Tryd.prog 116 := uy Tryd.func116 rfl (by kernel_rfl)
theorem call117 : uG Tryd.prog 117 := uy Tryd.func117 rfl (by kernel_rfl)
theorem z3 : uG Tryd.prog 118 := uy Tryd.func118 rfl (by kernel_rfl)
theorem call119 : uG Tryd.prog 119 := uy Tryd.func119 rfl (by kernel_rfl)
theorem call121 : uG Tryd.prog 121 := uy Tryd.func121 rfl (by kernel_rfl)
theorem call122 : uG Tryd.prog 122 := uy Tryd.func122 rfl (by kernel_rfl)
theorem call123 : uG Tryd.prog 123 := uy Tryd.func123 rfl (by kernel_rfl)
theorem call124 : uG Tryd.prog 124 := uy Tryd.func124 rfl (by kernel_rfl)
theorem call125 : uG Tryd.prog 125 := uy Tryd.func125 rfl (by kernel_rfl)
theorem call129 : uG Tryd.prog 129 := uy Tryd.func129 rfl (by kernel_rfl)
theorem call130 : uG Tryd.prog 130 := uy Tryd.func130 rfl (by kernel_rfl)
theorem call131 : uG Tryd.prog 131 := uy Tryd.func131 rfl (by kernel_rfl)
theorem call132 : uG Tryd.prog 132 := uy Tryd.func132 rfl (by kernel_rfl)
theorem vb : Tryd.prog.follows .mixedOrders = true := by kernel_rfl
end Go.Proofs.YtllmagfmbglefaaDoor
