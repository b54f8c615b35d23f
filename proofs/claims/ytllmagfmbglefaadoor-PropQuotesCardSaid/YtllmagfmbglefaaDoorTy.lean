/- The types of this translation, as far as walks ask for them: a table, checked against the program by the kernel. Written by a program of this repo (gen.py). -/
import Derived.Test.YtllmagfmbglefaaDoorEj
import Derived.Test.YtllmagfmbglefaaDoorRows
namespace Go.Proofs.YtllmagfmbglefaaDoor
open Go

def tab : List (Nat × TE) := [
  (1, ⟨.func, 1, 8, [.nilFunc]⟩),
  (2, ⟨.int .i64, 1, 8, [.int .i64 0]⟩),
  (3, ⟨.int .i64, 1, 8, [.int .i64 0]⟩),
  (4, ⟨.bool, 1, 1, [.bool false]⟩),
  (5, ⟨.int .u8, 1, 1, [.int .u8 0]⟩),
  (9, ⟨.str, 1, 16, [.string ⟨#[]⟩]⟩),
  (12, ⟨.int .u64, 1, 8, [.int .u64 0]⟩),
  (13, ⟨.struct [(0, 9), (1, 12)], 2, 24, [.string ⟨#[]⟩, .int .u64 0]⟩),
  (21, ⟨.int .i32, 1, 4, [.int .i32 0]⟩),
  (22, ⟨.slice 9, 1, 24, [.slice none 0 0]⟩),
  (23, ⟨.func, 1, 8, [.nilFunc]⟩),
  (24, ⟨.func, 1, 8, [.nilFunc]⟩),
  (25, ⟨.slice 68, 1, 24, [.slice none 0 0]⟩),
  (26, ⟨.slice 66, 1, 24, [.slice none 0 0]⟩),
  (27, ⟨.struct [(0, 9), (1, 9), (2, 9), (3, 25), (4, 4), (5, 4), (6, 22), (7, 4), (8, 26), (9, 26), (10, 26)], 11, 184, [.string ⟨#[]⟩, .string ⟨#[]⟩, .string ⟨#[]⟩, .slice none 0 0, .bool false, .bool false, .slice none 0 0, .bool false, .slice none 0 0, .slice none 0 0, .slice none 0 0]⟩),
  (28, ⟨.struct [(0, 9), (1, 9), (2, 9), (3, 25), (4, 4), (5, 4), (6, 22), (7, 4), (8, 26), (9, 26), (10, 26)], 11, 184, [.string ⟨#[]⟩, .string ⟨#[]⟩, .string ⟨#[]⟩, .slice none 0 0, .bool false, .bool false, .slice none 0 0, .bool false, .slice none 0 0, .slice none 0 0, .slice none 0 0]⟩),
  (29, ⟨.struct [(0, 9), (1, 3), (2, 28)], 13, 208, [.string ⟨#[]⟩, .int .i64 0, .string ⟨#[]⟩, .string ⟨#[]⟩, .string ⟨#[]⟩, .slice none 0 0, .bool false, .bool false, .slice none 0 0, .bool false, .slice none 0 0, .slice none 0 0, .slice none 0 0]⟩),
  (30, ⟨.struct [(0, 9), (1, 3), (2, 28)], 13, 208, [.string ⟨#[]⟩, .int .i64 0, .string ⟨#[]⟩, .string ⟨#[]⟩, .string ⟨#[]⟩, .slice none 0 0, .bool false, .bool false, .slice none 0 0, .bool false, .slice none 0 0, .slice none 0 0, .slice none 0 0]⟩),
  (31, ⟨.int .i64, 1, 8, [.int .i64 0]⟩),
  (33, ⟨.func, 1, 8, [.nilFunc]⟩),
  (34, ⟨.func, 1, 8, [.nilFunc]⟩),
  (35, ⟨.func, 1, 8, [.nilFunc]⟩),
  (36, ⟨.func, 1, 8, [.nilFunc]⟩),
  (37, ⟨.func, 1, 8, [.nilFunc]⟩),
  (38, ⟨.func, 1, 8, [.nilFunc]⟩),
  (39, ⟨.func, 1, 8, [.nilFunc]⟩),
  (40, ⟨.func, 1, 8, [.nilFunc]⟩),
  (41, ⟨.func, 1, 8, [.nilFunc]⟩),
  (42, ⟨.func, 1, 8, [.nilFunc]⟩),
  (43, ⟨.slice 3, 1, 24, [.slice none 0 0]⟩),
  (44, ⟨.array 2 9, 2, 32, [.string ⟨#[]⟩, .string ⟨#[]⟩]⟩),
  (45, ⟨.slice 50, 1, 24, [.slice none 0 0]⟩),
  (46, ⟨.struct [(0, 9), (1, 9), (2, 3), (3, 22), (4, 43), (5, 44), (7, 9), (8, 9), (9, 4), (10, 45), (11, 3), (12, 9), (13, 9), (14, 9), (15, 3)], 16, 248, [.string ⟨#[]⟩, .string ⟨#[]⟩, .int .i64 0, .slice none 0 0, .slice none 0 0, .string ⟨#[]⟩, .string ⟨#[]⟩, .string ⟨#[]⟩, .string ⟨#[]⟩, .bool false, .slice none 0 0, .int .i64 0, .string ⟨#[]⟩, .string ⟨#[]⟩, .string ⟨#[]⟩, .int .i64 0]⟩),
  (47, ⟨.struct [(0, 9), (1, 9), (2, 3), (3, 22), (4, 43), (5, 44), (7, 9), (8, 9), (9, 4), (10, 45), (11, 3), (12, 9), (13, 9), (14, 9), (15, 3)], 16, 248, [.string ⟨#[]⟩, .string ⟨#[]⟩, .int .i64 0, .slice none 0 0, .slice none 0 0, .string ⟨#[]⟩, .string ⟨#[]⟩, .string ⟨#[]⟩, .string ⟨#[]⟩, .bool false, .slice none 0 0, .int .i64 0, .string ⟨#[]⟩, .string ⟨#[]⟩, .string ⟨#[]⟩, .int .i64 0]⟩),
  (49, ⟨.func, 1, 8, [.nilFunc]⟩),
  (50, ⟨.array 2 3, 2, 16, [.int .i64 0, .int .i64 0]⟩),
  (51, ⟨.func, 1, 8, [.nilFunc]⟩),
  (52, ⟨.func, 1, 8, [.nilFunc]⟩),
  (53, ⟨.func, 1, 8, [.nilFunc]⟩),
  (55, ⟨.func, 1, 8, [.nilFunc]⟩),
  (56, ⟨.slice 80, 1, 24, [.slice none 0 0]⟩),
  (57, ⟨.func, 1, 8, [.nilFunc]⟩),
  (58, ⟨.func, 1, 8, [.nilFunc]⟩),
  (59, ⟨.func, 1, 8, [.nilFunc]⟩),
  (60, ⟨.slice 64, 1, 24, [.slice none 0 0]⟩),
  (61, ⟨.func, 1, 8, [.nilFunc]⟩),
  (62, ⟨.func, 1, 8, [.nilFunc]⟩),
  (63, ⟨.struct [(0, 9), (1, 56), (2, 4)], 3, 48, [.string ⟨#[]⟩, .slice none 0 0, .bool false]⟩),
  (64, ⟨.struct [(0, 9), (1, 56), (2, 4)], 3, 48, [.string ⟨#[]⟩, .slice none 0 0, .bool false]⟩),
  (65, ⟨.struct [(0, 9), (1, 3), (2, 4), (3, 4)], 4, 32, [.string ⟨#[]⟩, .int .i64 0, .bool false, .bool false]⟩),
  (66, ⟨.struct [(0, 9), (1, 3), (2, 4), (3, 4)], 4, 32, [.string ⟨#[]⟩, .int .i64 0, .bool false, .bool false]⟩),
  (67, ⟨.struct [(0, 3), (1, 9), (2, 9), (3, 9)], 4, 56, [.int .i64 0, .string ⟨#[]⟩, .string ⟨#[]⟩, .string ⟨#[]⟩]⟩),
  (68, ⟨.struct [(0, 3), (1, 9), (2, 9), (3, 9)], 4, 56, [.int .i64 0, .string ⟨#[]⟩, .string ⟨#[]⟩, .string ⟨#[]⟩]⟩),
  (69, ⟨.func, 1, 8, [.nilFunc]⟩),
  (70, ⟨.func, 1, 8, [.nilFunc]⟩),
  (71, ⟨.func, 1, 8, [.nilFunc]⟩),
  (72, ⟨.int .u64, 1, 8, [.int .u64 0]⟩),
  (73, ⟨.slice 5, 1, 24, [.slice none 0 0]⟩),
  (74, ⟨.func, 1, 8, [.nilFunc]⟩),
  (75, ⟨.func, 1, 8, [.nilFunc]⟩),
  (76, ⟨.func, 1, 8, [.nilFunc]⟩),
  (77, ⟨.struct [(0, 3), (1, 9), (2, 3), (3, 4), (4, 4), (5, 4)], 6, 40, [.int .i64 0, .string ⟨#[]⟩, .int .i64 0, .bool false, .bool false, .bool false]⟩),
  (78, ⟨.struct [(0, 3), (1, 9), (2, 3), (3, 4), (4, 4), (5, 4)], 6, 40, [.int .i64 0, .string ⟨#[]⟩, .int .i64 0, .bool false, .bool false, .bool false]⟩),
  (79, ⟨.struct [(0, 78), (6, 56)], 7, 64, [.int .i64 0, .string ⟨#[]⟩, .int .i64 0, .bool false, .bool false, .bool false, .slice none 0 0]⟩),
  (80, ⟨.struct [(0, 78), (6, 56)], 7, 64, [.int .i64 0, .string ⟨#[]⟩, .int .i64 0, .bool false, .bool false, .bool false, .slice none 0 0]⟩),
  (81, ⟨.slice 85, 1, 24, [.slice none 0 0]⟩),
  (82, ⟨.func, 1, 8, [.nilFunc]⟩),
  (83, ⟨.func, 1, 8, [.nilFunc]⟩),
  (84, ⟨.struct [(0, 9), (1, 56), (2, 4), (3, 60)], 4, 72, [.string ⟨#[]⟩, .slice none 0 0, .bool false, .slice none 0 0]⟩),
  (85, ⟨.struct [(0, 9), (1, 56), (2, 4), (3, 60)], 4, 72, [.string ⟨#[]⟩, .slice none 0 0, .bool false, .slice none 0 0]⟩),
  (86, ⟨.func, 1, 8, [.nilFunc]⟩),
  (87, ⟨.func, 1, 8, [.nilFunc]⟩),
  (88, ⟨.func, 1, 8, [.nilFunc]⟩),
  (89, ⟨.func, 1, 8, [.nilFunc]⟩),
  (90, ⟨.func, 1, 8, [.nilFunc]⟩),
  (91, ⟨.func, 1, 8, [.nilFunc]⟩),
  (92, ⟨.func, 1, 8, [.nilFunc]⟩),
  (93, ⟨.slice 78, 1, 24, [.slice none 0 0]⟩),
  (94, ⟨.func, 1, 8, [.nilFunc]⟩),
  (95, ⟨.slice 21, 1, 24, [.slice none 0 0]⟩),
  (96, ⟨.func, 1, 8, [.nilFunc]⟩),
  (98, ⟨.func, 1, 8, [.nilFunc]⟩),
  (99, ⟨.func, 1, 8, [.nilFunc]⟩),
  (100, ⟨.func, 1, 8, [.nilFunc]⟩),
  (101, ⟨.func, 1, 8, [.nilFunc]⟩),
  (102, ⟨.func, 1, 8, [.nilFunc]⟩),
  (103, ⟨.func, 1, 8, [.nilFunc]⟩),
  (104, ⟨.ptr 28, 1, 8, [.pointer none]⟩),
  (105, ⟨.func, 1, 8, [.nilFunc]⟩),
  (106, ⟨.func, 1, 8, [.nilFunc]⟩),
  (107, ⟨.func, 1, 8, [.nilFunc]⟩),
  (109, ⟨.func, 1, 8, [.nilFunc]⟩),
  (110, ⟨.ptr 112, 1, 8, [.pointer none]⟩),
  (111, ⟨.struct [(0, 47), (16, 22), (17, 22), (18, 43), (19, 4), (20, 4)], 21, 328, [.string ⟨#[]⟩, .string ⟨#[]⟩, .int .i64 0, .slice none 0 0, .slice none 0 0, .string ⟨#[]⟩, .string ⟨#[]⟩, .string ⟨#[]⟩, .string ⟨#[]⟩, .bool false, .slice none 0 0, .int .i64 0, .string ⟨#[]⟩, .string ⟨#[]⟩, .string ⟨#[]⟩, .int .i64 0, .slice none 0 0, .slice none 0 0, .slice none 0 0, .bool false, .bool false]⟩),
  (112, ⟨.struct [(0, 47), (16, 22), (17, 22), (18, 43), (19, 4), (20, 4)], 21, 328, [.string ⟨#[]⟩, .string ⟨#[]⟩, .int .i64 0, .slice none 0 0, .slice none 0 0, .string ⟨#[]⟩, .string ⟨#[]⟩, .string ⟨#[]⟩, .string ⟨#[]⟩, .bool false, .slice none 0 0, .int .i64 0, .string ⟨#[]⟩, .string ⟨#[]⟩, .string ⟨#[]⟩, .int .i64 0, .slice none 0 0, .slice none 0 0, .slice none 0 0, .bool false, .bool false]⟩),
  (113, ⟨.func, 1, 8, [.nilFunc]⟩),
  (114, ⟨.func, 1, 8, [.nilFunc]⟩),
  (115, ⟨.func, 1, 8, [.nilFunc]⟩),
  (116, ⟨.func, 1, 8, [.nilFunc]⟩),
  (117, ⟨.func, 1, 8, [.nilFunc]⟩),
  (118, ⟨.ptr 120, 1, 8, [.pointer none]⟩),
  (119, ⟨.struct [(0, 118), (1, 73)], 2, 32, [.pointer none, .slice none 0 0]⟩),
  (120, ⟨.struct [(0, 118), (1, 73)], 2, 32, [.pointer none, .slice none 0 0]⟩),
  (122, ⟨.plain, 1, 16, [.nilIface]⟩),
  (123, ⟨.func, 1, 8, [.nilFunc]⟩),
  (124, ⟨.func, 1, 8, [.nilFunc]⟩),
  (126, ⟨.func, 1, 8, [.nilFunc]⟩),
  (127, ⟨.ptr 129, 1, 8, [.pointer none]⟩),
  (128, ⟨.struct [(0, 95), (1, 3)], 2, 32, [.slice none 0 0, .int .i64 0]⟩),
  (129, ⟨.struct [(0, 95), (1, 3)], 2, 32, [.slice none 0 0, .int .i64 0]⟩),
  (130, ⟨.func, 1, 8, [.nilFunc]⟩),
  (131, ⟨.func, 1, 8, [.nilFunc]⟩),
  (132, ⟨.slice 134, 1, 24, [.slice none 0 0]⟩),
  (133, ⟨.struct [(0, 3), (1, 3)], 2, 16, [.int .i64 0, .int .i64 0]⟩),
  (134, ⟨.struct [(0, 3), (1, 3)], 2, 16, [.int .i64 0, .int .i64 0]⟩),
  (135, ⟨.int .u32, 1, 4, [.int .u32 0]⟩),
  (136, ⟨.func, 1, 8, [.nilFunc]⟩),
  (137, ⟨.ptr 156, 1, 8, [.pointer none]⟩),
  (139, ⟨.func, 1, 8, [.nilFunc]⟩),
  (140, ⟨.func, 1, 8, [.nilFunc]⟩),
  (141, ⟨.func, 1, 8, [.nilFunc]⟩),
  (142, ⟨.func, 1, 8, [.nilFunc]⟩),
  (143, ⟨.func, 1, 8, [.nilFunc]⟩),
  (145, ⟨.func, 1, 8, [.nilFunc]⟩),
  (146, ⟨.func, 1, 8, [.nilFunc]⟩),
  (147, ⟨.ptr 9, 1, 8, [.pointer none]⟩),
  (148, ⟨.ptr 5, 1, 8, [.pointer none]⟩),
  (149, ⟨.func, 1, 8, [.nilFunc]⟩),
  (150, ⟨.func, 1, 8, [.nilFunc]⟩),
  (151, ⟨.func, 1, 8, [.nilFunc]⟩),
  (152, ⟨.func, 1, 8, [.nilFunc]⟩),
  (153, ⟨.slice 159, 1, 24, [.slice none 0 0]⟩),
  (154, ⟨.slice 162, 1, 24, [.slice none 0 0]⟩),
  (155, ⟨.struct [(0, 153), (1, 154), (2, 3)], 3, 56, [.slice none 0 0, .slice none 0 0, .int .i64 0]⟩),
  (156, ⟨.struct [(0, 153), (1, 154), (2, 3)], 3, 56, [.slice none 0 0, .slice none 0 0, .int .i64 0]⟩),
  (157, ⟨.int .u16, 1, 2, [.int .u16 0]⟩),
  (158, ⟨.struct [(0, 157), (1, 157), (2, 157)], 3, 6, [.int .u16 0, .int .u16 0, .int .u16 0]⟩),
  (159, ⟨.struct [(0, 157), (1, 157), (2, 157)], 3, 6, [.int .u16 0, .int .u16 0, .int .u16 0]⟩),
  (160, ⟨.func, 1, 8, [.nilFunc]⟩),
  (161, ⟨.struct [(0, 135), (1, 135), (2, 135)], 3, 12, [.int .u32 0, .int .u32 0, .int .u32 0]⟩),
  (162, ⟨.struct [(0, 135), (1, 135), (2, 135)], 3, 12, [.int .u32 0, .int .u32 0, .int .u32 0]⟩),
  (163, ⟨.func, 1, 8, [.nilFunc]⟩),
  (164, ⟨.func, 1, 8, [.nilFunc]⟩),
  (166, ⟨.func, 1, 8, [.nilFunc]⟩),
  (168, ⟨.func, 1, 8, [.nilFunc]⟩),
  (170, ⟨.func, 1, 8, [.nilFunc]⟩),
  (171, ⟨.func, 1, 8, [.nilFunc]⟩),
  (172, ⟨.slice 56, 1, 24, [.slice none 0 0]⟩),
  (173, ⟨.func, 1, 8, [.nilFunc]⟩),
  (174, ⟨.func, 1, 8, [.nilFunc]⟩),
  (176, ⟨.func, 1, 8, [.nilFunc]⟩),
  (179, ⟨.func, 1, 8, [.nilFunc]⟩),
  (180, ⟨.func, 1, 8, [.nilFunc]⟩),
  (181, ⟨.ptr 159, 1, 8, [.pointer none]⟩),
  (182, ⟨.int .u64, 1, 8, [.int .u64 0]⟩),
  (183, ⟨.ptr 162, 1, 8, [.pointer none]⟩),
  (184, ⟨.func, 1, 8, [.nilFunc]⟩),
  (185, ⟨.func, 1, 8, [.nilFunc]⟩),
  (186, ⟨.func, 1, 8, [.nilFunc]⟩),
  (192, ⟨.func, 1, 8, [.nilFunc]⟩)
]
theorem tab_ok : TyTab Tryd.prog tab := by
  unfold tab
  exact ⟨by kernel_rfl, by kernel_rfl, by kernel_rfl, by kernel_rfl, by kernel_rfl, by kernel_rfl, by kernel_rfl, by kernel_rfl, by kernel_rfl, by kernel_rfl, by kernel_rfl, by kernel_rfl, by kernel_rfl, by kernel_rfl, by kernel_rfl, by kernel_rfl, by kernel_rfl, by kernel_rfl, by kernel_rfl, by kernel_rfl, by kernel_rfl, by kernel_rfl, by kernel_rfl, by kernel_rfl, by kernel_rfl, by kernel_rfl, by kernel_rfl, by kernel_rfl, by kernel_rfl, by kernel_rfl, by kernel_rfl, by kernel_rfl, by kernel_rfl, by kernel_rfl, by kernel_rfl, by kernel_rfl, by kernel_rfl, by kernel_rfl, by kernel_rfl, by kernel_rfl, by kernel_rfl, by kernel_rfl, by kernel_rfl, by kernel_rfl, by kernel_rfl, by kernel_rfl, by kernel_rfl, by kernel_rfl, by kernel_rfl, by kernel_rfl, by kernel_rfl, by kernel_rfl, by kernel_rfl, by kernel_rfl, by kernel_rfl, by kernel_rfl, by kernel_rfl, by kernel_rfl, by kernel_rfl, by kernel_rfl, by kernel_rfl, by kernel_rfl, by kernel_rfl, by kernel_rfl, by kernel_rfl, by kernel_rfl, by kernel_rfl, by kernel_rfl, by kernel_rfl, by kernel_rfl, by kernel_rfl, by kernel_rfl, by kernel_rfl, by kernel_rfl, by kernel_rfl, by kernel_rfl, by kernel_rfl, by kernel_rfl, by kernel_rfl, by kernel_rfl, by kernel_rfl, by kernel_rfl, by kernel_rfl, by kernel_rfl, by kernel_rfl, by kernel_rfl, by kernel_rfl, by kernel_rfl, by kernel_rfl, by kernel_rfl, by kernel_rfl, by kernel_rfl, by kernel_rfl, by kernel_rfl, by kernel_rfl, by kernel_rfl, by kernel_rfl, by kernel_rfl, by kernel_rfl, by kernel_rfl, by kernel_rfl, by kernel_rfl, by kernel_rfl, by kernel_rfl, by kernel_rfl, by kernel_rfl, by kernel_rfl, by kernel_rfl, by kernel_rfl, by kernel_rfl, by kernel_rfl, by kernel_rfl, by kernel_rfl, by kernel_rfl, by kernel_rfl, by kernel_rfl, by kernel_rfl, by kernel_rfl, by kernel_rfl, by kernel_rfl, by kernel_rfl, by kernel_rfl, by kernel_rfl, by kernel_rfl, by kernel_rfl, by kernel_rfl, by kernel_rfl, by kernel_rfl, by kernel_rfl, by kernel_rfl, by kernel_rfl, by kernel_rfl, by kernel_rfl, by kernel_rfl, by kernel_rfl, by kernel_rfl, by kernel_rfl, by kernel_rfl, by kernel_rfl, by kernel_rfl, by kernel_rfl, by kernel_rfl, by kernel_rfl, by kernel_rfl, by kernel_rfl, by kernel_rfl, by kernel_rfl, by kernel_rfl, by kernel_rfl, by kernel_rfl, by kernel_rfl, by kernel_rfl, by kernel_rfl, by kernel_rfl, by kernel_rfl, by kernel_rfl, by kernel_rfl, by kernel_rfl, by kernel_rfl, by kernel_rfl, trivial⟩
theorem call10 : Callable Tryd.prog 10 := callable_of Tryd.func10 rfl (by kernel_rfl)
theorem call11 : Callable Tryd.prog 11 := callable_of Tryd.func11 rfl (by kernel_rfl)
theorem call12 : Callable Tryd.prog 12 := callable_of Tryd.func12 rfl (by kernel_rfl)
theorem call13 : Callable Tryd.prog 13 := callable_of Tryd.func13 rfl (by kernel_rfl)
theorem call14 : Callable Tryd.prog 14 := callable_of Tryd.func14 rfl (by kernel_rfl)
theorem call15 : Callable Tryd.prog 15 := callable_of Tryd.func15 rfl (by kernel_rfl)
theorem call16 : Callable Tryd.prog 16 := callable_of Tryd.func16 rfl (by kernel_rfl)
theorem call17 : Callable Tryd.prog 17 := callable_of Tryd.func17 rfl (by kernel_rfl)
theorem call18 : Callable Tryd.prog 18 := callable_of Tryd.func18 rfl (by kernel_rfl)
theorem call19 : Callable Tryd.prog 19 := callable_of Tryd.func19 rfl (by kernel_rfl)
theorem call20 : Callable Tryd.prog 20 := callable_of Tryd.func20 rfl (by kernel_rfl)
theorem call24 : Callable Tryd.prog 24 := callable_of Tryd.func24 rfl (by kernel_rfl)
theorem call26 : Callable Tryd.prog 26 := callable_of Tryd.func26 rfl (by kernel_rfl)
theorem call27 : Callable Tryd.prog 27 := callable_of Tryd.func27 rfl (by kernel_rfl)
theorem call28 : Callable Tryd.prog 28 := callable_of Tryd.func28 rfl (by kernel_rfl)
theorem call29 : Callable Tryd.prog 29 := callable_of Tryd.func29 rfl (by kernel_rfl)
theorem call30 : Callable Tryd.prog 30 := callable_of Tryd.func30 rfl (by kernel_rfl)
theorem call31 : Callable Tryd.prog 31 := callable_of Tryd.func31 rfl (by kernel_rfl)
theorem call32 : Callable Tryd.prog 32 := callable_of Tryd.func32 rfl (by kernel_rfl)
theorem call33 : Callable Tryd.prog 33 := callable_of Tryd.func33 rfl (by kernel_rfl)
theorem call42 : Callable Tryd.prog 42 := callable_of Tryd.func42 rfl (by kernel_rfl)
theorem call43 : Callable Tryd.prog 43 := callable_of Tryd.func43 rfl (by kernel_rfl)
theorem call44 : Callable Tryd.prog 44 := callable_of Tryd.func44 rfl (by kernel_rfl)
theorem call45 : Callable Tryd.prog 45 := callable_of Tryd.func45 rfl (by kernel_rfl)
theorem call46 : Callable Tryd.prog 46 := callable_of Tryd.func46 rfl (by kernel_rfl)
theorem call47 : Callable Tryd.prog 47 := callable_of Tryd.func47 rfl (by kernel_rfl)
theorem call48 : Callable Tryd.prog 48 := callable_of Tryd.func48 rfl (by kernel_rfl)
theorem call51 : Callable Tryd.prog 51 := callable_of Tryd.func51 rfl (by kernel_rfl)
theorem call52 : Callable Tryd.prog 52 := callable_of Tryd.func52 rfl (by kernel_rfl)
theorem call53 : Callable Tryd.prog 53 := callable_of Tryd.func53 rfl (by kernel_rfl)
theorem call54 : Callable Tryd.prog 54 := callable_of Tryd.func54 rfl (by kernel_rfl)
theorem call55 : Callable Tryd.prog 55 := callable_of Tryd.func55 rfl (by kernel_rfl)
theorem call56 : Callable Tryd.prog 56 := callable_of Tryd.func56 rfl (by kernel_rfl)
theorem call57 : Callable Tryd.prog 57 := callable_of Tryd.func57 rfl (by kernel_rfl)
theorem call58 : Callable Tryd.prog 58 := callable_of Tryd.func58 rfl (by kernel_rfl)
theorem call65 : Callable Tryd.prog 65 := callable_of Tryd.func65 rfl (by kernel_rfl)
theorem call66 : Callable Tryd.prog 66 := callable_of Tryd.func66 rfl (by kernel_rfl)
theorem call67 : Callable Tryd.prog 67 := callable_of Tryd.func67 rfl (by kernel_rfl)
theorem call68 : Callable Tryd.prog 68 := callable_of Tryd.func68 rfl (by kernel_rfl)
theorem call69 : Callable Tryd.prog 69 := callable_of Tryd.func69 rfl (by kernel_rfl)
theorem call70 : Callable Tryd.prog 70 := callable_of Tryd.func70 rfl (by kernel_rfl)
theorem call71 : Callable Tryd.prog 71 := callable_of Tryd.func71 rfl (by kernel_rfl)
theorem call72 : Callable Tryd.prog 72 := callable_of Tryd.func72 rfl (by kernel_rfl)
theorem call74 : Callable Tryd.prog 74 := callable_of Tryd.func74 rfl (by kernel_rfl)
theorem call75 : Callable Tryd.prog 75 := callable_of Tryd.func75 rfl (by kernel_rfl)
theorem call76 : Callable Tryd.prog 76 := callable_of Tryd.func76 rfl (by kernel_rfl)
theorem call77 : Callable Tryd.prog 77 := callable_of Tryd.func77 rfl (by kernel_rfl)
theorem call78 : Callable Tryd.prog 78 := callable_of Tryd.func78 rfl (by kernel_rfl)
theorem call79 : Callable Tryd.prog 79 := callable_of Tryd.func79 rfl (by kernel_rfl)
theorem call80 : Callable Tryd.prog 80 := callable_of Tryd.func80 rfl (by kernel_rfl)
theorem call81 : Callable Tryd.prog 81 := callable_of Tryd.func81 rfl (by kernel_rfl)
theorem call82 : Callable Tryd.prog 82 := callable_of Tryd.func82 rfl (by kernel_rfl)
theorem call83 : Callable Tryd.prog 83 := callable_of Tryd.func83 rfl (by kernel_rfl)
theorem call84 : Callable Tryd.prog 84 := callable_of Tryd.func84 rfl (by kernel_rfl)
theorem call85 : Callable Tryd.prog 85 := callable_of Tryd.func85 rfl (by kernel_rfl)
theorem call94 : Callable Tryd.prog 94 := callable_of Tryd.func94 rfl (by kernel_rfl)
theorem call95 : Callable Tryd.prog 95 := callable_of Tryd.func95 rfl (by kernel_rfl)
theorem call96 : Callable Tryd.prog 96 := callable_of Tryd.func96 rfl (by kernel_rfl)
theorem call97 : Callable Tryd.prog 97 := callable_of Tryd.func97 rfl (by kernel_rfl)
theorem call98 : Callable Tryd.prog 98 := callable_of Tryd.func98 rfl (by kernel_rfl)
theorem call99 : Callable Tryd.prog 99 := callable_of Tryd.func99 rfl (by kernel_rfl)
theorem call100 : Callable Tryd.prog 100 := callable_of Tryd.func100 rfl (by kernel_rfl)
theorem call101 : Callable Tryd.prog 101 := callable_of Tryd.func101 rfl (by kernel_rfl)
theorem call102 : Callable Tryd.prog 102 := callable_of Tryd.func102 rfl (by kernel_rfl)
theorem call103 : Callable Tryd.prog 103 := callable_of Tryd.func103 rfl (by kernel_rfl)
theorem call104 : Callable Tryd.prog 104 := callable_of Tryd.func104 rfl (by kernel_rfl)
theorem call105 : Callable Tryd.prog 105 := callable_of Tryd.func105 rfl (by kernel_rfl)
theorem call106 : Callable Tryd.prog 106 := callable_of Tryd.func106 rfl (by kernel_rfl)
theorem call107 : Callable Tryd.prog 107 := callable_of Tryd.func107 rfl (by kernel_rfl)
theorem call108 : Callable Tryd.prog 108 := callable_of Tryd.func108 rfl (by kernel_rfl)
theorem call111 : Callable Tryd.prog 111 := callable_of Tryd.func111 rfl (by kernel_rfl)
theorem call112 : Callable Tryd.prog 112 := callable_of Tryd.func112 rfl (by kernel_rfl)
theorem call113 : Callable Tryd.prog 113 := callable_of Tryd.func113 rfl (by kernel_rfl)
theorem call114 : Callable Tryd.prog 114 := callable_of Tryd.func114 rfl (by kernel_rfl)
theorem call117 : Callable Tryd.prog 117 := callable_of Tryd.func117 rfl (by kernel_rfl)
theorem call121 : Callable Tryd.prog 121 := callable_of Tryd.func121 rfl (by kernel_rfl)
theorem call122 : Callable Tryd.prog 122 := callable_of Tryd.func122 rfl (by kernel_rfl)
theorem call123 : Callable Tryd.prog 123 := callable_of Tryd.func123 rfl (by kernel_rfl)
theorem call124 : Callable Tryd.prog 124 := callable_of Tryd.func124 rfl (by kernel_rfl)
theorem call125 : Callable Tryd.prog 125 := callable_of Tryd.func125 rfl (by kernel_rfl)
theorem call126 : Callable Tryd.prog 126 := callable_of Tryd.func126 rfl (by kernel_rfl)
theorem call127 : Callable Tryd.prog 127 := callable_of Tryd.func127 rfl (by kernel_rfl)
theorem call128 : Callable Tryd.prog 128 := callable_of Tryd.func128 rfl (by kernel_rfl)
theorem call129 : Callable Tryd.prog 129 := callable_of Tryd.func129 rfl (by kernel_rfl)
theorem call130 : Callable Tryd.prog 130 := callable_of Tryd.func130 rfl (by kernel_rfl)
theorem call131 : Callable Tryd.prog 131 := callable_of Tryd.func131 rfl (by kernel_rfl)
theorem call132 : Callable Tryd.prog 132 := callable_of Tryd.func132 rfl (by kernel_rfl)
theorem mixed_ok : Tryd.prog.follows .mixedOrders = true := by kernel_rfl
end Go.Proofs.YtllmagfmbglefaaDoor
