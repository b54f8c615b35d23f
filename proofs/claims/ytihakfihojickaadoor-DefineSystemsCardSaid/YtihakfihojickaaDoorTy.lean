/- The types of this translation, as far as walks ask for them: a table, checked against the program by the kernel. Written by a program of this repo (gen.py). -/
import Derived.Test.YtihakfihojickaaDoorEj
import Derived.Test.YtihakfihojickaaDoorRows
namespace Go.Proofs.YtihakfihojickaaDoor
open Go

def tab : List (Nat × TE) := [
  (1, ⟨.func, 1, 8, [.nilFunc]⟩),
  (2, ⟨.int .i64, 1, 8, [.int .i64 0]⟩),
  (3, ⟨.int .i64, 1, 8, [.int .i64 0]⟩),
  (4, ⟨.bool, 1, 1, [.bool false]⟩),
  (5, ⟨.int .u8, 1, 1, [.int .u8 0]⟩),
  (9, ⟨.str, 1, 16, [.string ⟨#[]⟩]⟩),
  (12, ⟨.int .u64, 1, 8, [.int .u64 0]⟩),
  (13, ⟨.struct [(0, 9), (1, 12)], 2, 24, [.string ⟨#[]⟩, .int .u64 0]⟩),
  (21, ⟨.int .i32, 1, 4, [.int .i32 0]⟩),
  (22, ⟨.slice 3, 1, 24, [.slice none 0 0]⟩),
  (23, ⟨.func, 1, 8, [.nilFunc]⟩),
  (24, ⟨.slice 9, 1, 24, [.slice none 0 0]⟩),
  (25, ⟨.func, 1, 8, [.nilFunc]⟩),
  (26, ⟨.array 2 9, 2, 32, [.string ⟨#[]⟩, .string ⟨#[]⟩]⟩),
  (27, ⟨.slice 33, 1, 24, [.slice none 0 0]⟩),
  (28, ⟨.struct [(0, 9), (1, 9), (2, 3), (3, 24), (4, 22), (5, 26), (7, 9), (8, 9), (9, 4), (10, 27), (11, 3), (12, 9), (13, 9), (14, 9), (15, 3)], 16, 248, [.string ⟨#[]⟩, .string ⟨#[]⟩, .int .i64 0, .slice none 0 0, .slice none 0 0, .string ⟨#[]⟩, .string ⟨#[]⟩, .string ⟨#[]⟩, .string ⟨#[]⟩, .bool false, .slice none 0 0, .int .i64 0, .string ⟨#[]⟩, .string ⟨#[]⟩, .string ⟨#[]⟩, .int .i64 0]⟩),
  (29, ⟨.struct [(0, 9), (1, 9), (2, 3), (3, 24), (4, 22), (5, 26), (7, 9), (8, 9), (9, 4), (10, 27), (11, 3), (12, 9), (13, 9), (14, 9), (15, 3)], 16, 248, [.string ⟨#[]⟩, .string ⟨#[]⟩, .int .i64 0, .slice none 0 0, .slice none 0 0, .string ⟨#[]⟩, .string ⟨#[]⟩, .string ⟨#[]⟩, .string ⟨#[]⟩, .bool false, .slice none 0 0, .int .i64 0, .string ⟨#[]⟩, .string ⟨#[]⟩, .string ⟨#[]⟩, .int .i64 0]⟩),
  (30, ⟨.int .i64, 1, 8, [.int .i64 0]⟩),
  (32, ⟨.func, 1, 8, [.nilFunc]⟩),
  (33, ⟨.array 2 3, 2, 16, [.int .i64 0, .int .i64 0]⟩),
  (34, ⟨.func, 1, 8, [.nilFunc]⟩),
  (35, ⟨.func, 1, 8, [.nilFunc]⟩),
  (36, ⟨.func, 1, 8, [.nilFunc]⟩),
  (37, ⟨.func, 1, 8, [.nilFunc]⟩),
  (38, ⟨.func, 1, 8, [.nilFunc]⟩),
  (40, ⟨.func, 1, 8, [.nilFunc]⟩),
  (41, ⟨.struct [(0, 3), (1, 9), (2, 3), (3, 4), (4, 4), (5, 4)], 6, 40, [.int .i64 0, .string ⟨#[]⟩, .int .i64 0, .bool false, .bool false, .bool false]⟩),
  (42, ⟨.struct [(0, 3), (1, 9), (2, 3), (3, 4), (4, 4), (5, 4)], 6, 40, [.int .i64 0, .string ⟨#[]⟩, .int .i64 0, .bool false, .bool false, .bool false]⟩),
  (43, ⟨.slice 45, 1, 24, [.slice none 0 0]⟩),
  (44, ⟨.struct [(0, 42), (6, 43)], 7, 64, [.int .i64 0, .string ⟨#[]⟩, .int .i64 0, .bool false, .bool false, .bool false, .slice none 0 0]⟩),
  (45, ⟨.struct [(0, 42), (6, 43)], 7, 64, [.int .i64 0, .string ⟨#[]⟩, .int .i64 0, .bool false, .bool false, .bool false, .slice none 0 0]⟩),
  (46, ⟨.func, 1, 8, [.nilFunc]⟩),
  (47, ⟨.func, 1, 8, [.nilFunc]⟩),
  (48, ⟨.func, 1, 8, [.nilFunc]⟩),
  (49, ⟨.slice 54, 1, 24, [.slice none 0 0]⟩),
  (50, ⟨.func, 1, 8, [.nilFunc]⟩),
  (51, ⟨.func, 1, 8, [.nilFunc]⟩),
  (52, ⟨.slice 75, 1, 24, [.slice none 0 0]⟩),
  (53, ⟨.struct [(0, 9), (1, 43), (2, 4), (3, 52)], 4, 72, [.string ⟨#[]⟩, .slice none 0 0, .bool false, .slice none 0 0]⟩),
  (54, ⟨.struct [(0, 9), (1, 43), (2, 4), (3, 52)], 4, 72, [.string ⟨#[]⟩, .slice none 0 0, .bool false, .slice none 0 0]⟩),
  (55, ⟨.int .u64, 1, 8, [.int .u64 0]⟩),
  (56, ⟨.slice 5, 1, 24, [.slice none 0 0]⟩),
  (57, ⟨.func, 1, 8, [.nilFunc]⟩),
  (58, ⟨.func, 1, 8, [.nilFunc]⟩),
  (59, ⟨.func, 1, 8, [.nilFunc]⟩),
  (60, ⟨.func, 1, 8, [.nilFunc]⟩),
  (61, ⟨.func, 1, 8, [.nilFunc]⟩),
  (62, ⟨.func, 1, 8, [.nilFunc]⟩),
  (63, ⟨.func, 1, 8, [.nilFunc]⟩),
  (64, ⟨.func, 1, 8, [.nilFunc]⟩),
  (65, ⟨.slice 42, 1, 24, [.slice none 0 0]⟩),
  (66, ⟨.func, 1, 8, [.nilFunc]⟩),
  (67, ⟨.slice 21, 1, 24, [.slice none 0 0]⟩),
  (68, ⟨.func, 1, 8, [.nilFunc]⟩),
  (70, ⟨.func, 1, 8, [.nilFunc]⟩),
  (71, ⟨.ptr 73, 1, 8, [.pointer none]⟩),
  (72, ⟨.struct [(0, 29), (16, 24), (17, 24), (18, 22), (19, 4), (20, 4)], 21, 328, [.string ⟨#[]⟩, .string ⟨#[]⟩, .int .i64 0, .slice none 0 0, .slice none 0 0, .string ⟨#[]⟩, .string ⟨#[]⟩, .string ⟨#[]⟩, .string ⟨#[]⟩, .bool false, .slice none 0 0, .int .i64 0, .string ⟨#[]⟩, .string ⟨#[]⟩, .string ⟨#[]⟩, .int .i64 0, .slice none 0 0, .slice none 0 0, .slice none 0 0, .bool false, .bool false]⟩),
  (73, ⟨.struct [(0, 29), (16, 24), (17, 24), (18, 22), (19, 4), (20, 4)], 21, 328, [.string ⟨#[]⟩, .string ⟨#[]⟩, .int .i64 0, .slice none 0 0, .slice none 0 0, .string ⟨#[]⟩, .string ⟨#[]⟩, .string ⟨#[]⟩, .string ⟨#[]⟩, .bool false, .slice none 0 0, .int .i64 0, .string ⟨#[]⟩, .string ⟨#[]⟩, .string ⟨#[]⟩, .int .i64 0, .slice none 0 0, .slice none 0 0, .slice none 0 0, .bool false, .bool false]⟩),
  (74, ⟨.struct [(0, 9), (1, 43), (2, 4)], 3, 48, [.string ⟨#[]⟩, .slice none 0 0, .bool false]⟩),
  (75, ⟨.struct [(0, 9), (1, 43), (2, 4)], 3, 48, [.string ⟨#[]⟩, .slice none 0 0, .bool false]⟩),
  (76, ⟨.func, 1, 8, [.nilFunc]⟩),
  (77, ⟨.func, 1, 8, [.nilFunc]⟩),
  (78, ⟨.func, 1, 8, [.nilFunc]⟩),
  (79, ⟨.func, 1, 8, [.nilFunc]⟩),
  (80, ⟨.func, 1, 8, [.nilFunc]⟩),
  (81, ⟨.func, 1, 8, [.nilFunc]⟩),
  (82, ⟨.ptr 84, 1, 8, [.pointer none]⟩),
  (83, ⟨.struct [(0, 82), (1, 56)], 2, 32, [.pointer none, .slice none 0 0]⟩),
  (84, ⟨.struct [(0, 82), (1, 56)], 2, 32, [.pointer none, .slice none 0 0]⟩),
  (86, ⟨.plain, 1, 16, [.nilIface]⟩),
  (87, ⟨.func, 1, 8, [.nilFunc]⟩),
  (88, ⟨.func, 1, 8, [.nilFunc]⟩),
  (90, ⟨.func, 1, 8, [.nilFunc]⟩),
  (91, ⟨.ptr 93, 1, 8, [.pointer none]⟩),
  (92, ⟨.struct [(0, 67), (1, 3)], 2, 32, [.slice none 0 0, .int .i64 0]⟩),
  (93, ⟨.struct [(0, 67), (1, 3)], 2, 32, [.slice none 0 0, .int .i64 0]⟩),
  (94, ⟨.func, 1, 8, [.nilFunc]⟩),
  (95, ⟨.func, 1, 8, [.nilFunc]⟩),
  (96, ⟨.func, 1, 8, [.nilFunc]⟩),
  (97, ⟨.func, 1, 8, [.nilFunc]⟩),
  (98, ⟨.func, 1, 8, [.nilFunc]⟩),
  (99, ⟨.ptr 9, 1, 8, [.pointer none]⟩),
  (100, ⟨.func, 1, 8, [.nilFunc]⟩),
  (102, ⟨.func, 1, 8, [.nilFunc]⟩),
  (103, ⟨.func, 1, 8, [.nilFunc]⟩),
  (104, ⟨.ptr 5, 1, 8, [.pointer none]⟩),
  (105, ⟨.func, 1, 8, [.nilFunc]⟩),
  (106, ⟨.func, 1, 8, [.nilFunc]⟩),
  (107, ⟨.func, 1, 8, [.nilFunc]⟩),
  (108, ⟨.func, 1, 8, [.nilFunc]⟩),
  (110, ⟨.func, 1, 8, [.nilFunc]⟩),
  (111, ⟨.func, 1, 8, [.nilFunc]⟩),
  (113, ⟨.func, 1, 8, [.nilFunc]⟩),
  (114, ⟨.func, 1, 8, [.nilFunc]⟩),
  (115, ⟨.slice 43, 1, 24, [.slice none 0 0]⟩),
  (116, ⟨.func, 1, 8, [.nilFunc]⟩),
  (117, ⟨.func, 1, 8, [.nilFunc]⟩),
  (119, ⟨.func, 1, 8, [.nilFunc]⟩),
  (120, ⟨.slice 122, 1, 24, [.slice none 0 0]⟩),
  (121, ⟨.struct [(0, 3), (1, 3)], 2, 16, [.int .i64 0, .int .i64 0]⟩),
  (122, ⟨.struct [(0, 3), (1, 3)], 2, 16, [.int .i64 0, .int .i64 0]⟩),
  (123, ⟨.int .u32, 1, 4, [.int .u32 0]⟩),
  (124, ⟨.func, 1, 8, [.nilFunc]⟩),
  (125, ⟨.ptr 135, 1, 8, [.pointer none]⟩),
  (128, ⟨.func, 1, 8, [.nilFunc]⟩),
  (129, ⟨.func, 1, 8, [.nilFunc]⟩),
  (130, ⟨.func, 1, 8, [.nilFunc]⟩),
  (131, ⟨.func, 1, 8, [.nilFunc]⟩),
  (132, ⟨.slice 138, 1, 24, [.slice none 0 0]⟩),
  (133, ⟨.slice 141, 1, 24, [.slice none 0 0]⟩),
  (134, ⟨.struct [(0, 132), (1, 133), (2, 3)], 3, 56, [.slice none 0 0, .slice none 0 0, .int .i64 0]⟩),
  (135, ⟨.struct [(0, 132), (1, 133), (2, 3)], 3, 56, [.slice none 0 0, .slice none 0 0, .int .i64 0]⟩),
  (136, ⟨.int .u16, 1, 2, [.int .u16 0]⟩),
  (137, ⟨.struct [(0, 136), (1, 136), (2, 136)], 3, 6, [.int .u16 0, .int .u16 0, .int .u16 0]⟩),
  (138, ⟨.struct [(0, 136), (1, 136), (2, 136)], 3, 6, [.int .u16 0, .int .u16 0, .int .u16 0]⟩),
  (139, ⟨.func, 1, 8, [.nilFunc]⟩),
  (140, ⟨.struct [(0, 123), (1, 123), (2, 123)], 3, 12, [.int .u32 0, .int .u32 0, .int .u32 0]⟩),
  (141, ⟨.struct [(0, 123), (1, 123), (2, 123)], 3, 12, [.int .u32 0, .int .u32 0, .int .u32 0]⟩),
  (142, ⟨.func, 1, 8, [.nilFunc]⟩),
  (143, ⟨.func, 1, 8, [.nilFunc]⟩),
  (144, ⟨.ptr 138, 1, 8, [.pointer none]⟩),
  (145, ⟨.int .u64, 1, 8, [.int .u64 0]⟩),
  (146, ⟨.ptr 141, 1, 8, [.pointer none]⟩),
  (152, ⟨.func, 1, 8, [.nilFunc]⟩)
]
theorem tab_ok : TyTab Tryd.prog tab := by
  unfold tab
  exact ⟨by kernel_rfl, by kernel_rfl, by kernel_rfl, by kernel_rfl, by kernel_rfl, by kernel_rfl, by kernel_rfl, by kernel_rfl, by kernel_rfl, by kernel_rfl, by kernel_rfl, by kernel_rfl, by kernel_rfl, by kernel_rfl, by kernel_rfl, by kernel_rfl, by kernel_rfl, by kernel_rfl, by kernel_rfl, by kernel_rfl, by kernel_rfl, by kernel_rfl, by kernel_rfl, by kernel_rfl, by kernel_rfl, by kernel_rfl, by kernel_rfl, by kernel_rfl, by kernel_rfl, by kernel_rfl, by kernel_rfl, by kernel_rfl, by kernel_rfl, by kernel_rfl, by kernel_rfl, by kernel_rfl, by kernel_rfl, by kernel_rfl, by kernel_rfl, by kernel_rfl, by kernel_rfl, by kernel_rfl, by kernel_rfl, by kernel_rfl, by kernel_rfl, by kernel_rfl, by kernel_rfl, by kernel_rfl, by kernel_rfl, by kernel_rfl, by kernel_rfl, by kernel_rfl, by kernel_rfl, by kernel_rfl, by kernel_rfl, by kernel_rfl, by kernel_rfl, by kernel_rfl, by kernel_rfl, by kernel_rfl, by kernel_rfl, by kernel_rfl, by kernel_rfl, by kernel_rfl, by kernel_rfl, by kernel_rfl, by kernel_rfl, by kernel_rfl, by kernel_rfl, by kernel_rfl, by kernel_rfl, by kernel_rfl, by kernel_rfl, by kernel_rfl, by kernel_rfl, by kernel_rfl, by kernel_rfl, by kernel_rfl, by kernel_rfl, by kernel_rfl, by kernel_rfl, by kernel_rfl, by kernel_rfl, by kernel_rfl, by kernel_rfl, by kernel_rfl, by kernel_rfl, by kernel_rfl, by kernel_rfl, by kernel_rfl, by kernel_rfl, by kernel_rfl, by kernel_rfl, by kernel_rfl, by kernel_rfl, by kernel_rfl, by kernel_rfl, by kernel_rfl, by kernel_rfl, by kernel_rfl, by kernel_rfl, by kernel_rfl, by kernel_rfl, by kernel_rfl, by kernel_rfl, by kernel_rfl, by kernel_rfl, by kernel_rfl, by kernel_rfl, by kernel_rfl, by kernel_rfl, by kernel_rfl, by kernel_rfl, by kernel_rfl, by kernel_rfl, by kernel_rfl, by kernel_rfl, by kernel_rfl, by kernel_rfl, by kernel_rfl, by kernel_rfl, by kernel_rfl, by kernel_rfl, by kernel_rfl, trivial⟩
theorem call6 : Callable Tryd.prog 6 := callable_of Tryd.func6 rfl (by kernel_rfl)
theorem call7 : Callable Tryd.prog 7 := callable_of Tryd.func7 rfl (by kernel_rfl)
theorem call8 : Callable Tryd.prog 8 := callable_of Tryd.func8 rfl (by kernel_rfl)
theorem call9 : Callable Tryd.prog 9 := callable_of Tryd.func9 rfl (by kernel_rfl)
theorem call10 : Callable Tryd.prog 10 := callable_of Tryd.func10 rfl (by kernel_rfl)
theorem call11 : Callable Tryd.prog 11 := callable_of Tryd.func11 rfl (by kernel_rfl)
theorem call12 : Callable Tryd.prog 12 := callable_of Tryd.func12 rfl (by kernel_rfl)
theorem call13 : Callable Tryd.prog 13 := callable_of Tryd.func13 rfl (by kernel_rfl)
theorem call14 : Callable Tryd.prog 14 := callable_of Tryd.func14 rfl (by kernel_rfl)
theorem call15 : Callable Tryd.prog 15 := callable_of Tryd.func15 rfl (by kernel_rfl)
theorem call16 : Callable Tryd.prog 16 := callable_of Tryd.func16 rfl (by kernel_rfl)
theorem call17 : Callable Tryd.prog 17 := callable_of Tryd.func17 rfl (by kernel_rfl)
theorem call18 : Callable Tryd.prog 18 := callable_of Tryd.func18 rfl (by kernel_rfl)
theorem call19 : Callable Tryd.prog 19 := callable_of Tryd.func19 rfl (by kernel_rfl)
theorem call20 : Callable Tryd.prog 20 := callable_of Tryd.func20 rfl (by kernel_rfl)
theorem call21 : Callable Tryd.prog 21 := callable_of Tryd.func21 rfl (by kernel_rfl)
theorem call22 : Callable Tryd.prog 22 := callable_of Tryd.func22 rfl (by kernel_rfl)
theorem call23 : Callable Tryd.prog 23 := callable_of Tryd.func23 rfl (by kernel_rfl)
theorem call24 : Callable Tryd.prog 24 := callable_of Tryd.func24 rfl (by kernel_rfl)
theorem call25 : Callable Tryd.prog 25 := callable_of Tryd.func25 rfl (by kernel_rfl)
theorem call26 : Callable Tryd.prog 26 := callable_of Tryd.func26 rfl (by kernel_rfl)
theorem call27 : Callable Tryd.prog 27 := callable_of Tryd.func27 rfl (by kernel_rfl)
theorem call28 : Callable Tryd.prog 28 := callable_of Tryd.func28 rfl (by kernel_rfl)
theorem call29 : Callable Tryd.prog 29 := callable_of Tryd.func29 rfl (by kernel_rfl)
theorem call30 : Callable Tryd.prog 30 := callable_of Tryd.func30 rfl (by kernel_rfl)
theorem call31 : Callable Tryd.prog 31 := callable_of Tryd.func31 rfl (by kernel_rfl)
theorem call32 : Callable Tryd.prog 32 := callable_of Tryd.func32 rfl (by kernel_rfl)
theorem call33 : Callable Tryd.prog 33 := callable_of Tryd.func33 rfl (by kernel_rfl)
theorem call34 : Callable Tryd.prog 34 := callable_of Tryd.func34 rfl (by kernel_rfl)
theorem call35 : Callable Tryd.prog 35 := callable_of Tryd.func35 rfl (by kernel_rfl)
theorem call36 : Callable Tryd.prog 36 := callable_of Tryd.func36 rfl (by kernel_rfl)
theorem call37 : Callable Tryd.prog 37 := callable_of Tryd.func37 rfl (by kernel_rfl)
theorem call38 : Callable Tryd.prog 38 := callable_of Tryd.func38 rfl (by kernel_rfl)
theorem call39 : Callable Tryd.prog 39 := callable_of Tryd.func39 rfl (by kernel_rfl)
theorem call40 : Callable Tryd.prog 40 := callable_of Tryd.func40 rfl (by kernel_rfl)
theorem call41 : Callable Tryd.prog 41 := callable_of Tryd.func41 rfl (by kernel_rfl)
theorem call42 : Callable Tryd.prog 42 := callable_of Tryd.func42 rfl (by kernel_rfl)
theorem call43 : Callable Tryd.prog 43 := callable_of Tryd.func43 rfl (by kernel_rfl)
theorem call44 : Callable Tryd.prog 44 := callable_of Tryd.func44 rfl (by kernel_rfl)
theorem call45 : Callable Tryd.prog 45 := callable_of Tryd.func45 rfl (by kernel_rfl)
theorem call46 : Callable Tryd.prog 46 := callable_of Tryd.func46 rfl (by kernel_rfl)
theorem call47 : Callable Tryd.prog 47 := callable_of Tryd.func47 rfl (by kernel_rfl)
theorem call48 : Callable Tryd.prog 48 := callable_of Tryd.func48 rfl (by kernel_rfl)
theorem call49 : Callable Tryd.prog 49 := callable_of Tryd.func49 rfl (by kernel_rfl)
theorem call50 : Callable Tryd.prog 50 := callable_of Tryd.func50 rfl (by kernel_rfl)
theorem call51 : Callable Tryd.prog 51 := callable_of Tryd.func51 rfl (by kernel_rfl)
theorem call52 : Callable Tryd.prog 52 := callable_of Tryd.func52 rfl (by kernel_rfl)
theorem call53 : Callable Tryd.prog 53 := callable_of Tryd.func53 rfl (by kernel_rfl)
theorem call54 : Callable Tryd.prog 54 := callable_of Tryd.func54 rfl (by kernel_rfl)
theorem call55 : Callable Tryd.prog 55 := callable_of Tryd.func55 rfl (by kernel_rfl)
theorem call56 : Callable Tryd.prog 56 := callable_of Tryd.func56 rfl (by kernel_rfl)
theorem call57 : Callable Tryd.prog 57 := callable_of Tryd.func57 rfl (by kernel_rfl)
theorem call58 : Callable Tryd.prog 58 := callable_of Tryd.func58 rfl (by kernel_rfl)
theorem call61 : Callable Tryd.prog 61 := callable_of Tryd.func61 rfl (by kernel_rfl)
theorem call62 : Callable Tryd.prog 62 := callable_of Tryd.func62 rfl (by kernel_rfl)
theorem call63 : Callable Tryd.prog 63 := callable_of Tryd.func63 rfl (by kernel_rfl)
theorem call64 : Callable Tryd.prog 64 := callable_of Tryd.func64 rfl (by kernel_rfl)
theorem call65 : Callable Tryd.prog 65 := callable_of Tryd.func65 rfl (by kernel_rfl)
theorem call66 : Callable Tryd.prog 66 := callable_of Tryd.func66 rfl (by kernel_rfl)
theorem call67 : Callable Tryd.prog 67 := callable_of Tryd.func67 rfl (by kernel_rfl)
theorem call68 : Callable Tryd.prog 68 := callable_of Tryd.func68 rfl (by kernel_rfl)
theorem call69 : Callable Tryd.prog 69 := callable_of Tryd.func69 rfl (by kernel_rfl)
theorem call70 : Callable Tryd.prog 70 := callable_of Tryd.func70 rfl (by kernel_rfl)
theorem call71 : Callable Tryd.prog 71 := callable_of Tryd.func71 rfl (by kernel_rfl)
theorem call72 : Callable Tryd.prog 72 := callable_of Tryd.func72 rfl (by kernel_rfl)
theorem call73 : Callable Tryd.prog 73 := callable_of Tryd.func73 rfl (by kernel_rfl)
theorem call74 : Callable Tryd.prog 74 := callable_of Tryd.func74 rfl (by kernel_rfl)
theorem call75 : Callable Tryd.prog 75 := callable_of Tryd.func75 rfl (by kernel_rfl)
theorem call76 : Callable Tryd.prog 76 := callable_of Tryd.func76 rfl (by kernel_rfl)
theorem call77 : Callable Tryd.prog 77 := callable_of Tryd.func77 rfl (by kernel_rfl)
theorem call78 : Callable Tryd.prog 78 := callable_of Tryd.func78 rfl (by kernel_rfl)
theorem call79 : Callable Tryd.prog 79 := callable_of Tryd.func79 rfl (by kernel_rfl)
theorem call80 : Callable Tryd.prog 80 := callable_of Tryd.func80 rfl (by kernel_rfl)
theorem call81 : Callable Tryd.prog 81 := callable_of Tryd.func81 rfl (by kernel_rfl)
theorem call82 : Callable Tryd.prog 82 := callable_of Tryd.func82 rfl (by kernel_rfl)
theorem call85 : Callable Tryd.prog 85 := callable_of Tryd.func85 rfl (by kernel_rfl)
theorem call86 : Callable Tryd.prog 86 := callable_of Tryd.func86 rfl (by kernel_rfl)
theorem call87 : Callable Tryd.prog 87 := callable_of Tryd.func87 rfl (by kernel_rfl)
theorem call88 : Callable Tryd.prog 88 := callable_of Tryd.func88 rfl (by kernel_rfl)
theorem call89 : Callable Tryd.prog 89 := callable_of Tryd.func89 rfl (by kernel_rfl)
theorem call90 : Callable Tryd.prog 90 := callable_of Tryd.func90 rfl (by kernel_rfl)
theorem call91 : Callable Tryd.prog 91 := callable_of Tryd.func91 rfl (by kernel_rfl)
theorem call94 : Callable Tryd.prog 94 := callable_of Tryd.func94 rfl (by kernel_rfl)
theorem call95 : Callable Tryd.prog 95 := callable_of Tryd.func95 rfl (by kernel_rfl)
theorem call96 : Callable Tryd.prog 96 := callable_of Tryd.func96 rfl (by kernel_rfl)
theorem mixed_ok : Tryd.prog.follows .mixedOrders = true := by kernel_rfl
end Go.Proofs.YtihakfihojickaaDoor
