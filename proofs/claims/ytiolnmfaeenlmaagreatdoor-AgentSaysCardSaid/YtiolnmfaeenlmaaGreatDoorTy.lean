/- The types of this translation, as far as walks ask for them: a table, checked against the program by the kernel. Written by a program of this repo (gen.py). -/
import Derived.Test.YtiolnmfaeenlmaaGreatDoorEj
import Derived.Test.YtiolnmfaeenlmaaGreatDoorRows
namespace Go.Proofs.YtiolnmfaeenlmaaGreatDoor
open Go

def tab : List (Nat × TE) := [
  (1, ⟨.func, 1, 8, [.nilFunc]⟩),
  (2, ⟨.int .i64, 1, 8, [.int .i64 0]⟩),
  (3, ⟨.int .i64, 1, 8, [.int .i64 0]⟩),
  (4, ⟨.bool, 1, 1, [.bool false]⟩),
  (5, ⟨.int .u8, 1, 1, [.int .u8 0]⟩),
  (9, ⟨.str, 1, 16, [.string ⟨#[]⟩]⟩),
  (12, ⟨.int .u64, 1, 8, [.int .u64 0]⟩),
  (13, ⟨.struct [(0, 9), (1, 12)], 2, 24, [.string ⟨#[]⟩, .int .u64 0]⟩),
  (21, ⟨.int .i32, 1, 4, [.int .i32 0]⟩),
  (22, ⟨.slice 5, 1, 24, [.slice none 0 0]⟩),
  (23, ⟨.func, 1, 8, [.nilFunc]⟩),
  (24, ⟨.slice 45, 1, 24, [.slice none 0 0]⟩),
  (25, ⟨.int .i64, 1, 8, [.int .i64 0]⟩),
  (27, ⟨.func, 1, 8, [.nilFunc]⟩),
  (29, ⟨.func, 1, 8, [.nilFunc]⟩),
  (30, ⟨.slice 49, 1, 24, [.slice none 0 0]⟩),
  (31, ⟨.func, 1, 8, [.nilFunc]⟩),
  (33, ⟨.func, 1, 8, [.nilFunc]⟩),
  (34, ⟨.func, 1, 8, [.nilFunc]⟩),
  (35, ⟨.func, 1, 8, [.nilFunc]⟩),
  (36, ⟨.slice 51, 1, 24, [.slice none 0 0]⟩),
  (37, ⟨.func, 1, 8, [.nilFunc]⟩),
  (38, ⟨.func, 1, 8, [.nilFunc]⟩),
  (39, ⟨.func, 1, 8, [.nilFunc]⟩),
  (40, ⟨.slice 3, 1, 24, [.slice none 0 0]⟩),
  (41, ⟨.slice 9, 1, 24, [.slice none 0 0]⟩),
  (42, ⟨.func, 1, 8, [.nilFunc]⟩),
  (43, ⟨.func, 1, 8, [.nilFunc]⟩),
  (44, ⟨.struct [(0, 9), (1, 30), (2, 4), (3, 36)], 4, 72, [.string ⟨#[]⟩, .slice none 0 0, .bool false, .slice none 0 0]⟩),
  (45, ⟨.struct [(0, 9), (1, 30), (2, 4), (3, 36)], 4, 72, [.string ⟨#[]⟩, .slice none 0 0, .bool false, .slice none 0 0]⟩),
  (46, ⟨.struct [(0, 3), (1, 9), (2, 3), (3, 4), (4, 4), (5, 4)], 6, 40, [.int .i64 0, .string ⟨#[]⟩, .int .i64 0, .bool false, .bool false, .bool false]⟩),
  (47, ⟨.struct [(0, 3), (1, 9), (2, 3), (3, 4), (4, 4), (5, 4)], 6, 40, [.int .i64 0, .string ⟨#[]⟩, .int .i64 0, .bool false, .bool false, .bool false]⟩),
  (48, ⟨.struct [(0, 47), (6, 30)], 7, 64, [.int .i64 0, .string ⟨#[]⟩, .int .i64 0, .bool false, .bool false, .bool false, .slice none 0 0]⟩),
  (49, ⟨.struct [(0, 47), (6, 30)], 7, 64, [.int .i64 0, .string ⟨#[]⟩, .int .i64 0, .bool false, .bool false, .bool false, .slice none 0 0]⟩),
  (50, ⟨.struct [(0, 9), (1, 30), (2, 4)], 3, 48, [.string ⟨#[]⟩, .slice none 0 0, .bool false]⟩),
  (51, ⟨.struct [(0, 9), (1, 30), (2, 4)], 3, 48, [.string ⟨#[]⟩, .slice none 0 0, .bool false]⟩),
  (52, ⟨.func, 1, 8, [.nilFunc]⟩),
  (53, ⟨.func, 1, 8, [.nilFunc]⟩),
  (54, ⟨.func, 1, 8, [.nilFunc]⟩),
  (55, ⟨.func, 1, 8, [.nilFunc]⟩),
  (56, ⟨.func, 1, 8, [.nilFunc]⟩),
  (57, ⟨.func, 1, 8, [.nilFunc]⟩),
  (58, ⟨.func, 1, 8, [.nilFunc]⟩),
  (59, ⟨.slice 47, 1, 24, [.slice none 0 0]⟩),
  (60, ⟨.func, 1, 8, [.nilFunc]⟩),
  (61, ⟨.slice 21, 1, 24, [.slice none 0 0]⟩),
  (62, ⟨.func, 1, 8, [.nilFunc]⟩),
  (63, ⟨.func, 1, 8, [.nilFunc]⟩),
  (65, ⟨.func, 1, 8, [.nilFunc]⟩),
  (66, ⟨.func, 1, 8, [.nilFunc]⟩),
  (67, ⟨.func, 1, 8, [.nilFunc]⟩),
  (68, ⟨.func, 1, 8, [.nilFunc]⟩),
  (69, ⟨.func, 1, 8, [.nilFunc]⟩),
  (70, ⟨.func, 1, 8, [.nilFunc]⟩),
  (71, ⟨.func, 1, 8, [.nilFunc]⟩),
  (72, ⟨.int .u64, 1, 8, [.int .u64 0]⟩),
  (73, ⟨.func, 1, 8, [.nilFunc]⟩),
  (75, ⟨.func, 1, 8, [.nilFunc]⟩),
  (76, ⟨.ptr 78, 1, 8, [.pointer none]⟩),
  (77, ⟨.struct [(0, 61), (1, 3)], 2, 32, [.slice none 0 0, .int .i64 0]⟩),
  (78, ⟨.struct [(0, 61), (1, 3)], 2, 32, [.slice none 0 0, .int .i64 0]⟩),
  (80, ⟨.func, 1, 8, [.nilFunc]⟩),
  (81, ⟨.func, 1, 8, [.nilFunc]⟩),
  (82, ⟨.ptr 84, 1, 8, [.pointer none]⟩),
  (83, ⟨.struct [(0, 61), (1, 3)], 2, 32, [.slice none 0 0, .int .i64 0]⟩),
  (84, ⟨.struct [(0, 61), (1, 3)], 2, 32, [.slice none 0 0, .int .i64 0]⟩),
  (85, ⟨.func, 1, 8, [.nilFunc]⟩),
  (86, ⟨.func, 1, 8, [.nilFunc]⟩),
  (87, ⟨.ptr 89, 1, 8, [.pointer none]⟩),
  (88, ⟨.struct [(0, 87), (1, 22)], 2, 32, [.pointer none, .slice none 0 0]⟩),
  (89, ⟨.struct [(0, 87), (1, 22)], 2, 32, [.pointer none, .slice none 0 0]⟩),
  (91, ⟨.plain, 1, 16, [.nilIface]⟩),
  (92, ⟨.func, 1, 8, [.nilFunc]⟩),
  (93, ⟨.func, 1, 8, [.nilFunc]⟩),
  (94, ⟨.func, 1, 8, [.nilFunc]⟩),
  (95, ⟨.slice 99, 1, 24, [.slice none 0 0]⟩),
  (96, ⟨.func, 1, 8, [.nilFunc]⟩),
  (97, ⟨.func, 1, 8, [.nilFunc]⟩),
  (98, ⟨.struct [(0, 49), (7, 9)], 8, 80, [.int .i64 0, .string ⟨#[]⟩, .int .i64 0, .bool false, .bool false, .bool false, .slice none 0 0, .string ⟨#[]⟩]⟩),
  (99, ⟨.struct [(0, 49), (7, 9)], 8, 80, [.int .i64 0, .string ⟨#[]⟩, .int .i64 0, .bool false, .bool false, .bool false, .slice none 0 0, .string ⟨#[]⟩]⟩),
  (100, ⟨.func, 1, 8, [.nilFunc]⟩),
  (101, ⟨.func, 1, 8, [.nilFunc]⟩),
  (102, ⟨.func, 1, 8, [.nilFunc]⟩),
  (103, ⟨.func, 1, 8, [.nilFunc]⟩),
  (104, ⟨.func, 1, 8, [.nilFunc]⟩),
  (105, ⟨.ptr 5, 1, 8, [.pointer none]⟩),
  (106, ⟨.func, 1, 8, [.nilFunc]⟩),
  (108, ⟨.func, 1, 8, [.nilFunc]⟩),
  (109, ⟨.func, 1, 8, [.nilFunc]⟩),
  (110, ⟨.func, 1, 8, [.nilFunc]⟩),
  (114, ⟨.func, 1, 8, [.nilFunc]⟩),
  (115, ⟨.func, 1, 8, [.nilFunc]⟩),
  (116, ⟨.func, 1, 8, [.nilFunc]⟩),
  (120, ⟨.func, 1, 8, [.nilFunc]⟩),
  (121, ⟨.func, 1, 8, [.nilFunc]⟩),
  (122, ⟨.ptr 118, 1, 8, [.pointer none]⟩),
  (123, ⟨.func, 1, 8, [.nilFunc]⟩),
  (125, ⟨.func, 1, 8, [.nilFunc]⟩),
  (126, ⟨.func, 1, 8, [.nilFunc]⟩),
  (127, ⟨.func, 1, 8, [.nilFunc]⟩),
  (129, ⟨.int .u64, 1, 8, [.int .u64 0]⟩),
  (130, ⟨.struct [(0, 5), (1, 5)], 2, 2, [.int .u8 0, .int .u8 0]⟩),
  (131, ⟨.struct [(0, 5), (1, 5)], 2, 2, [.int .u8 0, .int .u8 0]⟩),
  (132, ⟨.array 16 131, 32, 32, [.int .u8 0, .int .u8 0, .int .u8 0, .int .u8 0, .int .u8 0, .int .u8 0, .int .u8 0, .int .u8 0, .int .u8 0, .int .u8 0, .int .u8 0, .int .u8 0, .int .u8 0, .int .u8 0, .int .u8 0, .int .u8 0, .int .u8 0, .int .u8 0, .int .u8 0, .int .u8 0, .int .u8 0, .int .u8 0, .int .u8 0, .int .u8 0, .int .u8 0, .int .u8 0, .int .u8 0, .int .u8 0, .int .u8 0, .int .u8 0, .int .u8 0, .int .u8 0]⟩),
  (133, ⟨.func, 1, 8, [.nilFunc]⟩),
  (134, ⟨.func, 1, 8, [.nilFunc]⟩),
  (135, ⟨.func, 1, 8, [.nilFunc]⟩),
  (141, ⟨.func, 1, 8, [.nilFunc]⟩),
  (142, ⟨.int .u32, 1, 4, [.int .u32 0]⟩)
]
theorem tab_ok : TyTab Tryz.prog tab := by
  unfold tab
  exact ⟨by kernel_rfl, by kernel_rfl, by kernel_rfl, by kernel_rfl, by kernel_rfl, by kernel_rfl, by kernel_rfl, by kernel_rfl, by kernel_rfl, by kernel_rfl, by kernel_rfl, by kernel_rfl, by kernel_rfl, by kernel_rfl, by kernel_rfl, by kernel_rfl, by kernel_rfl, by kernel_rfl, by kernel_rfl, by kernel_rfl, by kernel_rfl, by kernel_rfl, by kernel_rfl, by kernel_rfl, by kernel_rfl, by kernel_rfl, by kernel_rfl, by kernel_rfl, by kernel_rfl, by kernel_rfl, by kernel_rfl, by kernel_rfl, by kernel_rfl, by kernel_rfl, by kernel_rfl, by kernel_rfl, by kernel_rfl, by kernel_rfl, by kernel_rfl, by kernel_rfl, by kernel_rfl, by kernel_rfl, by kernel_rfl, by kernel_rfl, by kernel_rfl, by kernel_rfl, by kernel_rfl, by kernel_rfl, by kernel_rfl, by kernel_rfl, by kernel_rfl, by kernel_rfl, by kernel_rfl, by kernel_rfl, by kernel_rfl, by kernel_rfl, by kernel_rfl, by kernel_rfl, by kernel_rfl, by kernel_rfl, by kernel_rfl, by kernel_rfl, by kernel_rfl, by kernel_rfl, by kernel_rfl, by kernel_rfl, by kernel_rfl, by kernel_rfl, by kernel_rfl, by kernel_rfl, by kernel_rfl, by kernel_rfl, by kernel_rfl, by kernel_rfl, by kernel_rfl, by kernel_rfl, by kernel_rfl, by kernel_rfl, by kernel_rfl, by kernel_rfl, by kernel_rfl, by kernel_rfl, by kernel_rfl, by kernel_rfl, by kernel_rfl, by kernel_rfl, by kernel_rfl, by kernel_rfl, by kernel_rfl, by kernel_rfl, by kernel_rfl, by kernel_rfl, by kernel_rfl, by kernel_rfl, by kernel_rfl, by kernel_rfl, by kernel_rfl, by kernel_rfl, by kernel_rfl, by kernel_rfl, by kernel_rfl, by kernel_rfl, by kernel_rfl, by kernel_rfl, by kernel_rfl, by kernel_rfl, by kernel_rfl, by kernel_rfl, by kernel_rfl, trivial⟩
theorem call12 : Callable Tryz.prog 12 := callable_of Tryz.func12 rfl (by kernel_rfl)
theorem call13 : Callable Tryz.prog 13 := callable_of Tryz.func13 rfl (by kernel_rfl)
theorem call15 : Callable Tryz.prog 15 := callable_of Tryz.func15 rfl (by kernel_rfl)
theorem call16 : Callable Tryz.prog 16 := callable_of Tryz.func16 rfl (by kernel_rfl)
theorem call17 : Callable Tryz.prog 17 := callable_of Tryz.func17 rfl (by kernel_rfl)
theorem call18 : Callable Tryz.prog 18 := callable_of Tryz.func18 rfl (by kernel_rfl)
theorem call19 : Callable Tryz.prog 19 := callable_of Tryz.func19 rfl (by kernel_rfl)
theorem call20 : Callable Tryz.prog 20 := callable_of Tryz.func20 rfl (by kernel_rfl)
theorem call21 : Callable Tryz.prog 21 := callable_of Tryz.func21 rfl (by kernel_rfl)
theorem call24 : Callable Tryz.prog 24 := callable_of Tryz.func24 rfl (by kernel_rfl)
theorem call25 : Callable Tryz.prog 25 := callable_of Tryz.func25 rfl (by kernel_rfl)
theorem call26 : Callable Tryz.prog 26 := callable_of Tryz.func26 rfl (by kernel_rfl)
theorem call27 : Callable Tryz.prog 27 := callable_of Tryz.func27 rfl (by kernel_rfl)
theorem call28 : Callable Tryz.prog 28 := callable_of Tryz.func28 rfl (by kernel_rfl)
theorem call29 : Callable Tryz.prog 29 := callable_of Tryz.func29 rfl (by kernel_rfl)
theorem call30 : Callable Tryz.prog 30 := callable_of Tryz.func30 rfl (by kernel_rfl)
theorem call31 : Callable Tryz.prog 31 := callable_of Tryz.func31 rfl (by kernel_rfl)
theorem call32 : Callable Tryz.prog 32 := callable_of Tryz.func32 rfl (by kernel_rfl)
theorem call33 : Callable Tryz.prog 33 := callable_of Tryz.func33 rfl (by kernel_rfl)
theorem call34 : Callable Tryz.prog 34 := callable_of Tryz.func34 rfl (by kernel_rfl)
theorem call35 : Callable Tryz.prog 35 := callable_of Tryz.func35 rfl (by kernel_rfl)
theorem call36 : Callable Tryz.prog 36 := callable_of Tryz.func36 rfl (by kernel_rfl)
theorem call37 : Callable Tryz.prog 37 := callable_of Tryz.func37 rfl (by kernel_rfl)
theorem call38 : Callable Tryz.prog 38 := callable_of Tryz.func38 rfl (by kernel_rfl)
theorem call39 : Callable Tryz.prog 39 := callable_of Tryz.func39 rfl (by kernel_rfl)
theorem call40 : Callable Tryz.prog 40 := callable_of Tryz.func40 rfl (by kernel_rfl)
theorem call41 : Callable Tryz.prog 41 := callable_of Tryz.func41 rfl (by kernel_rfl)
theorem call42 : Callable Tryz.prog 42 := callable_of Tryz.func42 rfl (by kernel_rfl)
theorem call43 : Callable Tryz.prog 43 := callable_of Tryz.func43 rfl (by kernel_rfl)
theorem call44 : Callable Tryz.prog 44 := callable_of Tryz.func44 rfl (by kernel_rfl)
theorem call45 : Callable Tryz.prog 45 := callable_of Tryz.func45 rfl (by kernel_rfl)
theorem call46 : Callable Tryz.prog 46 := callable_of Tryz.func46 rfl (by kernel_rfl)
theorem call47 : Callable Tryz.prog 47 := callable_of Tryz.func47 rfl (by kernel_rfl)
theorem call48 : Callable Tryz.prog 48 := callable_of Tryz.func48 rfl (by kernel_rfl)
theorem call49 : Callable Tryz.prog 49 := callable_of Tryz.func49 rfl (by kernel_rfl)
theorem call50 : Callable Tryz.prog 50 := callable_of Tryz.func50 rfl (by kernel_rfl)
theorem call51 : Callable Tryz.prog 51 := callable_of Tryz.func51 rfl (by kernel_rfl)
theorem call52 : Callable Tryz.prog 52 := callable_of Tryz.func52 rfl (by kernel_rfl)
theorem call53 : Callable Tryz.prog 53 := callable_of Tryz.func53 rfl (by kernel_rfl)
theorem call54 : Callable Tryz.prog 54 := callable_of Tryz.func54 rfl (by kernel_rfl)
theorem call55 : Callable Tryz.prog 55 := callable_of Tryz.func55 rfl (by kernel_rfl)
theorem call56 : Callable Tryz.prog 56 := callable_of Tryz.func56 rfl (by kernel_rfl)
theorem call57 : Callable Tryz.prog 57 := callable_of Tryz.func57 rfl (by kernel_rfl)
theorem call58 : Callable Tryz.prog 58 := callable_of Tryz.func58 rfl (by kernel_rfl)
theorem call59 : Callable Tryz.prog 59 := callable_of Tryz.func59 rfl (by kernel_rfl)
theorem call60 : Callable Tryz.prog 60 := callable_of Tryz.func60 rfl (by kernel_rfl)
theorem call61 : Callable Tryz.prog 61 := callable_of Tryz.func61 rfl (by kernel_rfl)
theorem call62 : Callable Tryz.prog 62 := callable_of Tryz.func62 rfl (by kernel_rfl)
theorem call63 : Callable Tryz.prog 63 := callable_of Tryz.func63 rfl (by kernel_rfl)
theorem call64 : Callable Tryz.prog 64 := callable_of Tryz.func64 rfl (by kernel_rfl)
theorem call65 : Callable Tryz.prog 65 := callable_of Tryz.func65 rfl (by kernel_rfl)
theorem call66 : Callable Tryz.prog 66 := callable_of Tryz.func66 rfl (by kernel_rfl)
theorem call67 : Callable Tryz.prog 67 := callable_of Tryz.func67 rfl (by kernel_rfl)
theorem call68 : Callable Tryz.prog 68 := callable_of Tryz.func68 rfl (by kernel_rfl)
theorem call69 : Callable Tryz.prog 69 := callable_of Tryz.func69 rfl (by kernel_rfl)
theorem call70 : Callable Tryz.prog 70 := callable_of Tryz.func70 rfl (by kernel_rfl)
theorem call71 : Callable Tryz.prog 71 := callable_of Tryz.func71 rfl (by kernel_rfl)
theorem call72 : Callable Tryz.prog 72 := callable_of Tryz.func72 rfl (by kernel_rfl)
theorem call73 : Callable Tryz.prog 73 := callable_of Tryz.func73 rfl (by kernel_rfl)
theorem call74 : Callable Tryz.prog 74 := callable_of Tryz.func74 rfl (by kernel_rfl)
theorem call75 : Callable Tryz.prog 75 := callable_of Tryz.func75 rfl (by kernel_rfl)
theorem call76 : Callable Tryz.prog 76 := callable_of Tryz.func76 rfl (by kernel_rfl)
theorem call77 : Callable Tryz.prog 77 := callable_of Tryz.func77 rfl (by kernel_rfl)
theorem call78 : Callable Tryz.prog 78 := callable_of Tryz.func78 rfl (by kernel_rfl)
theorem call79 : Callable Tryz.prog 79 := callable_of Tryz.func79 rfl (by kernel_rfl)
theorem call80 : Callable Tryz.prog 80 := callable_of Tryz.func80 rfl (by kernel_rfl)
theorem call81 : Callable Tryz.prog 81 := callable_of Tryz.func81 rfl (by kernel_rfl)
theorem call82 : Callable Tryz.prog 82 := callable_of Tryz.func82 rfl (by kernel_rfl)
theorem call83 : Callable Tryz.prog 83 := callable_of Tryz.func83 rfl (by kernel_rfl)
theorem call84 : Callable Tryz.prog 84 := callable_of Tryz.func84 rfl (by kernel_rfl)
theorem call85 : Callable Tryz.prog 85 := callable_of Tryz.func85 rfl (by kernel_rfl)
theorem call86 : Callable Tryz.prog 86 := callable_of Tryz.func86 rfl (by kernel_rfl)
theorem call87 : Callable Tryz.prog 87 := callable_of Tryz.func87 rfl (by kernel_rfl)
theorem call88 : Callable Tryz.prog 88 := callable_of Tryz.func88 rfl (by kernel_rfl)
theorem call89 : Callable Tryz.prog 89 := callable_of Tryz.func89 rfl (by kernel_rfl)
theorem call90 : Callable Tryz.prog 90 := callable_of Tryz.func90 rfl (by kernel_rfl)
theorem call91 : Callable Tryz.prog 91 := callable_of Tryz.func91 rfl (by kernel_rfl)
theorem call92 : Callable Tryz.prog 92 := callable_of Tryz.func92 rfl (by kernel_rfl)
theorem call93 : Callable Tryz.prog 93 := callable_of Tryz.func93 rfl (by kernel_rfl)
theorem call94 : Callable Tryz.prog 94 := callable_of Tryz.func94 rfl (by kernel_rfl)
theorem call95 : Callable Tryz.prog 95 := callable_of Tryz.func95 rfl (by kernel_rfl)
theorem call96 : Callable Tryz.prog 96 := callable_of Tryz.func96 rfl (by kernel_rfl)
theorem call97 : Callable Tryz.prog 97 := callable_of Tryz.func97 rfl (by kernel_rfl)
theorem call98 : Callable Tryz.prog 98 := callable_of Tryz.func98 rfl (by kernel_rfl)
theorem call99 : Callable Tryz.prog 99 := callable_of Tryz.func99 rfl (by kernel_rfl)
theorem call100 : Callable Tryz.prog 100 := callable_of Tryz.func100 rfl (by kernel_rfl)
theorem call101 : Callable Tryz.prog 101 := callable_of Tryz.func101 rfl (by kernel_rfl)
theorem call102 : Callable Tryz.prog 102 := callable_of Tryz.func102 rfl (by kernel_rfl)
theorem call103 : Callable Tryz.prog 103 := callable_of Tryz.func103 rfl (by kernel_rfl)
theorem call104 : Callable Tryz.prog 104 := callable_of Tryz.func104 rfl (by kernel_rfl)
theorem call105 : Callable Tryz.prog 105 := callable_of Tryz.func105 rfl (by kernel_rfl)
theorem call106 : Callable Tryz.prog 106 := callable_of Tryz.func106 rfl (by kernel_rfl)
theorem call107 : Callable Tryz.prog 107 := callable_of Tryz.func107 rfl (by kernel_rfl)
theorem call108 : Callable Tryz.prog 108 := callable_of Tryz.func108 rfl (by kernel_rfl)
theorem call109 : Callable Tryz.prog 109 := callable_of Tryz.func109 rfl (by kernel_rfl)
theorem call110 : Callable Tryz.prog 110 := callable_of Tryz.func110 rfl (by kernel_rfl)
theorem call112 : Callable Tryz.prog 112 := callable_of Tryz.func112 rfl (by kernel_rfl)
theorem call113 : Callable Tryz.prog 113 := callable_of Tryz.func113 rfl (by kernel_rfl)
theorem call114 : Callable Tryz.prog 114 := callable_of Tryz.func114 rfl (by kernel_rfl)
theorem call115 : Callable Tryz.prog 115 := callable_of Tryz.func115 rfl (by kernel_rfl)
theorem call116 : Callable Tryz.prog 116 := callable_of Tryz.func116 rfl (by kernel_rfl)
theorem call117 : Callable Tryz.prog 117 := callable_of Tryz.func117 rfl (by kernel_rfl)
theorem call118 : Callable Tryz.prog 118 := callable_of Tryz.func118 rfl (by kernel_rfl)
theorem call120 : Callable Tryz.prog 120 := callable_of Tryz.func120 rfl (by kernel_rfl)
theorem call121 : Callable Tryz.prog 121 := callable_of Tryz.func121 rfl (by kernel_rfl)
theorem call123 : Callable Tryz.prog 123 := callable_of Tryz.func123 rfl (by kernel_rfl)
theorem mixed_ok : Tryz.prog.follows .mixedOrders = true := by kernel_rfl
end Go.Proofs.YtiolnmfaeenlmaaGreatDoor
