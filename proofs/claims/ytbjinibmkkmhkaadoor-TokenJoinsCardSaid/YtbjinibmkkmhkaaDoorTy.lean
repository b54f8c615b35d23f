/- The types of this translation, as far as walks ask for them: a table, checked against the program by the kernel. Written by a program of this repo (gen.py). -/
import Derived.Test.YtbjinibmkkmhkaaDoorEj
import Derived.Test.YtbjinibmkkmhkaaDoorRows
namespace Go.Proofs.YtbjinibmkkmhkaaDoor
open Go

def tab : List (Nat × TE) := [
  (1, ⟨.func, 1, 8, [.nilFunc]⟩),
  (2, ⟨.int .i64, 1, 8, [.int .i64 0]⟩),
  (3, ⟨.int .i64, 1, 8, [.int .i64 0]⟩),
  (4, ⟨.bool, 1, 1, [.bool false]⟩),
  (5, ⟨.int .u8, 1, 1, [.int .u8 0]⟩),
  (9, ⟨.str, 1, 16, [.string ⟨#[]⟩]⟩),
  (12, ⟨.int .u64, 1, 8, [.int .u64 0]⟩),
  (13, ⟨.struct [(0, 9), (1, 12)], 2, 24, [.string ⟨#[]⟩, .int .u64 0]⟩),
  (21, ⟨.int .i32, 1, 4, [.int .i32 0]⟩),
  (22, ⟨.func, 1, 8, [.nilFunc]⟩),
  (23, ⟨.slice 21, 1, 24, [.slice none 0 0]⟩),
  (24, ⟨.func, 1, 8, [.nilFunc]⟩),
  (25, ⟨.slice 5, 1, 24, [.slice none 0 0]⟩),
  (26, ⟨.func, 1, 8, [.nilFunc]⟩),
  (27, ⟨.slice 33, 1, 24, [.slice none 0 0]⟩),
  (28, ⟨.func, 1, 8, [.nilFunc]⟩),
  (29, ⟨.func, 1, 8, [.nilFunc]⟩),
  (30, ⟨.func, 1, 8, [.nilFunc]⟩),
  (31, ⟨.func, 1, 8, [.nilFunc]⟩),
  (32, ⟨.struct [(0, 3), (1, 9), (2, 3), (3, 4), (4, 4), (5, 4)], 6, 40, [.int .i64 0, .string ⟨#[]⟩, .int .i64 0, .bool false, .bool false, .bool false]⟩),
  (33, ⟨.struct [(0, 3), (1, 9), (2, 3), (3, 4), (4, 4), (5, 4)], 6, 40, [.int .i64 0, .string ⟨#[]⟩, .int .i64 0, .bool false, .bool false, .bool false]⟩),
  (34, ⟨.func, 1, 8, [.nilFunc]⟩),
  (35, ⟨.func, 1, 8, [.nilFunc]⟩),
  (36, ⟨.slice 9, 1, 24, [.slice none 0 0]⟩),
  (37, ⟨.slice 3, 1, 24, [.slice none 0 0]⟩),
  (38, ⟨.func, 1, 8, [.nilFunc]⟩),
  (39, ⟨.func, 1, 8, [.nilFunc]⟩),
  (40, ⟨.func, 1, 8, [.nilFunc]⟩),
  (41, ⟨.int .u64, 1, 8, [.int .u64 0]⟩),
  (42, ⟨.func, 1, 8, [.nilFunc]⟩),
  (43, ⟨.func, 1, 8, [.nilFunc]⟩),
  (44, ⟨.func, 1, 8, [.nilFunc]⟩),
  (45, ⟨.func, 1, 8, [.nilFunc]⟩),
  (46, ⟨.func, 1, 8, [.nilFunc]⟩),
  (47, ⟨.func, 1, 8, [.nilFunc]⟩),
  (48, ⟨.func, 1, 8, [.nilFunc]⟩),
  (49, ⟨.ptr 51, 1, 8, [.pointer none]⟩),
  (50, ⟨.struct [(0, 23), (1, 3)], 2, 32, [.slice none 0 0, .int .i64 0]⟩),
  (51, ⟨.struct [(0, 23), (1, 3)], 2, 32, [.slice none 0 0, .int .i64 0]⟩),
  (53, ⟨.func, 1, 8, [.nilFunc]⟩),
  (54, ⟨.ptr 56, 1, 8, [.pointer none]⟩),
  (55, ⟨.struct [(0, 23), (1, 3)], 2, 32, [.slice none 0 0, .int .i64 0]⟩),
  (56, ⟨.struct [(0, 23), (1, 3)], 2, 32, [.slice none 0 0, .int .i64 0]⟩),
  (57, ⟨.func, 1, 8, [.nilFunc]⟩),
  (58, ⟨.func, 1, 8, [.nilFunc]⟩),
  (59, ⟨.func, 1, 8, [.nilFunc]⟩),
  (60, ⟨.func, 1, 8, [.nilFunc]⟩),
  (61, ⟨.func, 1, 8, [.nilFunc]⟩),
  (62, ⟨.func, 1, 8, [.nilFunc]⟩),
  (63, ⟨.func, 1, 8, [.nilFunc]⟩),
  (64, ⟨.func, 1, 8, [.nilFunc]⟩),
  (68, ⟨.func, 1, 8, [.nilFunc]⟩),
  (69, ⟨.func, 1, 8, [.nilFunc]⟩),
  (70, ⟨.ptr 66, 1, 8, [.pointer none]⟩),
  (71, ⟨.ptr 73, 1, 8, [.pointer none]⟩),
  (72, ⟨.struct [(0, 71), (1, 25)], 2, 32, [.pointer none, .slice none 0 0]⟩),
  (73, ⟨.struct [(0, 71), (1, 25)], 2, 32, [.pointer none, .slice none 0 0]⟩),
  (75, ⟨.plain, 1, 16, [.nilIface]⟩),
  (77, ⟨.func, 1, 8, [.nilFunc]⟩),
  (78, ⟨.func, 1, 8, [.nilFunc]⟩),
  (79, ⟨.func, 1, 8, [.nilFunc]⟩),
  (81, ⟨.func, 1, 8, [.nilFunc]⟩),
  (82, ⟨.func, 1, 8, [.nilFunc]⟩),
  (83, ⟨.ptr 5, 1, 8, [.pointer none]⟩),
  (85, ⟨.func, 1, 8, [.nilFunc]⟩),
  (86, ⟨.func, 1, 8, [.nilFunc]⟩),
  (87, ⟨.func, 1, 8, [.nilFunc]⟩),
  (91, ⟨.int .u64, 1, 8, [.int .u64 0]⟩),
  (92, ⟨.struct [(0, 5), (1, 5)], 2, 2, [.int .u8 0, .int .u8 0]⟩),
  (93, ⟨.struct [(0, 5), (1, 5)], 2, 2, [.int .u8 0, .int .u8 0]⟩),
  (94, ⟨.array 16 93, 32, 32, [.int .u8 0, .int .u8 0, .int .u8 0, .int .u8 0, .int .u8 0, .int .u8 0, .int .u8 0, .int .u8 0, .int .u8 0, .int .u8 0, .int .u8 0, .int .u8 0, .int .u8 0, .int .u8 0, .int .u8 0, .int .u8 0, .int .u8 0, .int .u8 0, .int .u8 0, .int .u8 0, .int .u8 0, .int .u8 0, .int .u8 0, .int .u8 0, .int .u8 0, .int .u8 0, .int .u8 0, .int .u8 0, .int .u8 0, .int .u8 0, .int .u8 0, .int .u8 0]⟩),
  (95, ⟨.func, 1, 8, [.nilFunc]⟩),
  (96, ⟨.func, 1, 8, [.nilFunc]⟩),
  (97, ⟨.func, 1, 8, [.nilFunc]⟩),
  (103, ⟨.func, 1, 8, [.nilFunc]⟩),
  (104, ⟨.int .u32, 1, 4, [.int .u32 0]⟩)
]
theorem tab_ok : TyTab Tryd.prog tab := by
  unfold tab
  exact ⟨by kernel_rfl, by kernel_rfl, by kernel_rfl, by kernel_rfl, by kernel_rfl, by kernel_rfl, by kernel_rfl, by kernel_rfl, by kernel_rfl, by kernel_rfl, by kernel_rfl, by kernel_rfl, by kernel_rfl, by kernel_rfl, by kernel_rfl, by kernel_rfl, by kernel_rfl, by kernel_rfl, by kernel_rfl, by kernel_rfl, by kernel_rfl, by kernel_rfl, by kernel_rfl, by kernel_rfl, by kernel_rfl, by kernel_rfl, by kernel_rfl, by kernel_rfl, by kernel_rfl, by kernel_rfl, by kernel_rfl, by kernel_rfl, by kernel_rfl, by kernel_rfl, by kernel_rfl, by kernel_rfl, by kernel_rfl, by kernel_rfl, by kernel_rfl, by kernel_rfl, by kernel_rfl, by kernel_rfl, by kernel_rfl, by kernel_rfl, by kernel_rfl, by kernel_rfl, by kernel_rfl, by kernel_rfl, by kernel_rfl, by kernel_rfl, by kernel_rfl, by kernel_rfl, by kernel_rfl, by kernel_rfl, by kernel_rfl, by kernel_rfl, by kernel_rfl, by kernel_rfl, by kernel_rfl, by kernel_rfl, by kernel_rfl, by kernel_rfl, by kernel_rfl, by kernel_rfl, by kernel_rfl, by kernel_rfl, by kernel_rfl, by kernel_rfl, by kernel_rfl, by kernel_rfl, by kernel_rfl, by kernel_rfl, by kernel_rfl, by kernel_rfl, by kernel_rfl, by kernel_rfl, trivial⟩
theorem call12 : Callable Tryd.prog 12 := callable_of Tryd.func12 rfl (by kernel_rfl)
theorem call13 : Callable Tryd.prog 13 := callable_of Tryd.func13 rfl (by kernel_rfl)
theorem call14 : Callable Tryd.prog 14 := callable_of Tryd.func14 rfl (by kernel_rfl)
theorem call15 : Callable Tryd.prog 15 := callable_of Tryd.func15 rfl (by kernel_rfl)
theorem call17 : Callable Tryd.prog 17 := callable_of Tryd.func17 rfl (by kernel_rfl)
theorem call19 : Callable Tryd.prog 19 := callable_of Tryd.func19 rfl (by kernel_rfl)
theorem call21 : Callable Tryd.prog 21 := callable_of Tryd.func21 rfl (by kernel_rfl)
theorem call26 : Callable Tryd.prog 26 := callable_of Tryd.func26 rfl (by kernel_rfl)
theorem call29 : Callable Tryd.prog 29 := callable_of Tryd.func29 rfl (by kernel_rfl)
theorem call30 : Callable Tryd.prog 30 := callable_of Tryd.func30 rfl (by kernel_rfl)
theorem call32 : Callable Tryd.prog 32 := callable_of Tryd.func32 rfl (by kernel_rfl)
theorem call33 : Callable Tryd.prog 33 := callable_of Tryd.func33 rfl (by kernel_rfl)
theorem call34 : Callable Tryd.prog 34 := callable_of Tryd.func34 rfl (by kernel_rfl)
theorem call35 : Callable Tryd.prog 35 := callable_of Tryd.func35 rfl (by kernel_rfl)
theorem call36 : Callable Tryd.prog 36 := callable_of Tryd.func36 rfl (by kernel_rfl)
theorem call37 : Callable Tryd.prog 37 := callable_of Tryd.func37 rfl (by kernel_rfl)
theorem call38 : Callable Tryd.prog 38 := callable_of Tryd.func38 rfl (by kernel_rfl)
theorem call39 : Callable Tryd.prog 39 := callable_of Tryd.func39 rfl (by kernel_rfl)
theorem call40 : Callable Tryd.prog 40 := callable_of Tryd.func40 rfl (by kernel_rfl)
theorem call41 : Callable Tryd.prog 41 := callable_of Tryd.func41 rfl (by kernel_rfl)
theorem call42 : Callable Tryd.prog 42 := callable_of Tryd.func42 rfl (by kernel_rfl)
theorem call53 : Callable Tryd.prog 53 := callable_of Tryd.func53 rfl (by kernel_rfl)
theorem call54 : Callable Tryd.prog 54 := callable_of Tryd.func54 rfl (by kernel_rfl)
theorem call56 : Callable Tryd.prog 56 := callable_of Tryd.func56 rfl (by kernel_rfl)
theorem call57 : Callable Tryd.prog 57 := callable_of Tryd.func57 rfl (by kernel_rfl)
theorem call58 : Callable Tryd.prog 58 := callable_of Tryd.func58 rfl (by kernel_rfl)
theorem call59 : Callable Tryd.prog 59 := callable_of Tryd.func59 rfl (by kernel_rfl)
theorem call60 : Callable Tryd.prog 60 := callable_of Tryd.func60 rfl (by kernel_rfl)
theorem call61 : Callable Tryd.prog 61 := callable_of Tryd.func61 rfl (by kernel_rfl)
theorem call62 : Callable Tryd.prog 62 := callable_of Tryd.func62 rfl (by kernel_rfl)
theorem call63 : Callable Tryd.prog 63 := callable_of Tryd.func63 rfl (by kernel_rfl)
theorem call64 : Callable Tryd.prog 64 := callable_of Tryd.func64 rfl (by kernel_rfl)
theorem call65 : Callable Tryd.prog 65 := callable_of Tryd.func65 rfl (by kernel_rfl)
theorem call66 : Callable Tryd.prog 66 := callable_of Tryd.func66 rfl (by kernel_rfl)
theorem call67 : Callable Tryd.prog 67 := callable_of Tryd.func67 rfl (by kernel_rfl)
theorem call68 : Callable Tryd.prog 68 := callable_of Tryd.func68 rfl (by kernel_rfl)
theorem call69 : Callable Tryd.prog 69 := callable_of Tryd.func69 rfl (by kernel_rfl)
theorem call73 : Callable Tryd.prog 73 := callable_of Tryd.func73 rfl (by kernel_rfl)
theorem call76 : Callable Tryd.prog 76 := callable_of Tryd.func76 rfl (by kernel_rfl)
theorem call77 : Callable Tryd.prog 77 := callable_of Tryd.func77 rfl (by kernel_rfl)
theorem call78 : Callable Tryd.prog 78 := callable_of Tryd.func78 rfl (by kernel_rfl)
theorem call79 : Callable Tryd.prog 79 := callable_of Tryd.func79 rfl (by kernel_rfl)
theorem call80 : Callable Tryd.prog 80 := callable_of Tryd.func80 rfl (by kernel_rfl)
theorem mixed_ok : Tryd.prog.follows .mixedOrders = true := by kernel_rfl
end Go.Proofs.YtbjinibmkkmhkaaDoor
