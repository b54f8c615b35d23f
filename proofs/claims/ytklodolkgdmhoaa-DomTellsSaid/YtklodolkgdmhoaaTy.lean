/- The types of this translation, as far as walks ask for them: a table, checked against the program by the kernel. Written by a program of this repo (gen.py). -/
import Derived.Test.YtklodolkgdmhoaaEj
import Derived.Test.YtklodolkgdmhoaaRows
namespace Go.Proofs.Ytklodolkgdmhoaa
open Go

def tab : List (Nat × TE) := [
  (1, ⟨.func, 1, 8, [.nilFunc]⟩),
  (2, ⟨.int .i64, 1, 8, [.int .i64 0]⟩),
  (3, ⟨.int .i64, 1, 8, [.int .i64 0]⟩),
  (4, ⟨.bool, 1, 1, [.bool false]⟩),
  (5, ⟨.int .u8, 1, 1, [.int .u8 0]⟩),
  (9, ⟨.str, 1, 16, [.string ⟨#[]⟩]⟩),
  (12, ⟨.int .u64, 1, 8, [.int .u64 0]⟩),
  (13, ⟨.struct [(0, 9), (1, 12)], 2, 24, [.string ⟨#[]⟩, .int .u64 0]⟩),
  (21, ⟨.int .i32, 1, 4, [.int .i32 0]⟩),
  (22, ⟨.slice 3, 1, 24, [.slice none 0 0]⟩),
  (23, ⟨.func, 1, 8, [.nilFunc]⟩),
  (24, ⟨.slice 42, 1, 24, [.slice none 0 0]⟩),
  (25, ⟨.struct [(0, 3), (1, 9), (2, 9), (3, 24)], 4, 64, [.int .i64 0, .string ⟨#[]⟩, .string ⟨#[]⟩, .slice none 0 0]⟩),
  (26, ⟨.struct [(0, 3), (1, 9), (2, 9), (3, 24)], 4, 64, [.int .i64 0, .string ⟨#[]⟩, .string ⟨#[]⟩, .slice none 0 0]⟩),
  (27, ⟨.slice 26, 1, 24, [.slice none 0 0]⟩),
  (28, ⟨.func, 1, 8, [.nilFunc]⟩),
  (29, ⟨.ptr 61, 1, 8, [.pointer none]⟩),
  (30, ⟨.int .i64, 1, 8, [.int .i64 0]⟩),
  (32, ⟨.func, 1, 8, [.nilFunc]⟩),
  (33, ⟨.ptr 54, 1, 8, [.pointer none]⟩),
  (34, ⟨.func, 1, 8, [.nilFunc]⟩),
  (35, ⟨.func, 1, 8, [.nilFunc]⟩),
  (36, ⟨.func, 1, 8, [.nilFunc]⟩),
  (37, ⟨.func, 1, 8, [.nilFunc]⟩),
  (38, ⟨.func, 1, 8, [.nilFunc]⟩),
  (39, ⟨.slice 9, 1, 24, [.slice none 0 0]⟩),
  (40, ⟨.slice 4, 1, 24, [.slice none 0 0]⟩),
  (41, ⟨.struct [(0, 9), (1, 9)], 2, 32, [.string ⟨#[]⟩, .string ⟨#[]⟩]⟩),
  (42, ⟨.struct [(0, 9), (1, 9)], 2, 32, [.string ⟨#[]⟩, .string ⟨#[]⟩]⟩),
  (44, ⟨.func, 1, 8, [.nilFunc]⟩),
  (46, ⟨.func, 1, 8, [.nilFunc]⟩),
  (47, ⟨.func, 1, 8, [.nilFunc]⟩),
  (48, ⟨.func, 1, 8, [.nilFunc]⟩),
  (49, ⟨.func, 1, 8, [.nilFunc]⟩),
  (50, ⟨.func, 1, 8, [.nilFunc]⟩),
  (51, ⟨.func, 1, 8, [.nilFunc]⟩),
  (52, ⟨.func, 1, 8, [.nilFunc]⟩),
  (53, ⟨.struct [(0, 27)], 1, 24, [.slice none 0 0]⟩),
  (54, ⟨.struct [(0, 27)], 1, 24, [.slice none 0 0]⟩),
  (55, ⟨.func, 1, 8, [.nilFunc]⟩),
  (56, ⟨.func, 1, 8, [.nilFunc]⟩),
  (57, ⟨.func, 1, 8, [.nilFunc]⟩),
  (58, ⟨.func, 1, 8, [.nilFunc]⟩),
  (59, ⟨.slice 64, 1, 24, [.slice none 0 0]⟩),
  (60, ⟨.struct [(0, 59)], 1, 24, [.slice none 0 0]⟩),
  (61, ⟨.struct [(0, 59)], 1, 24, [.slice none 0 0]⟩),
  (62, ⟨.ptr 64, 1, 8, [.pointer none]⟩),
  (63, ⟨.struct [(0, 26), (4, 22), (5, 3)], 6, 96, [.int .i64 0, .string ⟨#[]⟩, .string ⟨#[]⟩, .slice none 0 0, .slice none 0 0, .int .i64 0]⟩),
  (64, ⟨.struct [(0, 26), (4, 22), (5, 3)], 6, 96, [.int .i64 0, .string ⟨#[]⟩, .string ⟨#[]⟩, .slice none 0 0, .slice none 0 0, .int .i64 0]⟩),
  (65, ⟨.func, 1, 8, [.nilFunc]⟩),
  (66, ⟨.func, 1, 8, [.nilFunc]⟩),
  (67, ⟨.func, 1, 8, [.nilFunc]⟩),
  (68, ⟨.func, 1, 8, [.nilFunc]⟩),
  (69, ⟨.func, 1, 8, [.nilFunc]⟩),
  (70, ⟨.func, 1, 8, [.nilFunc]⟩),
  (71, ⟨.func, 1, 8, [.nilFunc]⟩),
  (72, ⟨.func, 1, 8, [.nilFunc]⟩),
  (73, ⟨.func, 1, 8, [.nilFunc]⟩),
  (74, ⟨.func, 1, 8, [.nilFunc]⟩),
  (75, ⟨.func, 1, 8, [.nilFunc]⟩),
  (76, ⟨.func, 1, 8, [.nilFunc]⟩),
  (77, ⟨.func, 1, 8, [.nilFunc]⟩),
  (78, ⟨.func, 1, 8, [.nilFunc]⟩),
  (79, ⟨.func, 1, 8, [.nilFunc]⟩),
  (80, ⟨.slice 5, 1, 24, [.slice none 0 0]⟩),
  (81, ⟨.func, 1, 8, [.nilFunc]⟩),
  (82, ⟨.func, 1, 8, [.nilFunc]⟩),
  (83, ⟨.func, 1, 8, [.nilFunc]⟩),
  (84, ⟨.func, 1, 8, [.nilFunc]⟩),
  (85, ⟨.ptr 87, 1, 8, [.pointer none]⟩),
  (86, ⟨.struct [(0, 85), (1, 80)], 2, 32, [.pointer none, .slice none 0 0]⟩),
  (87, ⟨.struct [(0, 85), (1, 80)], 2, 32, [.pointer none, .slice none 0 0]⟩),
  (89, ⟨.plain, 1, 16, [.nilIface]⟩),
  (90, ⟨.func, 1, 8, [.nilFunc]⟩),
  (91, ⟨.func, 1, 8, [.nilFunc]⟩),
  (92, ⟨.func, 1, 8, [.nilFunc]⟩),
  (93, ⟨.slice 95, 1, 24, [.slice none 0 0]⟩),
  (94, ⟨.struct [(0, 3), (1, 3)], 2, 16, [.int .i64 0, .int .i64 0]⟩),
  (95, ⟨.struct [(0, 3), (1, 3)], 2, 16, [.int .i64 0, .int .i64 0]⟩),
  (96, ⟨.ptr 5, 1, 8, [.pointer none]⟩),
  (104, ⟨.int .u32, 1, 4, [.int .u32 0]⟩)
]
theorem tab_ok : TyTab Try.prog tab := by
  unfold tab
  exact ⟨by kernel_rfl, by kernel_rfl, by kernel_rfl, by kernel_rfl, by kernel_rfl, by kernel_rfl, by kernel_rfl, by kernel_rfl, by kernel_rfl, by kernel_rfl, by kernel_rfl, by kernel_rfl, by kernel_rfl, by kernel_rfl, by kernel_rfl, by kernel_rfl, by kernel_rfl, by kernel_rfl, by kernel_rfl, by kernel_rfl, by kernel_rfl, by kernel_rfl, by kernel_rfl, by kernel_rfl, by kernel_rfl, by kernel_rfl, by kernel_rfl, by kernel_rfl, by kernel_rfl, by kernel_rfl, by kernel_rfl, by kernel_rfl, by kernel_rfl, by kernel_rfl, by kernel_rfl, by kernel_rfl, by kernel_rfl, by kernel_rfl, by kernel_rfl, by kernel_rfl, by kernel_rfl, by kernel_rfl, by kernel_rfl, by kernel_rfl, by kernel_rfl, by kernel_rfl, by kernel_rfl, by kernel_rfl, by kernel_rfl, by kernel_rfl, by kernel_rfl, by kernel_rfl, by kernel_rfl, by kernel_rfl, by kernel_rfl, by kernel_rfl, by kernel_rfl, by kernel_rfl, by kernel_rfl, by kernel_rfl, by kernel_rfl, by kernel_rfl, by kernel_rfl, by kernel_rfl, by kernel_rfl, by kernel_rfl, by kernel_rfl, by kernel_rfl, by kernel_rfl, by kernel_rfl, by kernel_rfl, by kernel_rfl, by kernel_rfl, by kernel_rfl, by kernel_rfl, by kernel_rfl, by kernel_rfl, by kernel_rfl, by kernel_rfl, by kernel_rfl, by kernel_rfl, trivial⟩
theorem call3 : Callable Try.prog 3 := callable_of Try.func3 rfl (by kernel_rfl)
theorem call4 : Callable Try.prog 4 := callable_of Try.func4 rfl (by kernel_rfl)
theorem call5 : Callable Try.prog 5 := callable_of Try.func5 rfl (by kernel_rfl)
theorem call6 : Callable Try.prog 6 := callable_of Try.func6 rfl (by kernel_rfl)
theorem call7 : Callable Try.prog 7 := callable_of Try.func7 rfl (by kernel_rfl)
theorem call8 : Callable Try.prog 8 := callable_of Try.func8 rfl (by kernel_rfl)
theorem call9 : Callable Try.prog 9 := callable_of Try.func9 rfl (by kernel_rfl)
theorem call10 : Callable Try.prog 10 := callable_of Try.func10 rfl (by kernel_rfl)
theorem call11 : Callable Try.prog 11 := callable_of Try.func11 rfl (by kernel_rfl)
theorem call12 : Callable Try.prog 12 := callable_of Try.func12 rfl (by kernel_rfl)
theorem call13 : Callable Try.prog 13 := callable_of Try.func13 rfl (by kernel_rfl)
theorem call14 : Callable Try.prog 14 := callable_of Try.func14 rfl (by kernel_rfl)
theorem call15 : Callable Try.prog 15 := callable_of Try.func15 rfl (by kernel_rfl)
theorem call16 : Callable Try.prog 16 := callable_of Try.func16 rfl (by kernel_rfl)
theorem call17 : Callable Try.prog 17 := callable_of Try.func17 rfl (by kernel_rfl)
theorem call18 : Callable Try.prog 18 := callable_of Try.func18 rfl (by kernel_rfl)
theorem call19 : Callable Try.prog 19 := callable_of Try.func19 rfl (by kernel_rfl)
theorem call20 : Callable Try.prog 20 := callable_of Try.func20 rfl (by kernel_rfl)
theorem call21 : Callable Try.prog 21 := callable_of Try.func21 rfl (by kernel_rfl)
theorem call22 : Callable Try.prog 22 := callable_of Try.func22 rfl (by kernel_rfl)
theorem call23 : Callable Try.prog 23 := callable_of Try.func23 rfl (by kernel_rfl)
theorem call24 : Callable Try.prog 24 := callable_of Try.func24 rfl (by kernel_rfl)
theorem call25 : Callable Try.prog 25 := callable_of Try.func25 rfl (by kernel_rfl)
theorem call26 : Callable Try.prog 26 := callable_of Try.func26 rfl (by kernel_rfl)
theorem call27 : Callable Try.prog 27 := callable_of Try.func27 rfl (by kernel_rfl)
theorem call28 : Callable Try.prog 28 := callable_of Try.func28 rfl (by kernel_rfl)
theorem call29 : Callable Try.prog 29 := callable_of Try.func29 rfl (by kernel_rfl)
theorem call30 : Callable Try.prog 30 := callable_of Try.func30 rfl (by kernel_rfl)
theorem call31 : Callable Try.prog 31 := callable_of Try.func31 rfl (by kernel_rfl)
theorem call32 : Callable Try.prog 32 := callable_of Try.func32 rfl (by kernel_rfl)
theorem call33 : Callable Try.prog 33 := callable_of Try.func33 rfl (by kernel_rfl)
theorem call34 : Callable Try.prog 34 := callable_of Try.func34 rfl (by kernel_rfl)
theorem call35 : Callable Try.prog 35 := callable_of Try.func35 rfl (by kernel_rfl)
theorem call36 : Callable Try.prog 36 := callable_of Try.func36 rfl (by kernel_rfl)
theorem call37 : Callable Try.prog 37 := callable_of Try.func37 rfl (by kernel_rfl)
theorem call38 : Callable Try.prog 38 := callable_of Try.func38 rfl (by kernel_rfl)
theorem call39 : Callable Try.prog 39 := callable_of Try.func39 rfl (by kernel_rfl)
theorem call40 : Callable Try.prog 40 := callable_of Try.func40 rfl (by kernel_rfl)
theorem call41 : Callable Try.prog 41 := callable_of Try.func41 rfl (by kernel_rfl)
theorem call42 : Callable Try.prog 42 := callable_of Try.func42 rfl (by kernel_rfl)
theorem call43 : Callable Try.prog 43 := callable_of Try.func43 rfl (by kernel_rfl)
theorem call44 : Callable Try.prog 44 := callable_of Try.func44 rfl (by kernel_rfl)
theorem call45 : Callable Try.prog 45 := callable_of Try.func45 rfl (by kernel_rfl)
theorem call46 : Callable Try.prog 46 := callable_of Try.func46 rfl (by kernel_rfl)
theorem call47 : Callable Try.prog 47 := callable_of Try.func47 rfl (by kernel_rfl)
theorem call48 : Callable Try.prog 48 := callable_of Try.func48 rfl (by kernel_rfl)
theorem call49 : Callable Try.prog 49 := callable_of Try.func49 rfl (by kernel_rfl)
theorem call50 : Callable Try.prog 50 := callable_of Try.func50 rfl (by kernel_rfl)
theorem call51 : Callable Try.prog 51 := callable_of Try.func51 rfl (by kernel_rfl)
theorem call52 : Callable Try.prog 52 := callable_of Try.func52 rfl (by kernel_rfl)
theorem call53 : Callable Try.prog 53 := callable_of Try.func53 rfl (by kernel_rfl)
theorem call54 : Callable Try.prog 54 := callable_of Try.func54 rfl (by kernel_rfl)
theorem call55 : Callable Try.prog 55 := callable_of Try.func55 rfl (by kernel_rfl)
theorem call56 : Callable Try.prog 56 := callable_of Try.func56 rfl (by kernel_rfl)
theorem call57 : Callable Try.prog 57 := callable_of Try.func57 rfl (by kernel_rfl)
theorem call58 : Callable Try.prog 58 := callable_of Try.func58 rfl (by kernel_rfl)
theorem call59 : Callable Try.prog 59 := callable_of Try.func59 rfl (by kernel_rfl)
theorem call60 : Callable Try.prog 60 := callable_of Try.func60 rfl (by kernel_rfl)
theorem call61 : Callable Try.prog 61 := callable_of Try.func61 rfl (by kernel_rfl)
theorem mixed_ok : Try.prog.follows .mixedOrders = true := by kernel_rfl
end Go.Proofs.Ytklodolkgdmhoaa
