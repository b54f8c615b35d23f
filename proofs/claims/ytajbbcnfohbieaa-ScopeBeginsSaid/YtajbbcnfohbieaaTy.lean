/- The types of this translation, as far as walks ask for them: a table, checked against the program by the kernel. Written by a program of this repo (gen.py). -/
import Derived.Test.YtajbbcnfohbieaaEj
import Derived.Test.YtajbbcnfohbieaaRows
namespace Go.Proofs.Ytajbbcnfohbieaa
open Go

def tab : List (Nat × TE) := [
  (1, ⟨.func, 1, 8, [.nilFunc]⟩),
  (2, ⟨.int .i64, 1, 8, [.int .i64 0]⟩),
  (3, ⟨.int .i64, 1, 8, [.int .i64 0]⟩),
  (4, ⟨.bool, 1, 1, [.bool false]⟩),
  (5, ⟨.int .u8, 1, 1, [.int .u8 0]⟩),
  (9, ⟨.str, 1, 16, [.string ⟨#[]⟩]⟩),
  (12, ⟨.int .u64, 1, 8, [.int .u64 0]⟩),
  (13, ⟨.struct [(0, 9), (1, 12)], 2, 24, [.string ⟨#[]⟩, .int .u64 0]⟩),
  (21, ⟨.int .i32, 1, 4, [.int .i32 0]⟩),
  (22, ⟨.slice 3, 1, 24, [.slice none 0 0]⟩),
  (23, ⟨.func, 1, 8, [.nilFunc]⟩),
  (24, ⟨.slice 38, 1, 24, [.slice none 0 0]⟩),
  (25, ⟨.slice 38, 1, 24, [.slice none 0 0]⟩),
  (26, ⟨.func, 1, 8, [.nilFunc]⟩),
  (27, ⟨.struct [(0, 9), (1, 3), (2, 4), (3, 4)], 4, 32, [.string ⟨#[]⟩, .int .i64 0, .bool false, .bool false]⟩),
  (28, ⟨.struct [(0, 9), (1, 3), (2, 4), (3, 4)], 4, 32, [.string ⟨#[]⟩, .int .i64 0, .bool false, .bool false]⟩),
  (29, ⟨.func, 1, 8, [.nilFunc]⟩),
  (31, ⟨.func, 1, 8, [.nilFunc]⟩),
  (32, ⟨.func, 1, 8, [.nilFunc]⟩),
  (33, ⟨.func, 1, 8, [.nilFunc]⟩),
  (34, ⟨.func, 1, 8, [.nilFunc]⟩),
  (35, ⟨.func, 1, 8, [.nilFunc]⟩),
  (36, ⟨.func, 1, 8, [.nilFunc]⟩),
  (37, ⟨.struct [(0, 9), (1, 3), (2, 3), (3, 4)], 4, 40, [.string ⟨#[]⟩, .int .i64 0, .int .i64 0, .bool false]⟩),
  (38, ⟨.struct [(0, 9), (1, 3), (2, 3), (3, 4)], 4, 40, [.string ⟨#[]⟩, .int .i64 0, .int .i64 0, .bool false]⟩),
  (39, ⟨.slice 9, 1, 24, [.slice none 0 0]⟩),
  (40, ⟨.func, 1, 8, [.nilFunc]⟩),
  (41, ⟨.func, 1, 8, [.nilFunc]⟩),
  (42, ⟨.func, 1, 8, [.nilFunc]⟩),
  (43, ⟨.slice 55, 1, 24, [.slice none 0 0]⟩),
  (44, ⟨.func, 1, 8, [.nilFunc]⟩),
  (45, ⟨.func, 1, 8, [.nilFunc]⟩),
  (46, ⟨.func, 1, 8, [.nilFunc]⟩),
  (47, ⟨.slice 28, 1, 24, [.slice none 0 0]⟩),
  (48, ⟨.func, 1, 8, [.nilFunc]⟩),
  (49, ⟨.func, 1, 8, [.nilFunc]⟩),
  (50, ⟨.func, 1, 8, [.nilFunc]⟩),
  (51, ⟨.func, 1, 8, [.nilFunc]⟩),
  (52, ⟨.func, 1, 8, [.nilFunc]⟩),
  (54, ⟨.func, 1, 8, [.nilFunc]⟩),
  (55, ⟨.struct [(0, 9), (1, 3), (2, 3), (3, 4)], 4, 40, [.string ⟨#[]⟩, .int .i64 0, .int .i64 0, .bool false]⟩),
  (56, ⟨.func, 1, 8, [.nilFunc]⟩),
  (57, ⟨.func, 1, 8, [.nilFunc]⟩),
  (58, ⟨.func, 1, 8, [.nilFunc]⟩),
  (59, ⟨.func, 1, 8, [.nilFunc]⟩),
  (60, ⟨.func, 1, 8, [.nilFunc]⟩),
  (61, ⟨.func, 1, 8, [.nilFunc]⟩),
  (62, ⟨.func, 1, 8, [.nilFunc]⟩),
  (63, ⟨.func, 1, 8, [.nilFunc]⟩),
  (64, ⟨.func, 1, 8, [.nilFunc]⟩),
  (70, ⟨.func, 1, 8, [.nilFunc]⟩),
  (71, ⟨.int .u32, 1, 4, [.int .u32 0]⟩),
  (75, ⟨.ptr 5, 1, 8, [.pointer none]⟩)
]
theorem tab_ok : TyTab Try.prog tab := by
  unfold tab
  exact ⟨by kernel_rfl, by kernel_rfl, by kernel_rfl, by kernel_rfl, by kernel_rfl, by kernel_rfl, by kernel_rfl, by kernel_rfl, by kernel_rfl, by kernel_rfl, by kernel_rfl, by kernel_rfl, by kernel_rfl, by kernel_rfl, by kernel_rfl, by kernel_rfl, by kernel_rfl, by kernel_rfl, by kernel_rfl, by kernel_rfl, by kernel_rfl, by kernel_rfl, by kernel_rfl, by kernel_rfl, by kernel_rfl, by kernel_rfl, by kernel_rfl, by kernel_rfl, by kernel_rfl, by kernel_rfl, by kernel_rfl, by kernel_rfl, by kernel_rfl, by kernel_rfl, by kernel_rfl, by kernel_rfl, by kernel_rfl, by kernel_rfl, by kernel_rfl, by kernel_rfl, by kernel_rfl, by kernel_rfl, by kernel_rfl, by kernel_rfl, by kernel_rfl, by kernel_rfl, by kernel_rfl, by kernel_rfl, by kernel_rfl, by kernel_rfl, by kernel_rfl, by kernel_rfl, by kernel_rfl, trivial⟩
theorem call3 : Callable Try.prog 3 := callable_of Try.func3 rfl (by kernel_rfl)
theorem call4 : Callable Try.prog 4 := callable_of Try.func4 rfl (by kernel_rfl)
theorem call5 : Callable Try.prog 5 := callable_of Try.func5 rfl (by kernel_rfl)
theorem call6 : Callable Try.prog 6 := callable_of Try.func6 rfl (by kernel_rfl)
theorem call7 : Callable Try.prog 7 := callable_of Try.func7 rfl (by kernel_rfl)
theorem call8 : Callable Try.prog 8 := callable_of Try.func8 rfl (by kernel_rfl)
theorem call9 : Callable Try.prog 9 := callable_of Try.func9 rfl (by kernel_rfl)
theorem call10 : Callable Try.prog 10 := callable_of Try.func10 rfl (by kernel_rfl)
theorem call11 : Callable Try.prog 11 := callable_of Try.func11 rfl (by kernel_rfl)
theorem call12 : Callable Try.prog 12 := callable_of Try.func12 rfl (by kernel_rfl)
theorem call13 : Callable Try.prog 13 := callable_of Try.func13 rfl (by kernel_rfl)
theorem call14 : Callable Try.prog 14 := callable_of Try.func14 rfl (by kernel_rfl)
theorem call15 : Callable Try.prog 15 := callable_of Try.func15 rfl (by kernel_rfl)
theorem call16 : Callable Try.prog 16 := callable_of Try.func16 rfl (by kernel_rfl)
theorem call17 : Callable Try.prog 17 := callable_of Try.func17 rfl (by kernel_rfl)
theorem call18 : Callable Try.prog 18 := callable_of Try.func18 rfl (by kernel_rfl)
theorem call19 : Callable Try.prog 19 := callable_of Try.func19 rfl (by kernel_rfl)
theorem call20 : Callable Try.prog 20 := callable_of Try.func20 rfl (by kernel_rfl)
theorem call21 : Callable Try.prog 21 := callable_of Try.func21 rfl (by kernel_rfl)
theorem call22 : Callable Try.prog 22 := callable_of Try.func22 rfl (by kernel_rfl)
theorem call23 : Callable Try.prog 23 := callable_of Try.func23 rfl (by kernel_rfl)
theorem call24 : Callable Try.prog 24 := callable_of Try.func24 rfl (by kernel_rfl)
theorem call25 : Callable Try.prog 25 := callable_of Try.func25 rfl (by kernel_rfl)
theorem call26 : Callable Try.prog 26 := callable_of Try.func26 rfl (by kernel_rfl)
theorem call27 : Callable Try.prog 27 := callable_of Try.func27 rfl (by kernel_rfl)
theorem call28 : Callable Try.prog 28 := callable_of Try.func28 rfl (by kernel_rfl)
theorem call29 : Callable Try.prog 29 := callable_of Try.func29 rfl (by kernel_rfl)
theorem call30 : Callable Try.prog 30 := callable_of Try.func30 rfl (by kernel_rfl)
theorem call31 : Callable Try.prog 31 := callable_of Try.func31 rfl (by kernel_rfl)
theorem mixed_ok : Try.prog.follows .mixedOrders = true := by kernel_rfl
end Go.Proofs.Ytajbbcnfohbieaa
