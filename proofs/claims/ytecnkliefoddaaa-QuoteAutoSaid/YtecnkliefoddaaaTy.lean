/- The types of this translation, as far as walks ask for them: a table, checked against the program by the kernel. Written by a program of this repo (gen.py). -/
import Derived.Test.YtecnkliefoddaaaEj
import Derived.Test.YtecnkliefoddaaaRows
namespace Go.Proofs.Ytecnkliefoddaaa
open Go

def tab : List (Nat × TE) := [
  (1, ⟨.func, 1, 8, [.nilFunc]⟩),
  (2, ⟨.int .i64, 1, 8, [.int .i64 0]⟩),
  (3, ⟨.int .i64, 1, 8, [.int .i64 0]⟩),
  (4, ⟨.bool, 1, 1, [.bool false]⟩),
  (5, ⟨.int .u8, 1, 1, [.int .u8 0]⟩),
  (9, ⟨.str, 1, 16, [.string ⟨#[]⟩]⟩),
  (12, ⟨.int .u64, 1, 8, [.int .u64 0]⟩),
  (13, ⟨.struct [(0, 9), (1, 12)], 2, 24, [.string ⟨#[]⟩, .int .u64 0]⟩),
  (21, ⟨.int .i32, 1, 4, [.int .i32 0]⟩),
  (22, ⟨.slice 43, 1, 24, [.slice none 0 0]⟩),
  (23, ⟨.slice 9, 1, 24, [.slice none 0 0]⟩),
  (24, ⟨.slice 47, 1, 24, [.slice none 0 0]⟩),
  (25, ⟨.struct [(0, 9), (1, 9), (2, 9), (3, 22), (4, 4), (5, 4), (6, 23), (7, 4), (8, 24), (9, 24), (10, 24)], 11, 184, [.string ⟨#[]⟩, .string ⟨#[]⟩, .string ⟨#[]⟩, .slice none 0 0, .bool false, .bool false, .slice none 0 0, .bool false, .slice none 0 0, .slice none 0 0, .slice none 0 0]⟩),
  (26, ⟨.struct [(0, 9), (1, 9), (2, 9), (3, 22), (4, 4), (5, 4), (6, 23), (7, 4), (8, 24), (9, 24), (10, 24)], 11, 184, [.string ⟨#[]⟩, .string ⟨#[]⟩, .string ⟨#[]⟩, .slice none 0 0, .bool false, .bool false, .slice none 0 0, .bool false, .slice none 0 0, .slice none 0 0, .slice none 0 0]⟩),
  (27, ⟨.func, 1, 8, [.nilFunc]⟩),
  (28, ⟨.func, 1, 8, [.nilFunc]⟩),
  (30, ⟨.func, 1, 8, [.nilFunc]⟩),
  (31, ⟨.func, 1, 8, [.nilFunc]⟩),
  (32, ⟨.func, 1, 8, [.nilFunc]⟩),
  (33, ⟨.func, 1, 8, [.nilFunc]⟩),
  (34, ⟨.slice 3, 1, 24, [.slice none 0 0]⟩),
  (35, ⟨.slice 5, 1, 24, [.slice none 0 0]⟩),
  (36, ⟨.func, 1, 8, [.nilFunc]⟩),
  (37, ⟨.func, 1, 8, [.nilFunc]⟩),
  (38, ⟨.func, 1, 8, [.nilFunc]⟩),
  (39, ⟨.func, 1, 8, [.nilFunc]⟩),
  (40, ⟨.func, 1, 8, [.nilFunc]⟩),
  (41, ⟨.func, 1, 8, [.nilFunc]⟩),
  (42, ⟨.struct [(0, 3), (1, 9), (2, 9), (3, 9)], 4, 56, [.int .i64 0, .string ⟨#[]⟩, .string ⟨#[]⟩, .string ⟨#[]⟩]⟩),
  (43, ⟨.struct [(0, 3), (1, 9), (2, 9), (3, 9)], 4, 56, [.int .i64 0, .string ⟨#[]⟩, .string ⟨#[]⟩, .string ⟨#[]⟩]⟩),
  (44, ⟨.func, 1, 8, [.nilFunc]⟩),
  (45, ⟨.func, 1, 8, [.nilFunc]⟩),
  (46, ⟨.struct [(0, 9), (1, 3), (2, 4), (3, 4)], 4, 32, [.string ⟨#[]⟩, .int .i64 0, .bool false, .bool false]⟩),
  (47, ⟨.struct [(0, 9), (1, 3), (2, 4), (3, 4)], 4, 32, [.string ⟨#[]⟩, .int .i64 0, .bool false, .bool false]⟩),
  (48, ⟨.func, 1, 8, [.nilFunc]⟩),
  (54, ⟨.func, 1, 8, [.nilFunc]⟩),
  (55, ⟨.int .u32, 1, 4, [.int .u32 0]⟩),
  (59, ⟨.ptr 5, 1, 8, [.pointer none]⟩)
]
theorem tab_ok : TyTab Try.prog tab := by
  unfold tab
  exact ⟨by kernel_rfl, by kernel_rfl, by kernel_rfl, by kernel_rfl, by kernel_rfl, by kernel_rfl, by kernel_rfl, by kernel_rfl, by kernel_rfl, by kernel_rfl, by kernel_rfl, by kernel_rfl, by kernel_rfl, by kernel_rfl, by kernel_rfl, by kernel_rfl, by kernel_rfl, by kernel_rfl, by kernel_rfl, by kernel_rfl, by kernel_rfl, by kernel_rfl, by kernel_rfl, by kernel_rfl, by kernel_rfl, by kernel_rfl, by kernel_rfl, by kernel_rfl, by kernel_rfl, by kernel_rfl, by kernel_rfl, by kernel_rfl, by kernel_rfl, by kernel_rfl, by kernel_rfl, by kernel_rfl, by kernel_rfl, by kernel_rfl, trivial⟩
theorem call3 : Callable Try.prog 3 := callable_of Try.func3 rfl (by kernel_rfl)
theorem call4 : Callable Try.prog 4 := callable_of Try.func4 rfl (by kernel_rfl)
theorem call5 : Callable Try.prog 5 := callable_of Try.func5 rfl (by kernel_rfl)
theorem call6 : Callable Try.prog 6 := callable_of Try.func6 rfl (by kernel_rfl)
theorem call7 : Callable Try.prog 7 := callable_of Try.func7 rfl (by kernel_rfl)
theorem call8 : Callable Try.prog 8 := callable_of Try.func8 rfl (by kernel_rfl)
theorem call9 : Callable Try.prog 9 := callable_of Try.func9 rfl (by kernel_rfl)
theorem call10 : Callable Try.prog 10 := callable_of Try.func10 rfl (by kernel_rfl)
theorem call11 : Callable Try.prog 11 := callable_of Try.func11 rfl (by kernel_rfl)
theorem call12 : Callable Try.prog 12 := callable_of Try.func12 rfl (by kernel_rfl)
theorem call13 : Callable Try.prog 13 := callable_of Try.func13 rfl (by kernel_rfl)
theorem call14 : Callable Try.prog 14 := callable_of Try.func14 rfl (by kernel_rfl)
theorem call15 : Callable Try.prog 15 := callable_of Try.func15 rfl (by kernel_rfl)
theorem call16 : Callable Try.prog 16 := callable_of Try.func16 rfl (by kernel_rfl)
theorem call17 : Callable Try.prog 17 := callable_of Try.func17 rfl (by kernel_rfl)
theorem call18 : Callable Try.prog 18 := callable_of Try.func18 rfl (by kernel_rfl)
theorem call19 : Callable Try.prog 19 := callable_of Try.func19 rfl (by kernel_rfl)
theorem mixed_ok : Try.prog.follows .mixedOrders = true := by kernel_rfl
end Go.Proofs.Ytecnkliefoddaaa
