/- The types of this translation, as far as walks ask for them: a table, checked against the program by the kernel. Written by a program of this repo (gen.py). -/
import Derived.Test.YtiifoplihaimmaaEj
import Derived.Test.YtiifoplihaimmaaRows
namespace Go.Proofs.Ytiifoplihaimmaa
open Go

def tab : List (Nat × TE) := [
  (1, ⟨.func, 1, 8, [.nilFunc]⟩),
  (2, ⟨.int .i64, 1, 8, [.int .i64 0]⟩),
  (3, ⟨.int .i64, 1, 8, [.int .i64 0]⟩),
  (4, ⟨.bool, 1, 1, [.bool false]⟩),
  (5, ⟨.int .u8, 1, 1, [.int .u8 0]⟩),
  (9, ⟨.str, 1, 16, [.string ⟨#[]⟩]⟩),
  (12, ⟨.int .u64, 1, 8, [.int .u64 0]⟩),
  (13, ⟨.struct [(0, 9), (1, 12)], 2, 24, [.string ⟨#[]⟩, .int .u64 0]⟩),
  (21, ⟨.int .i32, 1, 4, [.int .i32 0]⟩),
  (22, ⟨.func, 1, 8, [.nilFunc]⟩),
  (23, ⟨.slice 26, 1, 24, [.slice none 0 0]⟩),
  (24, ⟨.slice 30, 1, 24, [.slice none 0 0]⟩),
  (25, ⟨.struct [(0, 3), (1, 9), (2, 9), (3, 24)], 4, 64, [.int .i64 0, .string ⟨#[]⟩, .string ⟨#[]⟩, .slice none 0 0]⟩),
  (26, ⟨.struct [(0, 3), (1, 9), (2, 9), (3, 24)], 4, 64, [.int .i64 0, .string ⟨#[]⟩, .string ⟨#[]⟩, .slice none 0 0]⟩),
  (27, ⟨.ptr 26, 1, 8, [.pointer none]⟩),
  (28, ⟨.slice 5, 1, 24, [.slice none 0 0]⟩),
  (29, ⟨.struct [(0, 9), (1, 9)], 2, 32, [.string ⟨#[]⟩, .string ⟨#[]⟩]⟩),
  (30, ⟨.struct [(0, 9), (1, 9)], 2, 32, [.string ⟨#[]⟩, .string ⟨#[]⟩]⟩),
  (31, ⟨.int .i64, 1, 8, [.int .i64 0]⟩),
  (32, ⟨.func, 1, 8, [.nilFunc]⟩),
  (33, ⟨.func, 1, 8, [.nilFunc]⟩),
  (34, ⟨.func, 1, 8, [.nilFunc]⟩),
  (35, ⟨.func, 1, 8, [.nilFunc]⟩),
  (36, ⟨.func, 1, 8, [.nilFunc]⟩),
  (37, ⟨.func, 1, 8, [.nilFunc]⟩),
  (38, ⟨.func, 1, 8, [.nilFunc]⟩),
  (39, ⟨.func, 1, 8, [.nilFunc]⟩),
  (40, ⟨.func, 1, 8, [.nilFunc]⟩),
  (41, ⟨.int .u64, 1, 8, [.int .u64 0]⟩),
  (42, ⟨.func, 1, 8, [.nilFunc]⟩),
  (43, ⟨.func, 1, 8, [.nilFunc]⟩),
  (45, ⟨.func, 1, 8, [.nilFunc]⟩),
  (46, ⟨.int .u64, 1, 8, [.int .u64 0]⟩),
  (47, ⟨.func, 1, 8, [.nilFunc]⟩),
  (53, ⟨.func, 1, 8, [.nilFunc]⟩),
  (54, ⟨.int .u32, 1, 4, [.int .u32 0]⟩),
  (58, ⟨.ptr 5, 1, 8, [.pointer none]⟩)
]
theorem tab_ok : TyTab Try.prog tab := by
  unfold tab
  exact ⟨by kernel_rfl, by kernel_rfl, by kernel_rfl, by kernel_rfl, by kernel_rfl, by kernel_rfl, by kernel_rfl, by kernel_rfl, by kernel_rfl, by kernel_rfl, by kernel_rfl, by kernel_rfl, by kernel_rfl, by kernel_rfl, by kernel_rfl, by kernel_rfl, by kernel_rfl, by kernel_rfl, by kernel_rfl, by kernel_rfl, by kernel_rfl, by kernel_rfl, by kernel_rfl, by kernel_rfl, by kernel_rfl, by kernel_rfl, by kernel_rfl, by kernel_rfl, by kernel_rfl, by kernel_rfl, by kernel_rfl, by kernel_rfl, by kernel_rfl, by kernel_rfl, by kernel_rfl, by kernel_rfl, by kernel_rfl, trivial⟩
theorem call3 : Callable Try.prog 3 := callable_of Try.func3 rfl (by kernel_rfl)
theorem call4 : Callable Try.prog 4 := callable_of Try.func4 rfl (by kernel_rfl)
theorem call5 : Callable Try.prog 5 := callable_of Try.func5 rfl (by kernel_rfl)
theorem call6 : Callable Try.prog 6 := callable_of Try.func6 rfl (by kernel_rfl)
theorem call7 : Callable Try.prog 7 := callable_of Try.func7 rfl (by kernel_rfl)
theorem call8 : Callable Try.prog 8 := callable_of Try.func8 rfl (by kernel_rfl)
theorem call9 : Callable Try.prog 9 := callable_of Try.func9 rfl (by kernel_rfl)
theorem call10 : Callable Try.prog 10 := callable_of Try.func10 rfl (by kernel_rfl)
theorem call11 : Callable Try.prog 11 := callable_of Try.func11 rfl (by kernel_rfl)
theorem call12 : Callable Try.prog 12 := callable_of Try.func12 rfl (by kernel_rfl)
theorem call13 : Callable Try.prog 13 := callable_of Try.func13 rfl (by kernel_rfl)
theorem call14 : Callable Try.prog 14 := callable_of Try.func14 rfl (by kernel_rfl)
theorem call15 : Callable Try.prog 15 := callable_of Try.func15 rfl (by kernel_rfl)
theorem mixed_ok : Try.prog.follows .mixedOrders = true := by kernel_rfl
end Go.Proofs.Ytiifoplihaimmaa
