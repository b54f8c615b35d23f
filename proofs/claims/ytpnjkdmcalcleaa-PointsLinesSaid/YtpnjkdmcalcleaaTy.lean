/- The types of this translation, as far as walks ask for them: a table, checked against the program by the kernel. Written by a program of this repo (gen.py). -/
import Derived.Test.YtpnjkdmcalcleaaEj
import Derived.Test.YtpnjkdmcalcleaaRows
namespace Go.Proofs.Ytpnjkdmcalcleaa
open Go

def tab : List (Nat × TE) := [
  (1, ⟨.func, 1, 8, [.nilFunc]⟩),
  (2, ⟨.int .i64, 1, 8, [.int .i64 0]⟩),
  (3, ⟨.int .i64, 1, 8, [.int .i64 0]⟩),
  (4, ⟨.bool, 1, 1, [.bool false]⟩),
  (5, ⟨.int .u8, 1, 1, [.int .u8 0]⟩),
  (9, ⟨.str, 1, 16, [.string ⟨#[]⟩]⟩),
  (12, ⟨.int .u64, 1, 8, [.int .u64 0]⟩),
  (13, ⟨.struct [(0, 9), (1, 12)], 2, 24, [.string ⟨#[]⟩, .int .u64 0]⟩),
  (21, ⟨.int .i32, 1, 4, [.int .i32 0]⟩),
  (22, ⟨.slice 5, 1, 24, [.slice none 0 0]⟩),
  (23, ⟨.func, 1, 8, [.nilFunc]⟩),
  (25, ⟨.func, 1, 8, [.nilFunc]⟩),
  (26, ⟨.func, 1, 8, [.nilFunc]⟩),
  (27, ⟨.slice 21, 1, 24, [.slice none 0 0]⟩),
  (28, ⟨.func, 1, 8, [.nilFunc]⟩),
  (29, ⟨.func, 1, 8, [.nilFunc]⟩),
  (30, ⟨.func, 1, 8, [.nilFunc]⟩),
  (31, ⟨.func, 1, 8, [.nilFunc]⟩),
  (32, ⟨.func, 1, 8, [.nilFunc]⟩),
  (33, ⟨.func, 1, 8, [.nilFunc]⟩),
  (34, ⟨.slice 3, 1, 24, [.slice none 0 0]⟩),
  (35, ⟨.slice 9, 1, 24, [.slice none 0 0]⟩),
  (36, ⟨.func, 1, 8, [.nilFunc]⟩),
  (37, ⟨.func, 1, 8, [.nilFunc]⟩),
  (38, ⟨.func, 1, 8, [.nilFunc]⟩),
  (39, ⟨.ptr 41, 1, 8, [.pointer none]⟩),
  (40, ⟨.struct [(0, 39), (1, 22)], 2, 32, [.pointer none, .slice none 0 0]⟩),
  (41, ⟨.struct [(0, 39), (1, 22)], 2, 32, [.pointer none, .slice none 0 0]⟩),
  (43, ⟨.plain, 1, 16, [.nilIface]⟩),
  (44, ⟨.func, 1, 8, [.nilFunc]⟩),
  (45, ⟨.func, 1, 8, [.nilFunc]⟩),
  (46, ⟨.ptr 5, 1, 8, [.pointer none]⟩),
  (54, ⟨.func, 1, 8, [.nilFunc]⟩),
  (55, ⟨.int .u32, 1, 4, [.int .u32 0]⟩)
]
theorem tab_ok : TyTab Try.prog tab := by
  unfold tab
  exact ⟨by kernel_rfl, by kernel_rfl, by kernel_rfl, by kernel_rfl, by kernel_rfl, by kernel_rfl, by kernel_rfl, by kernel_rfl, by kernel_rfl, by kernel_rfl, by kernel_rfl, by kernel_rfl, by kernel_rfl, by kernel_rfl, by kernel_rfl, by kernel_rfl, by kernel_rfl, by kernel_rfl, by kernel_rfl, by kernel_rfl, by kernel_rfl, by kernel_rfl, by kernel_rfl, by kernel_rfl, by kernel_rfl, by kernel_rfl, by kernel_rfl, by kernel_rfl, by kernel_rfl, by kernel_rfl, by kernel_rfl, by kernel_rfl, by kernel_rfl, by kernel_rfl, trivial⟩
theorem call3 : Callable Try.prog 3 := callable_of Try.func3 rfl (by kernel_rfl)
theorem call4 : Callable Try.prog 4 := callable_of Try.func4 rfl (by kernel_rfl)
theorem call5 : Callable Try.prog 5 := callable_of Try.func5 rfl (by kernel_rfl)
theorem call6 : Callable Try.prog 6 := callable_of Try.func6 rfl (by kernel_rfl)
theorem call7 : Callable Try.prog 7 := callable_of Try.func7 rfl (by kernel_rfl)
theorem call8 : Callable Try.prog 8 := callable_of Try.func8 rfl (by kernel_rfl)
theorem call9 : Callable Try.prog 9 := callable_of Try.func9 rfl (by kernel_rfl)
theorem call10 : Callable Try.prog 10 := callable_of Try.func10 rfl (by kernel_rfl)
theorem call11 : Callable Try.prog 11 := callable_of Try.func11 rfl (by kernel_rfl)
theorem call12 : Callable Try.prog 12 := callable_of Try.func12 rfl (by kernel_rfl)
theorem call13 : Callable Try.prog 13 := callable_of Try.func13 rfl (by kernel_rfl)
theorem call14 : Callable Try.prog 14 := callable_of Try.func14 rfl (by kernel_rfl)
theorem call15 : Callable Try.prog 15 := callable_of Try.func15 rfl (by kernel_rfl)
theorem call16 : Callable Try.prog 16 := callable_of Try.func16 rfl (by kernel_rfl)
theorem call17 : Callable Try.prog 17 := callable_of Try.func17 rfl (by kernel_rfl)
theorem call18 : Callable Try.prog 18 := callable_of Try.func18 rfl (by kernel_rfl)
theorem call19 : Callable Try.prog 19 := callable_of Try.func19 rfl (by kernel_rfl)
theorem call20 : Callable Try.prog 20 := callable_of Try.func20 rfl (by kernel_rfl)
theorem call21 : Callable Try.prog 21 := callable_of Try.func21 rfl (by kernel_rfl)
theorem call22 : Callable Try.prog 22 := callable_of Try.func22 rfl (by kernel_rfl)
theorem call23 : Callable Try.prog 23 := callable_of Try.func23 rfl (by kernel_rfl)
theorem call24 : Callable Try.prog 24 := callable_of Try.func24 rfl (by kernel_rfl)
theorem call25 : Callable Try.prog 25 := callable_of Try.func25 rfl (by kernel_rfl)
theorem call26 : Callable Try.prog 26 := callable_of Try.func26 rfl (by kernel_rfl)
theorem call27 : Callable Try.prog 27 := callable_of Try.func27 rfl (by kernel_rfl)
theorem call28 : Callable Try.prog 28 := callable_of Try.func28 rfl (by kernel_rfl)
theorem mixed_ok : Try.prog.follows .mixedOrders = true := by kernel_rfl
end Go.Proofs.Ytpnjkdmcalcleaa
