/- law3: the arguments of the laws, opened. -/
import Derived.Test.YtogjmafjoliimaaP
import Derived.Test.YtogjmafjoliimaaNc
import Derived.Test.YtogjmafjoliimaaRows
namespace Go.Proofs.Ytogjmafjoliimaa
open Go Go.RowKit Go.WideShapes Go.ChangeShapes

theorem Try.own : ownKnob Try.prog.godebug = none := by kernel_rfl
theorem Try.laidOut : laidOutB Try.prog = true := by kernel_rfl
theorem open_i64 {n : Nat} {x : D} (h : DT tab (n + 1) 3 x) : ∃ i : Int, x = .val (.int .i64 i) ∧ i ≤ 9223372036854775807 ∧ -9223372036854775808 ≤ i := by
  obtain ⟨i, rfl, hw⟩ := h
  have e1 : IntKind.i64.max = 9223372036854775807 := rfl
  have e2 : IntKind.i64.min = -9223372036854775808 := rfl
  simp [Lit.wf, e1, e2] at hw
  exact ⟨i, rfl, by omega, by omega⟩
theorem open_str {n : Nat} {x : D} (h : DT tab (n + 1) 9 x) : ∃ s : ByteArray, x = .val (.string s) ∧ s.size ≤ 9223372036854775807 := by
  obtain ⟨s, rfl, hw⟩ := h
  refine ⟨s, rfl, ?_⟩
  simp [Lit.wf, maxLen] at hw
  omega
end Go.Proofs.Ytogjmafjoliimaa
