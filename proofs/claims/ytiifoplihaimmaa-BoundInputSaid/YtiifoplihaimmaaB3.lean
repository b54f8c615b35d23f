/- Bound: the arguments of the laws, opened. -/
import Derived.Test.YtiifoplihaimmaaB2
import Derived.Test.YtiifoplihaimmaaP
import Derived.Test.YtiifoplihaimmaaRows
namespace Go.Proofs.Ytiifoplihaimmaa
open Go Go.RowKit Go.WideShapes Go.ChangeShapes

theorem Try.own : ownKnob Try.prog.godebug = none := by kernel_rfl
theorem Try.laidOut : laidOutB Try.prog = true := by kernel_rfl

theorem open_i64 {x : D} (h : DT tab 5 3 x) : ∃ i : Int, x.av = .val (.int .i64 i) ∧ i ≤ 9223372036854775807 ∧ -9223372036854775808 ≤ i := by
  obtain ⟨i, rfl, hw⟩ := h
  have e1 : IntKind.i64.max = 9223372036854775807 := rfl
  have e2 : IntKind.i64.min = -9223372036854775808 := rfl
  simp [Lit.wf, e1, e2] at hw
  exact ⟨i, rfl, by omega, by omega⟩
end Go.Proofs.Ytiifoplihaimmaa
