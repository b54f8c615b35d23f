/- Arguments opened (law10, law12). -/
import Derived.Test.YtfmafehogfikmaaGreatDoorPr
import Derived.Test.YtfmafehogfikmaaGreatDoorTy
import Derived.Test.YtfmafehogfikmaaGreatDoorZ
namespace Go.Proofs.YtfmafehogfikmaaGreatDoor
open Go Go.RowKit Go.WideShapes Go.ChangeShapes Go.ChangeAt

theorem open_str {n : Nat} {x : D} (h : DT tab (n + 1) 9 x) : ∃ s : ByteArray, x = .val (.string s) ∧ s.size ≤ 9223372036854775807 := by
  obtain ⟨s, rfl, hw⟩ := h
  refine ⟨s, rfl, ?_⟩
  simp [maxLen] at hw
  omega
def ciD (n : Int) : D := .val (.int .i64 n)
end Go.Proofs.YtfmafehogfikmaaGreatDoor
