/- Rows whose listed tables are not read: what the witness lays; arguments opened. -/
import Derived.Test.YtiolnmfaeenlmaaGreatDoorP
import Derived.Test.YtiolnmfaeenlmaaGreatDoorZ
import Derived.Test.YtiolnmfaeenlmaaGreatDoorTy
import Derived.Test.YtiolnmfaeenlmaaGreatDoorRows
import Derived.Test.YtiolnmfaeenlmaaGreatDoorTie
import Derived.Test.YtiolnmfaeenlmaaGreatDoorCards
import Derived.ProofKit
import Derived.LaidMore
import Derived.OpenShut
import Derived.Stop.Joined
import Derived.SevenTiedAt
import Derived.Lib.LaidTab
import Derived.Lay
namespace Go.Proofs.YtiolnmfaeenlmaaGreatDoor
open Go Go.RowKit Go.WideShapes Go.ChangeShapes Go.ChangeAt

theorem Tryz.own : ownKnob Tryz.prog.godebug = none := by kernel_rfl
theorem Tryz.laidOut : laidOutB Tryz.prog = true := by kernel_rfl
def laid2 : List (String × DataW Unit) := [("unicode/utf8.acceptRanges", Rows.laid_unicode_utf8_acceptRanges), ("unicode/utf8.first", Rows.laid_unicode_utf8_first)]
theorem gl_nil (W : World) : GL (fun b => b < W.heap.size) W := fun p hp => by cases hp
set_option maxRecDepth 100000 in
theorem lay_met (os : Os) (args : Array Value) : laidMetH Tryz.prog laid2 ((World.laidAll Tryz.prog os laid2).forCall (fun _ _ => 0) ⟨#[], args, []⟩).memory := by
  rw [MakeChecks.laidMetH_plain _ _ _ (by kernel_rfl)]
  exact laidMet_laidAll _ (by kernel_rfl) (by kernel_rfl)
theorem lay_shape (os : Os) : (World.laidAll Tryz.prog os laid2).Shaped Tryz.prog := World.shaped_of_ZipB (by kernel_rfl) (by kernel_rfl)
theorem open_i64 {n : Nat} {x : D} (h : DT tab (n + 1) 3 x) : ∃ i : Int, x = .val (.int .i64 i) ∧ i ≤ 9223372036854775807 ∧ -9223372036854775808 ≤ i := by
  obtain ⟨i, rfl, hw⟩ := h
  have e1 : IntKind.i64.max = 9223372036854775807 := rfl
  have e2 : IntKind.i64.min = -9223372036854775808 := rfl
  simp [Lit.wf, e1, e2] at hw
  exact ⟨i, rfl, by omega, by omega⟩
def ciD (n : Int) : D := .val (.int .i64 n)
def csD (s : ByteArray) : D := .val (.string s)
end Go.Proofs.YtiolnmfaeenlmaaGreatDoor
