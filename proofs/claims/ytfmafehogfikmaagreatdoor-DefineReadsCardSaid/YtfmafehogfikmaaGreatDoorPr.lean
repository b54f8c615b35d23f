/- law12, law10: what the rows' listed tables give the walks; the door's own heap. -/
import Derived.Test.YtfmafehogfikmaaGreatDoorP
import Derived.Test.YtfmafehogfikmaaGreatDoorRows
import Derived.Test.YtfmafehogfikmaaGreatDoorTie
import Derived.Test.YtfmafehogfikmaaGreatDoorCards
import Derived.ProofKit
import Derived.LaidMore
import Derived.OpenShut
import Derived.Stop.Joined
import Derived.SevenTiedAt
import Derived.Lib.LaidTab
namespace Go.Proofs.YtfmafehogfikmaaGreatDoor
open Go Go.RowKit Go.WideShapes Go.ChangeShapes Go.ChangeAt

theorem Tryz.own : ownKnob Tryz.prog.godebug = none := by kernel_rfl
theorem Tryz.laidOut : laidOutB Tryz.prog = true := by kernel_rfl
def laid2 : List (String × DataW Unit) := [("unicode.White_Space", Rows.laid_unicode_White_Space), ("strings.asciiSpace", Rows.laid_strings_asciiSpace)]
def ascZ : List Int := (List.range 256).map fun k => if k = 32 ∨ (9 ≤ k ∧ k ≤ 13) then 1 else 0
theorem gAsc : Tryz.prog.globalNamed "strings.asciiSpace" = some 0 := by kernel_rfl
theorem ascData : (Rows.laid_strings_asciiSpace : DataW Unit) = Lib.tabData .u8 ascZ := by kernel_rfl
theorem gAscT : (Tryz.prog.globals[0]?).map (·.type) = some 128 := by kernel_rfl
theorem uAsc : Tryz.prog.underlying 128 = some (.array 256 5) := by kernel_rfl
theorem uU8 : Tryz.prog.underlying 5 = some (.int .u8) := by kernel_rfl
theorem cU8 : Tryz.prog.cellsOf 5 = 1 := by kernel_rfl
theorem cAsc : Tryz.prog.cellsOf 128 = 256 := by kernel_rfl
theorem gl_of_laid {W : World} (h : laidMetH Tryz.prog laid2 W) : GL (fun b => b < W.heap.size) W := by
  rw [MakeChecks.laidMetH_plain _ _ _ (by kernel_rfl)] at h
  obtain ⟨ps, ⟨g0, t0, cs0, f0, p0, q0, hg0, ht0, hv0, hd0, ⟨g1, t1, cs1, f1, p1, q1, hg1, ht1, hv1, hd1, _, _⟩, _⟩, _, _⟩ := h
  obtain rfl := Option.some.inj (gAsc.symm.trans hg1)
  obtain rfl := Option.some.inj (gAscT.symm.trans ht1)
  rw [ascData] at hd1
  have hcs := Lib.cells_of_tab uAsc uU8 cU8 cAsc hd1
  clear hd1 hv0 hd0
  intro p hp
  obtain rfl : p = (0, (List.range 256).map fun k => Value.int .u8 (if k = 32 ∨ (9 ≤ k ∧ k ≤ 13) then 1 else 0)) := by simpa [glL] using hp
  have hcell : ∀ j : Nat, W.cell? ⟨0, j, none⟩ = (ascZ.map fun z => Value.int .u8 z)[j]? := fun j => by
    have := World.var?_cell hg1 hv1 j
    rw [← hcs, Array.getElem?_toList]
    simpa using this
  refine ⟨?_, fun j u hj => ?_⟩
  · exact World.block_lt_of_cell? _ _ ((hcell 0).trans rfl)
  · rw [hcell j, ← hj]
    exact congrArg (·[j]?) (by rw [ascZ, List.map_map]; rfl)
theorem door_met (os : Os) (args : Array Value) : laidMetH Tryz.prog laid2 ((World.doorLaid Tryz.prog 400 os).forCall (fun _ _ => 0) ⟨#[], args, []⟩).memory :=
  laidMetH_of_parts3 (fuel := 8) (laidMet_of_run' 8 (by kernel_rfl) (by kernel_rfl)) (by kernel_rfl) (by kernel_rfl)
end Go.Proofs.YtfmafehogfikmaaGreatDoor
