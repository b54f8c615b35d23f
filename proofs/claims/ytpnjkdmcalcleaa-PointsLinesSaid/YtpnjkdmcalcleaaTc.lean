/- THE ROW 'PointsLines', PROVED: whatever the kinds: true; they read behind the call as they read before. -/
import Derived.Test.YtpnjkdmcalcleaaAa
namespace Go.Proofs.Ytpnjkdmcalcleaa
open Go Go.RowKit Go.WideShapes Go.ChangeShapes

theorem pointsLines_lifted (os : Os) (started : os.Started) (H : Type) (enc : TypeId × Value → H) :
    ReturnsInHanded {} Try.checked os 5 .any (Rows.pointsLinesSpec.pre6 enc Try.prog Try.f5 Rows.pointsLinesRow.domain false) (Rows.pointsLinesSpec.post enc Try.prog Try.f5 false true false false) := by
  refine returnsInHanded_of_change (C := Try.checked) Try.own started (by kernel_rfl) Try.func5
    (ChangeSpec.witness6 (enc := enc) (C := Try.checked) false ⟨#[], #[.slice none 0 0], []⟩ 8 (by kernel_rfl) (by kernel_rfl) (by kernel_rfl) (by kernel_rfl)) ?_
  intro W base args ds gs before hval hW _ _
  refine law_post (n := 5) (tb := 4) tab_ok Try.laidOut rfl (by kernel_rfl) (by kernel_rfl) (fun l hl => ?_) (by kernel_rfl) (by kernel_rfl) (fun xs hx => ?_) hval hW
  · match l, hl with
    | [d1], _ => exact ⟨rfl, rfl, rfl⟩
  · obtain ⟨x, _, rfl, ⟨es, rfl, hl, h2⟩, rfl⟩ := hx
    obtain ⟨l, rfl, hz⟩ := list_of2 (fun _ h => open_i64 h) _ h2
    simp only [List.length_map, maxLen] at hl
    exact lawLines l (by omega) fun z h => (hz z h).symm


theorem pointsLines_holds : Rows.PointsLinesSaid :=
  OpenClaim.holds_of_wide 5 Try.f5 rfl rfl rfl rfl rfl rfl rfl ⟨rfl, rfl, rfl, rfl, rfl⟩ rfl rfl rfl rfl rfl (by kernel_rfl) Try.func5 (by kernel_rfl)
    (of_decide_eq_true (by kernel_rfl)) (by unfold Func.isWrapper; first | (rw [if_pos (by decide +kernel)]; kernel_rfl) | (rw [if_neg (by decide +kernel)]; exact ⟨rfl, rfl⟩))
    (fun os started H enc _ => pointsLines_lifted os started H enc)

end Go.Proofs.Ytpnjkdmcalcleaa
