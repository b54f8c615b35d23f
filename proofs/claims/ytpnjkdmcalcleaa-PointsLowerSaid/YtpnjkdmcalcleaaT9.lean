/- THE ROW 'PointsLower', PROVED: whatever the text: true; it reads behind the call as it read before. -/
import Derived.Test.YtpnjkdmcalcleaaA7
namespace Go.Proofs.Ytpnjkdmcalcleaa
open Go Go.RowKit Go.WideShapes Go.ChangeShapes

theorem pointsLower_lifted (os : Os) (started : os.Started) (H : Type) (enc : TypeId × Value → H) :
    ReturnsInHanded {} Try.checked os 7 .any (Rows.pointsLowerSpec.pre6 enc Try.prog Try.f7 Rows.pointsLowerRow.domain false) (Rows.pointsLowerSpec.post enc Try.prog Try.f7 false true false false) := by
  refine returnsInHanded_of_change (C := Try.checked) Try.own started (by kernel_rfl) Try.func7
    (ChangeSpec.witness6 (enc := enc) (C := Try.checked) false ⟨#[], #[.string ⟨#[]⟩], []⟩ 8 (by kernel_rfl) (by kernel_rfl) (by kernel_rfl) (by kernel_rfl)) ?_
  intro W base args ds gs before hval hW _ _
  refine law_post (n := 5) (tb := 4) tab_ok Try.laidOut rfl (by kernel_rfl) (by kernel_rfl) (fun l hl => ?_) (by kernel_rfl) (by kernel_rfl) (fun xs hx => ?_) hval hW
  · match l, hl with
    | [d1], _ => exact ⟨rfl, rfl, rfl⟩
  · obtain ⟨x, _, rfl, h1, rfl⟩ := hx
    obtain ⟨s, rfl, hs⟩ := open_str h1
    exact lawLower s hs

theorem pointsLower_holds : Rows.PointsLowerSaid :=
  OpenClaim.holds_of_wide 7 Try.f7 rfl rfl rfl rfl rfl rfl rfl ⟨rfl, rfl, rfl, rfl, rfl⟩ rfl rfl rfl rfl rfl (by kernel_rfl) Try.func7 (by kernel_rfl)
    (of_decide_eq_true (by kernel_rfl)) (by unfold Func.isWrapper; first | (rw [if_pos (by decide +kernel)]; kernel_rfl) | (rw [if_neg (by decide +kernel)]; exact ⟨rfl, rfl⟩))
    (fun os started H enc _ => pointsLower_lifted os started H enc)

end Go.Proofs.Ytpnjkdmcalcleaa
