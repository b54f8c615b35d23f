/- THE ROW 'PointsBack', PROVED: whatever the bytes: true; they read behind the call as they read before. -/
import Derived.Test.YtpnjkdmcalcleaaAb
namespace Go.Proofs.Ytpnjkdmcalcleaa
open Go Go.RowKit Go.WideShapes Go.ChangeShapes

theorem pointsBack_lifted (os : Os) (started : os.Started) (H : Type) (enc : TypeId × Value → H) :
    ReturnsInHanded {} Try.checked os 4 .any (Rows.pointsBackSpec.pre6 enc Try.prog Try.f4 Rows.pointsBackRow.domain false) (Rows.pointsBackSpec.post enc Try.prog Try.f4 false true false false) := by
  refine returnsInHanded_of_change (C := Try.checked) Try.own started (by kernel_rfl) Try.func4
    (ChangeSpec.witness6 (enc := enc) (C := Try.checked) false ⟨#[], #[.slice none 0 0], []⟩ 8 (by kernel_rfl) (by kernel_rfl) (by kernel_rfl) (by kernel_rfl)) ?_
  intro W base args ds gs before hval hW _ _
  refine law_post (n := 5) (tb := 4) tab_ok Try.laidOut rfl (by kernel_rfl) (by kernel_rfl) (fun l hl => ?_) (by kernel_rfl) (by kernel_rfl) (fun xs hx => ?_) hval hW
  · match l, hl with
    | [d1], _ => exact ⟨rfl, rfl, rfl⟩
  · obtain ⟨x, _, rfl, h1, rfl⟩ := hx
    obtain ⟨b, rfl, hb⟩ := open_bytes h1
    exact lawBack b hb


theorem pointsBack_holds : Rows.PointsBackSaid :=
  OpenClaim.holds_of_wide 4 Try.f4 rfl rfl rfl rfl rfl rfl rfl ⟨rfl, rfl, rfl, rfl, rfl⟩ rfl rfl rfl rfl rfl (by kernel_rfl) Try.func4 (by kernel_rfl)
    (of_decide_eq_true (by kernel_rfl)) (by unfold Func.isWrapper; first | (rw [if_pos (by decide +kernel)]; kernel_rfl) | (rw [if_neg (by decide +kernel)]; exact ⟨rfl, rfl⟩))
    (fun os started H enc _ => pointsBack_lifted os started H enc)

end Go.Proofs.Ytpnjkdmcalcleaa
