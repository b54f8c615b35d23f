/- THE ROW 'PointsRead', PROVED: whatever the bytes, the sign and the text: true; each argument reads behind the call as it read before. -/
import Derived.Test.YtpnjkdmcalcleaaA9
namespace Go.Proofs.Ytpnjkdmcalcleaa
open Go Go.RowKit Go.WideShapes Go.ChangeShapes

theorem pointsRead_lifted (os : Os) (started : os.Started) (H : Type) (enc : TypeId × Value → H) :
    ReturnsInHanded {} Try.checked os 3 .any (Rows.pointsReadSpec.pre6 enc Try.prog Try.f3 Rows.pointsReadRow.domain false) (Rows.pointsReadSpec.post enc Try.prog Try.f3 false true false false) := by
  refine returnsInHanded_of_change (C := Try.checked) Try.own started (by kernel_rfl) Try.func3
    (ChangeSpec.witness6 (enc := enc) (C := Try.checked) false ⟨#[], #[.slice none 0 0, .int .i32 0, .string ⟨#[]⟩], []⟩ 8 (by kernel_rfl) (by kernel_rfl) (by kernel_rfl) (by kernel_rfl)) ?_
  intro W base args ds gs before hval hW _ _
  refine law_post (n := 5) (tb := 4) tab_ok Try.laidOut rfl (by kernel_rfl) (by kernel_rfl) (fun l hl => ?_) (by kernel_rfl) (by kernel_rfl) (fun xs hx => ?_) hval hW
  · match l, hl with
    | [d1, d2, d3], _ => exact ⟨rfl, rfl, rfl⟩
  · obtain ⟨x, _, rfl, h1, y, _, rfl, h2, z, _, rfl, h3, rfl⟩ := hx
    obtain ⟨b, rfl, hb⟩ := open_bytes h1
    obtain ⟨r, rfl, _, _⟩ := open_i32 h2
    obtain ⟨s, rfl, hs⟩ := open_str h3
    exact lawRead b r s hb hs


theorem pointsRead_holds : Rows.PointsReadSaid :=
  OpenClaim.holds_of_wide 3 Try.f3 rfl rfl rfl rfl rfl rfl rfl ⟨rfl, rfl, rfl, rfl, rfl⟩ rfl rfl rfl rfl rfl (by kernel_rfl) Try.func3 (by kernel_rfl)
    (of_decide_eq_true (by kernel_rfl)) (by unfold Func.isWrapper; first | (rw [if_pos (by decide +kernel)]; kernel_rfl) | (rw [if_neg (by decide +kernel)]; exact ⟨rfl, rfl⟩))
    (fun os started H enc _ => pointsRead_lifted os started H enc)

end Go.Proofs.Ytpnjkdmcalcleaa
