/- THE ROW 'DomForms', PROVED: whatever the arguments: true; each argument reads behind the call as it read before. -/
import Derived.Test.YtklodolkgdmhoaaWk
import Derived.Test.YtklodolkgdmhoaaWn
namespace Go.Proofs.Ytklodolkgdmhoaa
open Go Go.RowKit Go.WideShapes Go.ChangeShapes

theorem domForms_lifted (os : Os) (started : os.Started) (H : Type) (enc : TypeId × Value → H) :
    ReturnsInHanded {} Try.checked os 4 .any (Rows.domFormsSpec.pre6 enc Try.prog Try.f4 Rows.domFormsRow.domain false) (Rows.domFormsSpec.post enc Try.prog Try.f4 false true false false) := by
  refine returnsInHanded_of_change (C := Try.checked) Try.own started (by kernel_rfl) Try.func4
    (ChangeSpec.witness6 (enc := enc) (C := Try.checked) false ⟨#[], #[.int .i64 0, .int .i64 0, .int .i64 0, .bool false], []⟩ 8 (by kernel_rfl) (by kernel_rfl) (by kernel_rfl) (by kernel_rfl)) ?_
  intro W base args ds gs before hval hW _ _
  refine law_post (n := 5) (tb := 4) tab_ok Try.laidOut rfl (by kernel_rfl) (by kernel_rfl) (fun l hl => ?_) (by kernel_rfl) (by kernel_rfl) (fun xs hx => ?_) hval hW
  · match l, hl with
    | [d1, d2, d3, d4], _ => exact ⟨rfl, rfl, rfl⟩
  · obtain ⟨x1, _, rfl, h1, x2, _, rfl, h2, x3, _, rfl, h3, x4, _, rfl, h4, rfl⟩ := hx
    obtain ⟨a1, rfl, g1⟩ := open_i64 h1
    obtain ⟨a2, rfl, g2⟩ := open_i64 h2
    obtain ⟨a3, rfl, g3⟩ := open_i64 h3
    obtain ⟨a4, rfl⟩ := open_bool h4
    exact lawForms a1 a2 a3 a4 g1 g2 g3

theorem domForms_holds : Rows.DomFormsSaid :=
  OpenClaim.holds_of_wide 4 Try.f4 rfl rfl rfl rfl rfl rfl rfl ⟨rfl, rfl, rfl, rfl, rfl⟩ rfl rfl rfl rfl rfl (by kernel_rfl) Try.func4 (by kernel_rfl)
    (of_decide_eq_true (by kernel_rfl)) (by unfold Func.isWrapper; first | (rw [if_pos (by decide +kernel)]; kernel_rfl) | (rw [if_neg (by decide +kernel)]; exact ⟨rfl, rfl⟩))
    (fun os started H enc _ => domForms_lifted os started H enc)

end Go.Proofs.Ytklodolkgdmhoaa
