/- THE ROW 'DomTells', PROVED: whatever the table and the words: true; each argument reads behind the call as it read before. -/
import Derived.Test.YtklodolkgdmhoaaWk
import Derived.Test.YtklodolkgdmhoaaWy
namespace Go.Proofs.Ytklodolkgdmhoaa
open Go Go.RowKit Go.WideShapes Go.ChangeShapes

theorem domTells_lifted (os : Os) (started : os.Started) (H : Type) (enc : TypeId × Value → H) :
    ReturnsInHanded {} Try.checked os 6 .any (Rows.domTellsSpec.pre6 enc Try.prog Try.f6 Rows.domTellsRow.domain false) (Rows.domTellsSpec.post enc Try.prog Try.f6 false true false false) := by
  refine returnsInHanded_of_change (C := Try.checked) Try.own started (by kernel_rfl) Try.func6
    (ChangeSpec.witness6 (enc := enc) (C := Try.checked) false ⟨#[], #[.slice none 0 0, .string ⟨#[]⟩, .string ⟨#[]⟩], []⟩ 8 (by kernel_rfl) (by kernel_rfl) (by kernel_rfl) (by kernel_rfl)) ?_
  intro W base args ds gs before hval hW _ _
  refine law_post (n := 5) (tb := 4) tab_ok Try.laidOut rfl (by kernel_rfl) (by kernel_rfl) (fun l hl => ?_) (by kernel_rfl) (by kernel_rfl) (fun xs hx => ?_) hval hW
  · match l, hl with
    | [d1, d2, d3], _ => exact ⟨rfl, rfl, rfl⟩
  · obtain ⟨x1, _, rfl, h1, x2, _, rfl, h2, x3, _, rfl, h3, rfl⟩ := hx
    obtain ⟨a1, rfl, l1, m1⟩ := open_raws h1
    obtain ⟨a2, rfl, l2⟩ := open_str h2
    obtain ⟨a3, rfl, l3⟩ := open_str h3
    exact lawTells a1 a2 a3 l1 m1 l2 l3

theorem domTells_holds : Rows.DomTellsSaid :=
  OpenClaim.holds_of_wide 6 Try.f6 rfl rfl rfl rfl rfl rfl rfl ⟨rfl, rfl, rfl, rfl, rfl⟩ rfl rfl rfl rfl rfl (by kernel_rfl) Try.func6 (by kernel_rfl)
    (of_decide_eq_true (by kernel_rfl)) (by unfold Func.isWrapper; first | (rw [if_pos (by decide +kernel)]; kernel_rfl) | (rw [if_neg (by decide +kernel)]; exact ⟨rfl, rfl⟩))
    (fun os started H enc _ => domTells_lifted os started H enc)

end Go.Proofs.Ytklodolkgdmhoaa
