/- THE ROW 'DomOrder', PROVED: whatever the parents: true; each argument reads behind the call as it read before. -/
import Derived.Test.YtklodolkgdmhoaaWk
import Derived.Test.YtklodolkgdmhoaaWx
namespace Go.Proofs.Ytklodolkgdmhoaa
open Go Go.RowKit Go.WideShapes Go.ChangeShapes

theorem domOrder_lifted (os : Os) (started : os.Started) (H : Type) (enc : TypeId × Value → H) :
    ReturnsInHanded {} Try.checked os 3 .any (Rows.domOrderSpec.pre6 enc Try.prog Try.f3 Rows.domOrderRow.domain false) (Rows.domOrderSpec.post enc Try.prog Try.f3 false true false false) := by
  refine returnsInHanded_of_change (C := Try.checked) Try.own started (by kernel_rfl) Try.func3
    (ChangeSpec.witness6 (enc := enc) (C := Try.checked) false ⟨#[], #[.slice none 0 0], []⟩ 8 (by kernel_rfl) (by kernel_rfl) (by kernel_rfl) (by kernel_rfl)) ?_
  intro W base args ds gs before hval hW _ _
  refine law_post (n := 5) (tb := 4) tab_ok Try.laidOut rfl (by kernel_rfl) (by kernel_rfl) (fun l hl => ?_) (by kernel_rfl) (by kernel_rfl) (fun xs hx => ?_) hval hW
  · match l, hl with
    | [d1], _ => exact ⟨rfl, rfl, rfl⟩
  · obtain ⟨x1, _, rfl, h1, rfl⟩ := hx
    obtain ⟨a1, rfl, l1, m1⟩ := open_ints h1
    exact lawOrder a1 m1

theorem domOrder_holds : Rows.DomOrderSaid :=
  OpenClaim.holds_of_wide 3 Try.f3 rfl rfl rfl rfl rfl rfl rfl ⟨rfl, rfl, rfl, rfl, rfl⟩ rfl rfl rfl rfl rfl (by kernel_rfl) Try.func3 (by kernel_rfl)
    (of_decide_eq_true (by kernel_rfl)) (by unfold Func.isWrapper; first | (rw [if_pos (by decide +kernel)]; kernel_rfl) | (rw [if_neg (by decide +kernel)]; exact ⟨rfl, rfl⟩))
    (fun os started H enc _ => domOrder_lifted os started H enc)

end Go.Proofs.Ytklodolkgdmhoaa
