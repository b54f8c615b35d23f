/- THE ROW 'NestSplit', PROVED: whatever the arguments: true; each argument reads behind the call as it read before. -/
import Derived.Test.YtogjmafjoliimaaNh
import Derived.Test.YtogjmafjoliimaaNo
namespace Go.Proofs.Ytogjmafjoliimaa
open Go Go.RowKit Go.WideShapes Go.ChangeShapes

theorem nestSplit_lifted (os : Os) (started : os.Started) (H : Type) (enc : TypeId × Value → H) :
    ReturnsInHanded {} Try.checked os 5 .any (Rows.nestSplitSpec.pre6 enc Try.prog Try.f5 Rows.nestSplitRow.domain false) (Rows.nestSplitSpec.post enc Try.prog Try.f5 false true false false) := by
  refine returnsInHanded_of_change (C := Try.checked) Try.own started (by kernel_rfl) Try.func5
    (ChangeSpec.witness6 (enc := enc) (C := Try.checked) false ⟨#[], #[.string ⟨#[]⟩], []⟩ 8 (by kernel_rfl) (by kernel_rfl) (by kernel_rfl) (by kernel_rfl)) ?_
  intro W base args ds gs before hval hW _ _
  refine law_post (n := 5) (tb := 4) tab_ok Try.laidOut rfl (by kernel_rfl) (by kernel_rfl) (fun l hl => ?_) (by kernel_rfl) (by kernel_rfl) (fun xs hx => ?_) hval hW
  · match l, hl with
    | [d1], _ => exact ⟨rfl, rfl, rfl⟩
  · obtain ⟨x1, _, rfl, h1, rfl⟩ := hx
    obtain ⟨a1, rfl, l1⟩ := open_str h1
    exact split_law a1 l1

theorem nestSplit_holds : Rows.NestSplitSaid :=
  OpenClaim.holds_of_wide 5 Try.f5 rfl rfl rfl rfl rfl rfl rfl ⟨rfl, rfl, rfl, rfl, rfl⟩ rfl rfl rfl rfl rfl (by kernel_rfl) Try.func5 (by kernel_rfl)
    (of_decide_eq_true (by kernel_rfl)) (by unfold Func.isWrapper; first | (rw [if_pos (by decide +kernel)]; kernel_rfl) | (rw [if_neg (by decide +kernel)]; exact ⟨rfl, rfl⟩))
    (fun os started H enc _ => nestSplit_lifted os started H enc)

end Go.Proofs.Ytogjmafjoliimaa
