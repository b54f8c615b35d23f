/- THE ROW 'SystemSizes', PROVED: whatever the number and the two bools: true; each argument reads behind the call as it read before. -/
import Derived.Test.YtgkcliecgmhmfaaLo
import Derived.Test.YtgkcliecgmhmfaaLe
namespace Go.Proofs.Ytgkcliecgmhmfaa
open Go Go.RowKit Go.WideShapes Go.ChangeShapes

theorem systemSizes_lifted (os : Os) (started : os.Started) (H : Type) (enc : TypeId × Value → H) :
    ReturnsInHanded {} Try.checked os 8 .any (Rows.systemSizesSpec.pre6 enc Try.prog Try.f8 Rows.systemSizesRow.domain false) (Rows.systemSizesSpec.post enc Try.prog Try.f8 false true false false) := by
  refine returnsInHanded_of_change (C := Try.checked) Try.own started (by kernel_rfl) Try.func8
    (ChangeSpec.witness6 (enc := enc) (C := Try.checked) false ⟨#[], #[.int .i64 0, .bool false, .bool false], []⟩ 8 (by kernel_rfl) (by kernel_rfl) (by kernel_rfl) (by kernel_rfl)) ?_
  intro W base args ds gs before hval hW _ _
  refine law_post (n := 5) (tb := 4) tab_ok Try.laidOut rfl (by kernel_rfl) (by kernel_rfl) (fun l hl => ?_) (by kernel_rfl) (by kernel_rfl) (fun xs hx => ?_) hval hW
  · match l, hl with
    | [d1, d2, d3], _ => exact ⟨rfl, rfl, rfl⟩
  · obtain ⟨x1, _, rfl, h1, x2, _, rfl, h2, x3, _, rfl, h3, rfl⟩ := hx
    obtain ⟨i1, rfl, _, _⟩ := open_i64 h1
    obtain ⟨b2, rfl⟩ := open_bool h2
    obtain ⟨b3, rfl⟩ := open_bool h3
    exact sizes_ok i1 b2 b3

theorem systemSizes_holds : Rows.SystemSizesSaid :=
  OpenClaim.holds_of_wide 8 Try.f8 rfl rfl rfl rfl rfl rfl rfl ⟨rfl, rfl, rfl, rfl, rfl⟩ rfl rfl rfl rfl rfl (by kernel_rfl) Try.func8 (by kernel_rfl)
    (of_decide_eq_true (by kernel_rfl)) (by unfold Func.isWrapper; first | (rw [if_pos (by decide +kernel)]; kernel_rfl) | (rw [if_neg (by decide +kernel)]; exact ⟨rfl, rfl⟩))
    (fun os started H enc _ => systemSizes_lifted os started H enc)

end Go.Proofs.Ytgkcliecgmhmfaa
