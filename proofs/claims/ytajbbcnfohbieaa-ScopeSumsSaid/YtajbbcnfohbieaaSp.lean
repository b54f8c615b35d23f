/- THE ROW 'ScopeSums', PROVED: whatever the arguments: true; each argument reads behind the call as it read before. -/
import Derived.Test.YtajbbcnfohbieaaSo
import Derived.Test.YtajbbcnfohbieaaSa
namespace Go.Proofs.Ytajbbcnfohbieaa
open Go Go.RowKit Go.WideShapes Go.ChangeShapes

theorem scopeSums_lifted (os : Os) (started : os.Started) (H : Type) (enc : TypeId × Value → H) :
    ReturnsInHanded {} Try.checked os 3 .any (Rows.scopeSumsSpec.pre6 enc Try.prog Try.f3 Rows.scopeSumsRow.domain false) (Rows.scopeSumsSpec.post enc Try.prog Try.f3 false true false false) := by
  refine returnsInHanded_of_change (C := Try.checked) Try.own started (by kernel_rfl) Try.func3
    (ChangeSpec.witness6 (enc := enc) (C := Try.checked) false ⟨#[], #[.int .i64 0, .slice none 0 0], []⟩ 8 (by kernel_rfl) (by kernel_rfl) (by kernel_rfl) (by kernel_rfl)) ?_
  intro W base args ds gs before hval hW _ _
  refine law_post (n := 5) (tb := 4) tab_ok Try.laidOut rfl (by kernel_rfl) (by kernel_rfl) (fun l hl => ?_) (by kernel_rfl) (by kernel_rfl) (fun xs hx => ?_) hval hW
  · match l, hl with
    | [d1, d2], _ => exact ⟨rfl, rfl, rfl⟩
  · obtain ⟨x1, _, rfl, h1, x2, _, rfl, h2, rfl⟩ := hx
    obtain ⟨a1, rfl, l1, g1⟩ := open_i64 h1
    obtain ⟨a2, rfl, m2, l2⟩ := open_ints h2
    exact sums_ok a1 a2 l2

theorem scopeSums_holds : Rows.ScopeSumsSaid :=
  OpenClaim.holds_of_wide 3 Try.f3 rfl rfl rfl rfl rfl rfl rfl ⟨rfl, rfl, rfl, rfl, rfl⟩ rfl rfl rfl rfl rfl (by kernel_rfl) Try.func3 (by kernel_rfl)
    (of_decide_eq_true (by kernel_rfl)) (by unfold Func.isWrapper; first | (rw [if_pos (by decide +kernel)]; kernel_rfl) | (rw [if_neg (by decide +kernel)]; exact ⟨rfl, rfl⟩))
    (fun os started H enc _ => scopeSums_lifted os started H enc)

end Go.Proofs.Ytajbbcnfohbieaa
