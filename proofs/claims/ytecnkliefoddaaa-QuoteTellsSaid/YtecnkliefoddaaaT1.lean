/- THE ROW 'QuoteTells', PROVED: whatever the style, the depth and the kind: true; each argument reads behind the call as it read before. -/
import Derived.Test.YtecnkliefoddaaaR
namespace Go.Proofs.Ytecnkliefoddaaa
open Go Go.RowKit Go.WideShapes Go.ChangeShapes

theorem quoteTells_lifted (os : Os) (started : os.Started) (H : Type) (enc : TypeId × Value → H) :
    ReturnsInHanded {} Try.checked os 3 .any (Rows.quoteTellsSpec.pre6 enc Try.prog Try.f3 Rows.quoteTellsRow.domain false) (Rows.quoteTellsSpec.post enc Try.prog Try.f3 false true false false) := by
  refine returnsInHanded_of_change (C := Try.checked) Try.own started (by kernel_rfl) Try.func3
    (ChangeSpec.witness6 (enc := enc) (C := Try.checked) false ⟨#[], #[st0V, .int .i64 0, .int .i64 0], []⟩ 8 (by kernel_rfl) (by kernel_rfl) (by kernel_rfl) (by kernel_rfl)) ?_
  intro W base args ds gs before hval hW _ _
  refine law_post (n := 5) (tb := 4) tab_ok Try.laidOut rfl (by kernel_rfl) (by kernel_rfl) (fun l hl => ?_) (by kernel_rfl) (by kernel_rfl) (fun xs hx => ?_) hval hW
  · match l, hl with
    | [d1, d2, d3], _ => exact ⟨rfl, rfl, rfl⟩
  · obtain ⟨x, _, rfl, h1, y, _, rfl, h2, z, _, rfl, h3, rfl⟩ := hx
    obtain ⟨s, e1, a1, a2, a3, a4, a5⟩ := open_style h1
    obtain ⟨i, e2, i1, _⟩ := open_i64 h2
    obtain ⟨j, e3, _, _⟩ := open_i64 h3
    simp only [List.map_cons, List.map_nil, e1, e2, e3]
    exact tells_ok s i j i1 a1 a2 a3 a4 a5

theorem quoteTells_holds : Rows.QuoteTellsSaid :=
  OpenClaim.holds_of_wide 3 Try.f3 rfl rfl rfl rfl rfl rfl rfl ⟨rfl, rfl, rfl, rfl, rfl⟩ rfl rfl rfl rfl rfl (by kernel_rfl) Try.func3 (by kernel_rfl)
    (of_decide_eq_true (by kernel_rfl)) (by unfold Func.isWrapper; first | (rw [if_pos (by decide +kernel)]; kernel_rfl) | (rw [if_neg (by decide +kernel)]; exact ⟨rfl, rfl⟩))
    (fun os started H enc _ => quoteTells_lifted os started H enc)

end Go.Proofs.Ytecnkliefoddaaa
