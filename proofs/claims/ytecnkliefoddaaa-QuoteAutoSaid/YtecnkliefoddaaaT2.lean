/- THE ROW 'QuoteAuto', PROVED: whatever the depth and whether it opens: true; each argument reads behind the call as it read before. -/
import Derived.Test.YtecnkliefoddaaaR
import Derived.Test.YtecnkliefoddaaaQ4
namespace Go.Proofs.Ytecnkliefoddaaa
open Go Go.RowKit Go.WideShapes Go.ChangeShapes

theorem quoteAuto_lifted (os : Os) (started : os.Started) (H : Type) (enc : TypeId × Value → H) :
    ReturnsInHanded {} Try.checked os 5 .any (Rows.quoteAutoSpec.pre6 enc Try.prog Try.f5 Rows.quoteAutoRow.domain false) (Rows.quoteAutoSpec.post enc Try.prog Try.f5 false true false false) := by
  refine returnsInHanded_of_change (C := Try.checked) Try.own started (by kernel_rfl) Try.func5
    (ChangeSpec.witness6 (enc := enc) (C := Try.checked) false ⟨#[], #[.int .i64 0, .bool false], []⟩ 8 (by kernel_rfl) (by kernel_rfl) (by kernel_rfl) (by kernel_rfl)) ?_
  intro W base args ds gs before hval hW _ _
  refine law_post (n := 5) (tb := 4) tab_ok Try.laidOut rfl (by kernel_rfl) (by kernel_rfl) (fun l hl => ?_) (by kernel_rfl) (by kernel_rfl) (fun xs hx => ?_) hval hW
  · match l, hl with
    | [d1, d2], _ => exact ⟨rfl, rfl, rfl⟩
  · obtain ⟨x, _, rfl, h1, y, _, rfl, ⟨b, rfl⟩, rfl⟩ := hx
    obtain ⟨i, e2, i1, i2⟩ := open_i64 h1
    simp only [List.map_cons, List.map_nil, e2]
    exact auto_ok i b i1 i2

theorem quoteAuto_holds : Rows.QuoteAutoSaid :=
  OpenClaim.holds_of_wide 5 Try.f5 rfl rfl rfl rfl rfl rfl rfl ⟨rfl, rfl, rfl, rfl, rfl⟩ rfl rfl rfl rfl rfl (by kernel_rfl) Try.func5 (by kernel_rfl)
    (of_decide_eq_true (by kernel_rfl)) (by unfold Func.isWrapper; first | (rw [if_pos (by decide +kernel)]; kernel_rfl) | (rw [if_neg (by decide +kernel)]; exact ⟨rfl, rfl⟩))
    (fun os started H enc _ => quoteAuto_lifted os started H enc)

end Go.Proofs.Ytecnkliefoddaaa
