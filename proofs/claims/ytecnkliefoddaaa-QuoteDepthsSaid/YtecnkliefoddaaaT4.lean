/- THE ROW 'QuoteDepths', PROVED: whatever the kinds and the number of pairs: true; each argument reads behind the call as it read before. -/
import Derived.Test.YtecnkliefoddaaaR
import Derived.Test.YtecnkliefoddaaaQ6
namespace Go.Proofs.Ytecnkliefoddaaa
open Go Go.RowKit Go.WideShapes Go.ChangeShapes

theorem quoteDepths_lifted (os : Os) (started : os.Started) (H : Type) (enc : TypeId × Value → H) :
    ReturnsInHanded {} Try.checked os 4 .any (Rows.quoteDepthsSpec.pre6 enc Try.prog Try.f4 Rows.quoteDepthsRow.domain false) (Rows.quoteDepthsSpec.post enc Try.prog Try.f4 false true false false) := by
  refine returnsInHanded_of_change (C := Try.checked) Try.own started (by kernel_rfl) Try.func4
    (ChangeSpec.witness6 (enc := enc) (C := Try.checked) false ⟨#[], #[.slice none 0 0, .int .i64 0], []⟩ 8 (by kernel_rfl) (by kernel_rfl) (by kernel_rfl) (by kernel_rfl)) ?_
  intro W base args ds gs before hval hW _ _
  refine law_post (n := 5) (tb := 4) tab_ok Try.laidOut rfl (by kernel_rfl) (by kernel_rfl) (fun l hl => ?_) (by kernel_rfl) (by kernel_rfl) (fun xs hx => ?_) hval hW
  · match l, hl with
    | [d1, d2], _ => exact ⟨rfl, rfl, rfl⟩
  · obtain ⟨x, _, rfl, ⟨es, rfl, hl, hes⟩, y, _, rfl, h2, rfl⟩ := hx
    obtain ⟨l, rfl⟩ := list_of (f := iDn) (fun _ h => by obtain ⟨i, rfl, _⟩ := h; exact ⟨i, rfl⟩) _ hes
    obtain ⟨j, e2, j1, j2⟩ := open_i64 h2
    simp only [List.length_map, maxLen] at hl
    simp only [List.map_cons, List.map_nil, e2]
    exact depths_ok l j (by omega)

theorem quoteDepths_holds : Rows.QuoteDepthsSaid :=
  OpenClaim.holds_of_wide 4 Try.f4 rfl rfl rfl rfl rfl rfl rfl ⟨rfl, rfl, rfl, rfl, rfl⟩ rfl rfl rfl rfl rfl (by kernel_rfl) Try.func4 (by kernel_rfl)
    (of_decide_eq_true (by kernel_rfl)) (by unfold Func.isWrapper; first | (rw [if_pos (by decide +kernel)]; kernel_rfl) | (rw [if_neg (by decide +kernel)]; exact ⟨rfl, rfl⟩))
    (fun os started H enc _ => quoteDepths_lifted os started H enc)

end Go.Proofs.Ytecnkliefoddaaa
