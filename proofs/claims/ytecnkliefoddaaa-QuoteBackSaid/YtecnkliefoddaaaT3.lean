/- THE ROW 'QuoteBack', PROVED: whatever the three numbers: true; each argument reads behind the call as it read before. -/
import Derived.Test.YtecnkliefoddaaaR
import Derived.Test.YtecnkliefoddaaaQ5
namespace Go.Proofs.Ytecnkliefoddaaa
open Go Go.RowKit Go.WideShapes Go.ChangeShapes

theorem quoteBack_lifted (os : Os) (started : os.Started) (H : Type) (enc : TypeId × Value → H) :
    ReturnsInHanded {} Try.checked os 6 .any (Rows.quoteBackSpec.pre6 enc Try.prog Try.f6 Rows.quoteBackRow.domain false) (Rows.quoteBackSpec.post enc Try.prog Try.f6 false true false false) := by
  refine returnsInHanded_of_change (C := Try.checked) Try.own started (by kernel_rfl) Try.func6
    (ChangeSpec.witness6 (enc := enc) (C := Try.checked) false ⟨#[], #[.int .i64 0, .int .i64 0, .int .i64 0], []⟩ 8 (by kernel_rfl) (by kernel_rfl) (by kernel_rfl) (by kernel_rfl)) ?_
  intro W base args ds gs before hval hW _ _
  refine law_post (n := 5) (tb := 4) tab_ok Try.laidOut rfl (by kernel_rfl) (by kernel_rfl) (fun l hl => ?_) (by kernel_rfl) (by kernel_rfl) (fun xs hx => ?_) hval hW
  · match l, hl with
    | [d1, d2, d3], _ => exact ⟨rfl, rfl, rfl⟩
  · obtain ⟨x, _, rfl, h1, y, _, rfl, h2, z, _, rfl, h3, rfl⟩ := hx
    obtain ⟨i, e1, i1, i2⟩ := open_i64 h1
    obtain ⟨j, e2, j1, j2⟩ := open_i64 h2
    obtain ⟨k, e3, k1, k2⟩ := open_i64 h3
    simp only [List.map_cons, List.map_nil, e1, e2, e3]
    exact back_ok i j k

theorem quoteBack_holds : Rows.QuoteBackSaid :=
  OpenClaim.holds_of_wide 6 Try.f6 rfl rfl rfl rfl rfl rfl rfl ⟨rfl, rfl, rfl, rfl, rfl⟩ rfl rfl rfl rfl rfl (by kernel_rfl) Try.func6 (by kernel_rfl)
    (of_decide_eq_true (by kernel_rfl)) (by unfold Func.isWrapper; first | (rw [if_pos (by decide +kernel)]; kernel_rfl) | (rw [if_neg (by decide +kernel)]; exact ⟨rfl, rfl⟩))
    (fun os started H enc _ => quoteBack_lifted os started H enc)

end Go.Proofs.Ytecnkliefoddaaa
