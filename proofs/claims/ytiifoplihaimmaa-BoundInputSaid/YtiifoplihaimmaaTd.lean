/- THE ROW 'BoundInput', PROVED: whatever the six numbers: true; each argument reads behind the call as it read before. -/
import Derived.Test.YtiifoplihaimmaaB3
import Derived.Test.YtiifoplihaimmaaB7
namespace Go.Proofs.Ytiifoplihaimmaa
open Go Go.RowKit Go.WideShapes Go.ChangeShapes

theorem boundInput_lifted (os : Os) (started : os.Started) (H : Type) (enc : TypeId × Value → H) :
    ReturnsInHanded {} Try.checked os 3 .any (Rows.boundInputSpec.pre6 enc Try.prog Try.f3 Rows.boundInputRow.domain false) (Rows.boundInputSpec.post enc Try.prog Try.f3 false true false false) := by
  refine returnsInHanded_of_change (C := Try.checked) Try.own started (by kernel_rfl) Try.func3
    (ChangeSpec.witness6 (enc := enc) (C := Try.checked) false ⟨#[], #[.int .i64 0, .int .i64 0, .int .i64 0, .int .i64 0, .int .i64 0, .int .i64 0], []⟩ 8 (by kernel_rfl) (by kernel_rfl) (by kernel_rfl) (by kernel_rfl)) ?_
  intro W base args ds gs before hval hW _ _
  refine law_post (n := 5) (tb := 4) tab_ok Try.laidOut rfl (by kernel_rfl) (by kernel_rfl) (fun l hl => ?_) (by kernel_rfl) (by kernel_rfl) (fun xs hx => ?_) hval hW
  · match l, hl with
    | [d1, d2, d3, d4, d5, d6], _ => exact ⟨rfl, rfl, rfl⟩
  · obtain ⟨x1, _, rfl, h1, x2, _, rfl, h2, x3, _, rfl, h3, x4, _, rfl, h4, x5, _, rfl, h5, x6, _, rfl, h6, rfl⟩ := hx
    obtain ⟨i1, e1, _, _⟩ := open_i64 h1
    obtain ⟨i2, e2, _, _⟩ := open_i64 h2
    obtain ⟨i3, e3, _, _⟩ := open_i64 h3
    obtain ⟨i4, e4, _, _⟩ := open_i64 h4
    obtain ⟨i5, e5, _, _⟩ := open_i64 h5
    obtain ⟨i6, e6, _, _⟩ := open_i64 h6
    simp only [List.map_cons, List.map_nil, e1, e2, e3, e4, e5, e6]
    exact lawInput_ok i1 i2 i3 i4 i5 i6

theorem boundInput_holds : Rows.BoundInputSaid :=
  OpenClaim.holds_of_wide 3 Try.f3 rfl rfl rfl rfl rfl rfl rfl ⟨rfl, rfl, rfl, rfl, rfl⟩ rfl rfl rfl rfl rfl (by kernel_rfl) Try.func3 (by kernel_rfl)
    (of_decide_eq_true (by kernel_rfl)) (by unfold Func.isWrapper; first | (rw [if_pos (by decide +kernel)]; kernel_rfl) | (rw [if_neg (by decide +kernel)]; exact ⟨rfl, rfl⟩))
    (fun os started H enc _ => boundInput_lifted os started H enc)

end Go.Proofs.Ytiifoplihaimmaa
