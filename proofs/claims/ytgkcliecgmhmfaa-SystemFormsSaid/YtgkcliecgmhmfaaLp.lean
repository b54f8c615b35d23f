/- law9: a given style is such a style. -/
import Derived.Test.YtgkcliecgmhmfaaLo
import Derived.Test.YtgkcliecgmhmfaaL1
namespace Go.Proofs.Ytgkcliecgmhmfaa
open Go Go.RowKit Go.WideShapes Go.ChangeShapes

theorem open_str {n : Nat} {x : D} (h : DT tab (n + 1) 9 x) : ∃ s, x = sD s := by
  obtain ⟨s, rfl, _⟩ := h; exact ⟨s, rfl⟩
theorem open_rg {n : Nat} {x : D} (h : DT tab (n + 2) 38 x) : ∃ r, x = rgD r := by
  obtain ⟨_, rfl, _, _, rfl, ⟨a, rfl, _⟩, _, _, rfl, ⟨b, rfl, _⟩, rfl⟩ := h
  exact ⟨(a, b), rfl⟩
theorem open_def {x : D} (h : DT tab 5 28 x) : ∃ d : Df, x.av = dfA d ∧ d.syms.length ≤ 9223372036854775807 ∧ -9223372036854775808 ≤ d.first := by
  obtain ⟨_, rfl, _, _, rfl, ⟨a0, rfl, _⟩, _, _, rfl, ⟨a1, rfl, _⟩, _, _, rfl, h2, _, _, rfl, ⟨a3, rfl, l3, h3⟩, _, _, rfl, ⟨a4, rfl, l4, h4⟩, _, _, rfl, ⟨_, rfl, _, _, rfl, ⟨b0, rfl, _⟩, _, _, rfl, ⟨b1, rfl, _⟩, rfl⟩,
    _, _, rfl, ⟨a6, rfl, _⟩, _, _, rfl, ⟨a7, rfl, _⟩, _, _, rfl, ⟨a8, rfl⟩, _, _, rfl, ⟨a9, rfl, l9, h9⟩, _, _, rfl, ⟨a10, rfl, _⟩, _, _, rfl, ⟨a11, rfl, _⟩, _, _, rfl, ⟨a12, rfl, _⟩, _, _, rfl, ⟨a13, rfl, _⟩, _, _, rfl, ⟨a14, rfl, _⟩, rfl⟩ := h
  obtain ⟨i2, rfl, _, g2⟩ := open_i64 h2
  obtain ⟨s3, rfl⟩ := list_of (fun _ h => open_str h) _ h3
  obtain ⟨w4, rfl, _⟩ := ints_of _ (fun x hx => open_i64 (h4 x hx))
  obtain ⟨r9, rfl⟩ := list_of (fun _ h => open_rg h) _ h9
  simp only [List.length_map, maxLen] at l3
  exact ⟨⟨a0, a1, i2, s3, w4, b0, b1, a6, a7, a8, r9, a10, a11, a12, a13, a14⟩, rfl, by dsimp only; omega, g2⟩
/-- A style's zero. -/
def df0V : Value := .agg #[.string ⟨#[]⟩, .string ⟨#[]⟩, .int .i64 0, .slice none 0 0, .slice none 0 0, .string ⟨#[]⟩, .string ⟨#[]⟩, .string ⟨#[]⟩, .string ⟨#[]⟩, .bool false, .slice none 0 0, .int .i64 0, .string ⟨#[]⟩, .string ⟨#[]⟩, .string ⟨#[]⟩, .int .i64 0]
end Go.Proofs.Ytgkcliecgmhmfaa
