/- Quote: the arguments of the laws, opened; a given style is such a style. -/
import Derived.Test.YtecnkliefoddaaaQ3
import Derived.Test.YtecnkliefoddaaaP
import Derived.Test.YtecnkliefoddaaaRows
namespace Go.Proofs.Ytecnkliefoddaaa
open Go Go.RowKit Go.WideShapes Go.ChangeShapes

theorem Try.own : ownKnob Try.prog.godebug = none := by kernel_rfl
theorem Try.laidOut : laidOutB Try.prog = true := by kernel_rfl

theorem list_of {α : Type} {R : D → Prop} {f : α → D} (h : ∀ x, R x → ∃ a, x = f a) : ∀ es : List D, (∀ x ∈ es, R x) → ∃ l : List α, es = l.map f
  | [], _ => ⟨[], rfl⟩
  | x :: es, hx => by
    obtain ⟨a, rfl⟩ := h x (hx x (by simp))
    obtain ⟨l, rfl⟩ := list_of h es fun y hy => hx y (by simp [hy])
    exact ⟨a :: l, rfl⟩
theorem open_str {n : Nat} {x : D} (h : DT tab n 9 x) : ∃ s, x = sD s := by
  cases n with
  | zero => exact h.elim
  | succ n => obtain ⟨s, rfl, _⟩ := h; exact ⟨s, rfl⟩
theorem open_item {n : Nat} {x : D} (h : DT tab (n + 2) 43 x) : ∃ s, x = iD s := by
  obtain ⟨_, rfl, _, _, rfl, ⟨a, rfl, _⟩, _, _, rfl, ⟨b, rfl, _⟩, _, _, rfl, ⟨c, rfl, _⟩, _, _, rfl, ⟨d, rfl, _⟩, rfl⟩ := h
  exact ⟨⟨a, b, c, d⟩, rfl⟩
theorem open_pair {n : Nat} {x : D} (h : DT tab (n + 2) 47 x) : ∃ s, x = pD s := by
  obtain ⟨_, rfl, _, _, rfl, ⟨a, rfl, _⟩, _, _, rfl, ⟨b, rfl, _⟩, _, _, rfl, ⟨c, rfl⟩, _, _, rfl, ⟨d, rfl⟩, rfl⟩ := h
  exact ⟨⟨a, b, c, d⟩, rfl⟩
theorem open_style {x : D} (h : DT tab 5 26 x) : ∃ s : Style, x.av = stA s ∧ s.content.length ≤ 9223372036854775807 ∧ s.quotes.length ≤ 9223372036854775807 ∧ s.reset.length ≤ 9223372036854775807 ∧ s.add.length ≤ 9223372036854775807 ∧ s.set.length ≤ 9223372036854775807 := by
  obtain ⟨_, rfl, _, _, rfl, ⟨a0, rfl, _⟩, _, _, rfl, ⟨a1, rfl, _⟩, _, _, rfl, ⟨a2, rfl, _⟩, _, _, rfl, ⟨a3, rfl, l3, h3⟩, _, _, rfl, ⟨a4, rfl⟩, _, _, rfl, ⟨a5, rfl⟩, _, _, rfl, ⟨a6, rfl, l6, h6⟩, _, _, rfl, ⟨a7, rfl⟩,
    _, _, rfl, ⟨a8, rfl, l8, h8⟩, _, _, rfl, ⟨a9, rfl, l9, h9⟩, _, _, rfl, ⟨a10, rfl, l10, h10⟩, rfl⟩ := h
  obtain ⟨b3, rfl⟩ := list_of (fun _ h => open_item h) _ h3
  obtain ⟨b6, rfl⟩ := list_of (fun _ h => open_str h) _ h6
  obtain ⟨b8, rfl⟩ := list_of (fun _ h => open_pair h) _ h8
  obtain ⟨b9, rfl⟩ := list_of (fun _ h => open_pair h) _ h9
  obtain ⟨b10, rfl⟩ := list_of (fun _ h => open_pair h) _ h10
  simp only [List.length_map, maxLen] at l3 l6 l8 l9 l10
  exact ⟨⟨a0, a1, a2, b3, a4, a5, b6, a7, b8, b9, b10⟩, rfl, by dsimp only; omega, by dsimp only; omega, by dsimp only; omega, by dsimp only; omega, by dsimp only; omega⟩
theorem open_i64 {x : D} (h : DT tab 5 3 x) : ∃ i : Int, x.av = .val (.int .i64 i) ∧ i ≤ 9223372036854775807 ∧ -9223372036854775808 ≤ i := by
  obtain ⟨i, rfl, hw⟩ := h
  have e1 : IntKind.i64.max = 9223372036854775807 := rfl
  have e2 : IntKind.i64.min = -9223372036854775808 := rfl
  simp [Lit.wf, e1, e2] at hw
  exact ⟨i, rfl, by omega, by omega⟩
/-- A style's zero, as a start that fits. -/
def st0V : Value := .agg #[.string ⟨#[]⟩, .string ⟨#[]⟩, .string ⟨#[]⟩, .slice none 0 0, .bool false, .bool false, .slice none 0 0, .bool false, .slice none 0 0, .slice none 0 0, .slice none 0 0]
end Go.Proofs.Ytecnkliefoddaaa
