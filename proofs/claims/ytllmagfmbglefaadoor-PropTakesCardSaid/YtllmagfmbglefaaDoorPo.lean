/- law12: styles of arguments, opened. -/
import Derived.Test.YtllmagfmbglefaaDoorPr
import Derived.Test.YtllmagfmbglefaaDoorPl
namespace Go.Proofs.YtllmagfmbglefaaDoor
open Go Go.RowKit Go.WideShapes Go.ChangeShapes Go.ChangeAt

theorem list_of2 {α : Type} {R : D → Prop} {f : α → D} (h : ∀ x, R x → ∃ a, x = f a) : ∀ es : List D, (∀ x ∈ es, R x) → ∃ l : List α, es = l.map f
  | [], _ => ⟨[], rfl⟩
  | x :: es, hx => by
    obtain ⟨a, rfl⟩ := h x (hx x (by simp))
    obtain ⟨l, rfl⟩ := list_of2 h es fun y hy => hx y (by simp [hy])
    exact ⟨a :: l, rfl⟩
theorem open_str {n : Nat} {x : D} (h : DT tab (n + 1) 9 x) : ∃ s : ByteArray, x = sF s := by
  obtain ⟨s, rfl, _⟩ := h
  exact ⟨s, rfl⟩
theorem open_it {n : Nat} {x : D} (h : DT tab (n + 2) 68 x) : ∃ a : It, x = itD a := by
  obtain ⟨_, rfl, _, _, rfl, ⟨a, rfl, _⟩, _, _, rfl, ⟨b, rfl, _⟩, _, _, rfl, ⟨c, rfl, _⟩, _, _, rfl, ⟨d, rfl, _⟩, rfl⟩ := h
  exact ⟨⟨a, b, c, d⟩, rfl⟩
theorem open_pr {n : Nat} {x : D} (h : DT tab (n + 2) 66 x) : ∃ a : Pr, x = prD a := by
  obtain ⟨_, rfl, _, _, rfl, ⟨a, rfl, _⟩, _, _, rfl, ⟨b, rfl, _⟩, _, _, rfl, ⟨c, rfl⟩, _, _, rfl, ⟨d, rfl⟩, rfl⟩ := h
  exact ⟨⟨a, b, c, d⟩, rfl⟩
theorem open_sty {n : Nat} {x : D} (h : DT tab (n + 4) 28 x) : ∃ s : Sty, x = stD s ∧ styX s := by
  obtain ⟨_, rfl, _, _, rfl, ⟨a, rfl, _⟩, _, _, rfl, ⟨b, rfl, _⟩, _, _, rfl, ⟨c, rfl, _⟩, _, _, rfl, ⟨e1, rfl, l1, m1⟩, _, _, rfl, ⟨f, rfl⟩, _, _, rfl, ⟨g, rfl⟩, _, _, rfl, ⟨e2, rfl, l2, m2⟩, _, _, rfl, ⟨k, rfl⟩, _, _, rfl, ⟨e3, rfl, l3, m3⟩, _, _, rfl, ⟨e4, rfl, l4, m4⟩, _, _, rfl, ⟨e5, rfl, l5, m5⟩, rfl⟩ := h
  obtain ⟨c1, rfl⟩ := list_of2 (f := itD) (fun x hx => open_it hx) e1 m1
  obtain ⟨c2, rfl⟩ := list_of2 (f := sF) (fun x hx => open_str hx) e2 m2
  obtain ⟨c3, rfl⟩ := list_of2 (f := prD) (fun x hx => open_pr hx) e3 m3
  obtain ⟨c4, rfl⟩ := list_of2 (f := prD) (fun x hx => open_pr hx) e4 m4
  obtain ⟨c5, rfl⟩ := list_of2 (f := prD) (fun x hx => open_pr hx) e5 m5
  simp only [List.length_map, maxLen] at l1 l2 l3 l4 l5
  exact ⟨⟨a, b, c, c1, f, g, c2, k, c3, c4, c5⟩, rfl, ⟨l1, l2, l3, l4, l5⟩⟩
end Go.Proofs.YtllmagfmbglefaaDoor
