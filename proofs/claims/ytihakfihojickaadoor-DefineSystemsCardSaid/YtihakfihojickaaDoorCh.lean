/- Arguments opened (law10, law12). -/
import Derived.Test.YtihakfihojickaaDoorPr
import Derived.Test.YtihakfihojickaaDoorTy
import Derived.Test.YtihakfihojickaaDoorZ
namespace Go.Proofs.YtihakfihojickaaDoor
open Go Go.RowKit Go.WideShapes Go.ChangeShapes Go.ChangeAt

theorem open_i64 {n : Nat} {x : D} (h : DT tab (n + 1) 3 x) : ∃ i : Int, x = .val (.int .i64 i) ∧ i ≤ 9223372036854775807 ∧ -9223372036854775808 ≤ i := by
  obtain ⟨i, rfl, hw⟩ := h
  have e1 : IntKind.i64.max = 9223372036854775807 := rfl
  have e2 : IntKind.i64.min = -9223372036854775808 := rfl
  simp [Lit.wf, e1, e2] at hw
  exact ⟨i, rfl, by omega, by omega⟩
theorem open_bool {n : Nat} {x : D} (h : DT tab (n + 1) 4 x) : ∃ b : Bool, x = .val (.bool b) := h
theorem list_ofP {α : Type} {R : D → Prop} {f : α → D} {Q : α → Prop} (h : ∀ x, R x → ∃ a, x = f a ∧ Q a) : ∀ es : List D, (∀ x ∈ es, R x) → ∃ l : List α, es = l.map f ∧ ∀ a ∈ l, Q a
  | [], _ => ⟨[], rfl, fun _ h => by cases h⟩
  | x :: es, hx => by
    obtain ⟨a, rfl, ha⟩ := h x (hx x (by simp))
    obtain ⟨l, rfl, hl⟩ := list_ofP h es fun y hy => hx y (by simp [hy])
    exact ⟨a :: l, rfl, fun b hb => by rcases List.mem_cons.1 hb with rfl | hb; exact ha; exact hl b hb⟩
def ciD (n : Int) : D := .val (.int .i64 n)
theorem open_ints {n : Nat} {x : D} (h : DT tab (n + 2) 22 x) : ∃ l : List Int, x = .sl 1 (l.map ciD) ∧ (∀ i ∈ l, i ≤ 9223372036854775807 ∧ -9223372036854775808 ≤ i) ∧ l.length ≤ 9223372036854775807 := by
  obtain ⟨es, rfl, h1, h2⟩ := h
  obtain ⟨l, rfl, h3⟩ := list_ofP (fun x h => open_i64 h) es h2
  simp only [List.length_map, maxLen] at h1
  exact ⟨l, rfl, h3, by omega⟩
end Go.Proofs.YtihakfihojickaaDoor
