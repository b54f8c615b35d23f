/- law15: the arguments of the laws, opened. -/
import Derived.Test.YtajbbcnfohbieaaP
import Derived.Test.YtajbbcnfohbieaaS9
import Derived.Test.YtajbbcnfohbieaaRows
namespace Go.Proofs.Ytajbbcnfohbieaa
open Go Go.RowKit Go.WideShapes Go.ChangeShapes

theorem Try.own : ownKnob Try.prog.godebug = none := by kernel_rfl
theorem Try.laidOut : laidOutB Try.prog = true := by kernel_rfl
theorem list_of {α : Type} {R : D → Prop} {f : α → D} (h : ∀ x, R x → ∃ a, x = f a) : ∀ es : List D, (∀ x ∈ es, R x) → ∃ l : List α, es = l.map f
  | [], _ => ⟨[], rfl⟩
  | x :: es, hx => by
    obtain ⟨a, rfl⟩ := h x (hx x (by simp))
    obtain ⟨l, rfl⟩ := list_of h es fun y hy => hx y (by simp [hy])
    exact ⟨a :: l, rfl⟩
theorem open_i64 {n : Nat} {x : D} (h : DT tab (n + 1) 3 x) : ∃ i : Int, x = iD i ∧ i ≤ 9223372036854775807 ∧ -9223372036854775808 ≤ i := by
  obtain ⟨i, rfl, hw⟩ := h
  have e1 : IntKind.i64.max = 9223372036854775807 := rfl
  have e2 : IntKind.i64.min = -9223372036854775808 := rfl
  simp [Lit.wf, e1, e2] at hw
  exact ⟨i, rfl, by omega, by omega⟩
theorem open_bool {n : Nat} {x : D} (h : DT tab (n + 1) 4 x) : ∃ b : Bool, x = .val (.bool b) := h
/-- A list of integers: each of them is one. -/
theorem ints_of : ∀ es : List D, (∀ x ∈ es, ∃ i : Int, x = iD i ∧ i ≤ 9223372036854775807 ∧ -9223372036854775808 ≤ i) → ∃ l : List Int, es = l.map iD ∧ ∀ i ∈ l, i ≤ 9223372036854775807 ∧ -9223372036854775808 ≤ i
  | [], _ => ⟨[], rfl, fun _ h => by cases h⟩
  | x :: es, hx => by
    obtain ⟨a, rfl, h1⟩ := hx x (by simp)
    obtain ⟨l, rfl, h2⟩ := ints_of es fun y hy => hx y (by simp [hy])
    exact ⟨a :: l, rfl, fun i hi => by
      rcases List.mem_cons.1 hi with rfl | hi
      · exact h1
      · exact h2 i hi⟩
theorem open_ints {n : Nat} {x : D} (h : DT tab (n + 2) 22 x) : ∃ l : List Int, x = .sl 1 (l.map iD) ∧ (∀ i ∈ l, i ≤ 9223372036854775807 ∧ -9223372036854775808 ≤ i) ∧ l.length ≤ 9223372036854775807 := by
  obtain ⟨es, rfl, h1, h2⟩ := h
  obtain ⟨l, rfl, h3⟩ := ints_of es (fun x hx => open_i64 (h2 x hx))
  simp only [List.length_map, maxLen] at h1
  exact ⟨l, rfl, h3, h1⟩
end Go.Proofs.Ytajbbcnfohbieaa
