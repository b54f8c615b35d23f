/- Law1: the arguments of the laws, opened. -/
import Derived.Test.YtpnjkdmcalcleaaA6
import Derived.Test.YtpnjkdmcalcleaaP
import Derived.Test.YtpnjkdmcalcleaaRows
namespace Go.Proofs.Ytpnjkdmcalcleaa
open Go Go.RowKit Go.WideShapes Go.ChangeShapes

theorem Try.own : ownKnob Try.prog.godebug = none := by kernel_rfl
theorem Try.laidOut : laidOutB Try.prog = true := by kernel_rfl
theorem list_of {α : Type} {R : D → Prop} {f : α → D} (h : ∀ x, R x → ∃ a, x = f a) : ∀ es : List D, (∀ x ∈ es, R x) → ∃ l : List α, es = l.map f
  | [], _ => ⟨[], rfl⟩
  | x :: es, hx => by
    obtain ⟨a, rfl⟩ := h x (hx x (by simp))
    obtain ⟨l, rfl⟩ := list_of h es fun y hy => hx y (by simp [hy])
    exact ⟨a :: l, rfl⟩
theorem open_i64 {n : Nat} {x : D} (h : DT tab (n + 1) 3 x) : ∃ i : Int, x = .val (.int .i64 i) ∧ i ≤ 9223372036854775807 ∧ -9223372036854775808 ≤ i := by
  obtain ⟨i, rfl, hw⟩ := h
  have e1 : IntKind.i64.max = 9223372036854775807 := rfl
  have e2 : IntKind.i64.min = -9223372036854775808 := rfl
  simp [Lit.wf, e1, e2] at hw
  exact ⟨i, rfl, by omega, by omega⟩
theorem open_u8 {n : Nat} {x : D} (h : DT tab (n + 1) 5 x) : ∃ b : UInt8, x = bD b := by
  obtain ⟨i, rfl, hw⟩ := h
  have e1 : IntKind.u8.max = 255 := rfl
  have e2 : IntKind.u8.min = 0 := rfl
  simp [Lit.wf, e1, e2] at hw
  refine ⟨UInt8.ofNat i.toNat, ?_⟩
  unfold bD
  congr 2
  simp
  omega
theorem open_i32 {n : Nat} {x : D} (h : DT tab (n + 1) 21 x) : ∃ i : Int, x = rD i ∧ i ≤ 2147483647 ∧ -2147483648 ≤ i := by
  obtain ⟨i, rfl, hw⟩ := h
  have e1 : IntKind.i32.max = 2147483647 := rfl
  have e2 : IntKind.i32.min = -2147483648 := rfl
  simp [Lit.wf, e1, e2] at hw
  exact ⟨i, rfl, by omega, by omega⟩
theorem open_str {n : Nat} {x : D} (h : DT tab (n + 1) 9 x) : ∃ s : ByteArray, x = .val (.string s) ∧ s.size ≤ 9223372036854775807 := by
  obtain ⟨s, rfl, hw⟩ := h
  refine ⟨s, rfl, ?_⟩
  simp [Lit.wf, maxLen] at hw
  omega
theorem open_bytes {n : Nat} {x : D} (h : DT tab (n + 2) 22 x) : ∃ l : List UInt8, x = .sl 1 (l.map bD) ∧ l.length ≤ 9223372036854775807 := by
  obtain ⟨es, rfl, hl, h2⟩ := h
  obtain ⟨l, rfl⟩ := list_of (fun _ h => open_u8 h) _ h2
  simp only [List.length_map, maxLen] at hl
  exact ⟨l, rfl, by omega⟩
end Go.Proofs.Ytpnjkdmcalcleaa
