/- Rows whose listed tables are not read: what the witness lays; arguments opened. -/
import Derived.Test.YtbjinibmkkmhkaaDoorP
import Derived.Test.YtbjinibmkkmhkaaDoorZ
import Derived.Test.YtbjinibmkkmhkaaDoorTy
import Derived.Test.YtbjinibmkkmhkaaDoorRows
import Derived.Test.YtbjinibmkkmhkaaDoorTie
import Derived.Test.YtbjinibmkkmhkaaDoorCards
import Derived.ProofKit
import Derived.LaidMore
import Derived.OpenShut
import Derived.Stop.Joined
import Derived.SevenTiedAt
import Derived.Lib.LaidTab
import Derived.Lay
namespace Go.Proofs.YtbjinibmkkmhkaaDoor
open Go Go.RowKit Go.WideShapes Go.ChangeShapes Go.ChangeAt

theorem Tryd.own : ownKnob Tryd.prog.godebug = none := by kernel_rfl
theorem Tryd.laidOut : laidOutB Tryd.prog = true := by kernel_rfl
def laid2 : List (String × DataW Unit) := [("unicode/utf8.acceptRanges", Rows.laid_unicode_utf8_acceptRanges), ("unicode/utf8.first", Rows.laid_unicode_utf8_first)]
theorem gl_nil (W : World) : GL (fun b => b < W.heap.size) W := fun p hp => by cases hp
set_option maxRecDepth 100000 in
theorem lay_met (os : Os) (args : Array Value) : laidMetH Tryd.prog laid2 ((World.laidAll Tryd.prog os laid2).forCall (fun _ _ => 0) ⟨#[], args, []⟩).memory := by
  rw [MakeChecks.laidMetH_plain _ _ _ (by kernel_rfl)]
  exact laidMet_laidAll _ (by kernel_rfl) (by kernel_rfl)
theorem lay_shape (os : Os) : (World.laidAll Tryd.prog os laid2).Shaped Tryd.prog := World.shaped_of_ZipB (by kernel_rfl) (by kernel_rfl)
theorem open_i64 {n : Nat} {x : D} (h : DT tab (n + 1) 3 x) : ∃ i : Int, x = .val (.int .i64 i) ∧ i ≤ 9223372036854775807 ∧ -9223372036854775808 ≤ i := by
  obtain ⟨i, rfl, hw⟩ := h
  have e1 : IntKind.i64.max = 9223372036854775807 := rfl
  have e2 : IntKind.i64.min = -9223372036854775808 := rfl
  simp [Lit.wf, e1, e2] at hw
  exact ⟨i, rfl, by omega, by omega⟩
theorem open_bool {n : Nat} {x : D} (h : DT tab (n + 1) 4 x) : ∃ b : Bool, x = .val (.bool b) := h
theorem open_str {n : Nat} {x : D} (h : DT tab (n + 1) 9 x) : ∃ s : ByteArray, x = .val (.string s) ∧ s.size ≤ 9223372036854775807 := by
  obtain ⟨s, rfl, hw⟩ := h
  refine ⟨s, rfl, ?_⟩
  simp [maxLen] at hw
  omega
theorem list_ofP {α : Type} {R : D → Prop} {f : α → D} {Q : α → Prop} (h : ∀ x, R x → ∃ a, x = f a ∧ Q a) : ∀ es : List D, (∀ x ∈ es, R x) → ∃ l : List α, es = l.map f ∧ ∀ a ∈ l, Q a
  | [], _ => ⟨[], rfl, fun _ h => by cases h⟩
  | x :: es, hx => by
    obtain ⟨a, rfl, ha⟩ := h x (hx x (by simp))
    obtain ⟨l, rfl, hl⟩ := list_ofP h es fun y hy => hx y (by simp [hy])
    exact ⟨a :: l, rfl, fun b hb => by rcases List.mem_cons.1 hb with rfl | hb; exact ha; exact hl b hb⟩
def ciD (n : Int) : D := .val (.int .i64 n)
def csD (s : ByteArray) : D := .val (.string s)
theorem open_strs {n : Nat} {x : D} (h : DT tab (n + 2) 36 x) : ∃ l : List ByteArray, x = .sl 1 (l.map csD) ∧ (∀ i ∈ l, i.size ≤ 9223372036854775807) ∧ l.length ≤ 9223372036854775807 := by
  obtain ⟨es, rfl, h1, h2⟩ := h
  obtain ⟨l, rfl, h3⟩ := list_ofP (fun x h => open_str h) es h2
  simp only [List.length_map, maxLen] at h1
  exact ⟨l, rfl, h3, by omega⟩
end Go.Proofs.YtbjinibmkkmhkaaDoor
