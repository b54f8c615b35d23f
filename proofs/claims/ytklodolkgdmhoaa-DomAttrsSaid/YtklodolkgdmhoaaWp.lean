/- Words within a text: where they stand. -/
import Derived.Test.YtklodolkgdmhoaaWh
namespace Go.Proofs.Ytklodolkgdmhoaa
open Go Go.RowKit

def whAt (v : List UInt8) (k : Nat) : Bool := whB (v.getD k 0)
/-- A word stands from a to b. -/
structure Wd (v : List UInt8) (a b : Nat) : Prop where
  lt : a < b
  le : b ≤ v.length
  no : ∀ k, a ≤ k → k < b → whAt v k = false
  be : a = 0 ∨ whAt v (a - 1) = true
  en : b = v.length ∨ whAt v b = true
theorem drop_cons_at {v : List UInt8} {pos : Nat} {b : UInt8} {r : List UInt8} (h : v.drop pos = b :: r) : pos < v.length ∧ whAt v pos = whB b ∧ v.drop (pos + 1) = r := by
  have hn : pos < v.length := by
    rcases Nat.lt_or_ge pos v.length with h1 | h1
    · exact h1
    · rw [List.drop_eq_nil_of_le h1] at h; cases h
  rw [List.drop_eq_getElem_cons hn] at h
  injection h with h1 h2
  refine ⟨hn, ?_, h2⟩
  rw [whAt, List.getD_eq_getElem?_getD, List.getElem?_eq_getElem hn, ← h1]; rfl
theorem mem_sp {v : List UInt8} (a b : Nat) : ∀ (l : List UInt8) (st : Option Nat) (pos : Nat), v.drop pos = l → pos ≤ v.length →
    (st = none → pos = 0 ∨ whAt v (pos - 1) = true) → (∀ a0, st = some a0 → a0 < pos ∧ (∀ k, a0 ≤ k → k < pos → whAt v k = false) ∧ (a0 = 0 ∨ whAt v (a0 - 1) = true)) →
    ((a, b) ∈ sp st pos l ↔ Wd v a b ∧ st.getD pos ≤ a)
  | [], none, pos, h, hle, hn, hs => by
    have hl : pos = v.length := by
      have := congrArg List.length h
      rw [List.length_drop, List.length_nil] at this
      omega
    rw [sp]
    constructor
    · intro h; cases h
    · rintro ⟨w, h2⟩
      have := w.lt; have := w.le
      change pos ≤ a at h2
      omega
  | [], some a0, pos, h, hle, hn, hs => by
    have hl : pos = v.length := by
      have := congrArg List.length h
      rw [List.length_drop, List.length_nil] at this
      omega
    obtain ⟨s1, s2, s3⟩ := hs a0 rfl
    rw [sp, List.mem_singleton, Prod.mk.injEq]
    constructor
    · rintro ⟨rfl, rfl⟩
      exact ⟨⟨s1, hle, s2, s3, .inl hl⟩, Nat.le_refl _⟩
    · rintro ⟨w, h2⟩
      change a0 ≤ a at h2
      have e1 : a = a0 := by
        rcases Nat.lt_or_eq_of_le h2 with h3 | h3
        · rcases w.be with h4 | h4
          · omega
          · rw [s2 (a - 1) (by omega) (by have := w.lt; have := w.le; omega)] at h4; cases h4
        · exact h3.symm
      refine ⟨e1, ?_⟩
      rcases w.en with h4 | h4
      · omega
      · subst e1
        have := w.lt; have := w.le
        rcases Nat.lt_or_ge b pos with h5 | h5
        · rw [s2 b (by omega) h5] at h4; cases h4
        · omega
  | c :: r, none, pos, h, hle, hn, hs => by
    obtain ⟨h1, h2, h3⟩ := drop_cons_at h
    rw [sp]
    split
    · rename_i hw
      rw [mem_sp a b r none (pos + 1) h3 h1 (fun _ => .inr (by rw [Nat.add_sub_cancel, h2, hw])) (fun a0 h => by cases h)]
      constructor
      · rintro ⟨w, h4⟩
        exact ⟨w, by change pos + 1 ≤ a at h4; change pos ≤ a; omega⟩
      · rintro ⟨w, h4⟩
        change pos ≤ a at h4
        refine ⟨w, ?_⟩
        change pos + 1 ≤ a
        rcases Nat.lt_or_eq_of_le h4 with h5 | h5
        · exact h5
        · have := w.no pos (by omega) (by have := w.lt; omega)
          rw [h2, hw] at this; cases this
    · rename_i hw
      have hw : whB c = false := by simpa using hw
      rw [mem_sp a b r (some pos) (pos + 1) h3 h1 (fun h => by cases h) (fun a0 h => by
        cases h
        exact ⟨Nat.lt_succ_self _, fun k k1 k2 => by have : k = pos := by omega
                                                     rw [this, h2, hw], hn rfl⟩)]
      rfl
  | c :: r, some a0, pos, h, hle, hn, hs => by
    obtain ⟨h1, h2, h3⟩ := drop_cons_at h
    obtain ⟨s1, s2, s3⟩ := hs a0 rfl
    rw [sp]
    split
    · rename_i hw
      rw [List.mem_cons, Prod.mk.injEq, mem_sp a b r none (pos + 1) h3 h1 (fun _ => .inr (by rw [Nat.add_sub_cancel, h2, hw])) (fun a0 h => by cases h)]
      constructor
      · rintro (⟨rfl, rfl⟩ | ⟨w, h4⟩)
        · exact ⟨⟨s1, hle, s2, s3, .inr (by rw [h2, hw])⟩, Nat.le_refl _⟩
        · exact ⟨w, by change pos + 1 ≤ a at h4; change a0 ≤ a; omega⟩
      · rintro ⟨w, h4⟩
        change a0 ≤ a at h4
        have w1 := w.lt
        rcases Nat.lt_or_ge pos a with h5 | h5
        · exact .inr ⟨w, h5⟩
        · left
          have hne : a ≠ pos := fun e => by
            have := w.no pos (by omega) (by omega)
            rw [h2, hw] at this; cases this
          have e1 : a = a0 := by
            rcases Nat.lt_or_eq_of_le h4 with h6 | h6
            · rcases w.be with h7 | h7
              · omega
              · rw [s2 (a - 1) (by omega) (by omega)] at h7; cases h7
            · exact h6.symm
          refine ⟨e1, ?_⟩
          rcases Nat.lt_trichotomy b pos with h6 | h6 | h6
          · rcases w.en with h7 | h7
            · omega
            · rw [s2 b (by omega) h6] at h7; cases h7
          · exact h6
          · have := w.no pos (by omega) h6
            rw [h2, hw] at this; cases this
    · rename_i hw
      have hw : whB c = false := by simpa using hw
      rw [mem_sp a b r (some a0) (pos + 1) h3 h1 (fun h => by cases h) (fun a1 h => by
        cases h
        exact ⟨by omega, fun k k1 k2 => by
          rcases Nat.lt_or_eq_of_le (Nat.le_of_lt_succ k2) with h5 | h5
          · exact s2 k k1 h5
          · rw [h5, h2, hw], s3⟩)]
      rfl
theorem mem_sp0 {v : List UInt8} (a b : Nat) : (a, b) ∈ sp none 0 v ↔ Wd v a b := by
  rw [mem_sp (v := v) a b v none 0 rfl (Nat.zero_le _) (fun _ => .inl rfl) (fun a0 h => by cases h)]
  exact ⟨fun h => h.1, fun h => ⟨h, Nat.zero_le _⟩⟩
end Go.Proofs.Ytklodolkgdmhoaa
