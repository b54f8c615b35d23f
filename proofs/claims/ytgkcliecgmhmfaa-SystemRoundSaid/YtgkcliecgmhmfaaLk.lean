/- law9: the plain side of SystemAdds. -/
import Derived.Test.YtgkcliecgmhmfaaLg
namespace Go.Proofs.Ytgkcliecgmhmfaa
open Go Go.RowKit Go.Shelf

/-- The weights' sums. -/
def cw (l : List Int) : Nat → Int
  | 0 => 0
  | i + 1 => cw l i + 1 + (l.getD i 0) % 1000
/-- The weights, the greatest first; the signs. -/
def wl (l : List Int) : Nat → List Int
  | 0 => []
  | i + 1 => cw l (i + 1) :: wl l i
def sl : Nat → List ByteArray
  | 0 => []
  | i + 1 => letS i :: sl i
theorem wl_len (l : List Int) : ∀ i, (wl l i).length = i
  | 0 => rfl
  | i + 1 => by rw [wl, List.length_cons, wl_len l i]
theorem sl_len : ∀ i, (sl i).length = i
  | 0 => rfl
  | i + 1 => by rw [sl, List.length_cons, sl_len i]
theorem sl_get : ∀ i p, p < i → (sl i).getD p ⟨#[]⟩ = letS (i - 1 - p)
  | i + 1, 0, _ => rfl
  | i + 1, p + 1, h => by
    rw [sl, List.getD_cons_succ, sl_get i p (by omega)]
    congr 1
    omega
theorem cw_bound (l : List Int) : ∀ i : Nat, (i : Int) ≤ cw l i ∧ cw l i ≤ 1000 * i
  | 0 => by simp [cw]
  | i + 1 => by
    have h := cw_bound l i
    have h1 := Int.emod_nonneg (l.getD i 0) (b := 1000) (by decide)
    have h2 := Int.emod_lt_of_pos (l.getD i 0) (b := 1000) (by decide)
    rw [cw]
    omega
theorem wl_mem (l : List Int) : ∀ i, ∀ w ∈ wl l i, 1 ≤ w ∧ w ≤ 1000 * i
  | 0, w, h => by cases h
  | i + 1, w, h => by
    rw [wl] at h
    rcases List.mem_cons.1 h with rfl | h
    · have := cw_bound l (i + 1)
      omega
    · have := wl_mem l i w h
      omega
theorem wl_fall (l : List Int) : ∀ i, fallF (wl l i) = true
  | 0 => rfl
  | 1 => by
    have := cw_bound l 1
    simp only [wl, fallF, decide_eq_true_eq]
    show (0 : Int) ≤ cw l 1
    omega
  | i + 2 => by
    have h1 := cw_bound l (i + 2)
    have h2 := Int.emod_nonneg (l.getD (i + 1) 0) (b := 1000) (by decide)
    have h3 := wl_fall l (i + 1)
    rw [wl] at h3
    rw [wl, wl, fallF, h3]
    have e : cw l (i + 2) = cw l (i + 1) + 1 + (l.getD (i + 1) 0) % 1000 := rfl
    simp only [Bool.and_eq_true, decide_eq_true_eq]
    refine ⟨⟨?_, ?_⟩, trivial⟩
    · show (0 : Int) ≤ cw l (i + 2)
      omega
    · show cw l (i + 1) < cw l (i + 2)
      omega
def addD (l : List Int) : Df := { mk additiveS (sl l.length) with ws := wl l l.length }
theorem sl_size : ∀ i, ∀ s ∈ sl i, s.size = 1
  | 0, s, h => by cases h
  | i + 1, s, h => by
    rw [sl] at h
    rcases List.mem_cons.1 h with rfl | h
    · rfl
    · exact sl_size i s h
theorem may_add {l : List Int} (h1 : 1 ≤ l.length) (h2 : l.length ≤ 12) : mayF (addD l) = true := by
  have hk : kindF (addD l) = true := by
    have e1 : (addD l).syms.length = l.length := sl_len _
    have e2 : (addD l).ws.length = l.length := wl_len _ _
    rw [kindF, show (addD l).sys = additiveS from rfl, if_neg (by decide), if_neg (by decide), if_pos rfl, e1, e2, show (addD l).ws = wl l l.length from rfl, wl_fall]
    simp
    omega
  have hs : (signsL (addD l)).any longF = false := by
    rw [Bool.eq_false_iff]
    intro h
    rw [List.any_eq_true] at h
    obtain ⟨s, hs, hl⟩ := h
    have hz : s.size ≤ 1 := by
      simp only [signsL, List.mem_append, List.mem_cons, List.not_mem_nil, or_false] at hs
      rcases hs with (h | h | h | h | h) | h
      · rw [h]; exact Nat.zero_le 1
      · rw [h]; exact Nat.zero_le 1
      · rw [h]; exact Nat.zero_le 1
      · rw [h]; exact Nat.zero_le 1
      · rw [h]; exact Nat.zero_le 1
      · rw [sl_size _ s h]; exact Nat.le_refl _
    simp only [longF, decide_eq_true_eq] at hl
    omega
  rw [mayF, hk, hs, if_neg]
  · rfl
  · have e1 : (addD l).syms.length = l.length := sl_len _
    have e3 : (addD l).pad = 0 := rfl
    rw [e1, e3]
    simp
    omega
theorem signs_add {l : List Int} {n : Nat} (h1 : 1 ≤ l.length) (h2 : l.length ≤ 12) (hn : n ≤ 2147483648) : signsF (addD l) n = addTB (addD l) n := by
  have hm := may_add h1 h2
  rw [signsF, if_neg (by rw [hm]; simp; omega), show (addD l).sys = additiveS from rfl, if_neg (by decide), if_neg (by decide), if_neg (by decide), if_neg (by decide), if_neg (by decide), if_pos rfl, if_pos (by omega), Int.toNat_natCast]
end Go.Proofs.Ytgkcliecgmhmfaa
