/- ScopeInner: the plain side. -/
import Derived.Test.YtajbbcnfohbieaaSa
namespace Go.Proofs.Ytajbbcnfohbieaa
open Go Go.RowKit

def inC (i : Nat) : Ctr := ⟨sn, i, 10 * i, false⟩
def inS (n : Nat) : List Ctr := (List.range n).map inC
def inW (n : Nat) : List Int := (List.range n).map fun (i : Nat) => 10 * (i : Int)
theorem inS_succ (n : Nat) : inS (n + 1) = inS n ++ [inC n] := by rw [inS, List.range_succ, List.map_append]; rfl
theorem inW_succ (n : Nat) : inW (n + 1) = inW n ++ [10 * (n : Int)] := by rw [inW, List.range_succ, List.map_append]; rfl
theorem inS_len (n : Nat) : (inS n).length = n := by simp [inS]
theorem inW_len (n : Nat) : (inW n).length = n := by simp [inW]
theorem inS_inner (n : Nat) : innerF (inS (n + 1)) sn = n := by
  rw [inS_succ]
  have := inner_last (inS n) (inC n)
  rw [inS_len] at this
  exact this
theorem inS_get {n i : Nat} (h : i < n) : (inS n).getD i default = inC i := by simp [inS, h]
theorem in_reset (i : Nat) : resetL (inS i) i [] ⟨sn, 10 * i, false, false⟩ = inS (i + 1) := by
  have hleft : leftL (inS i) i [] sn = inS i := by
    cases i with
    | zero => rfl
    | succ j =>
      rw [leftL, inS_inner, if_pos (by omega)]
      have : delQ (inS (j + 1)) ((j + 1 : Nat) : Int) [] ((j : Int).toNat) = false := by
        rw [delQ, Int.toNat_natCast, inS_get (by omega), decide_eq_false (by show ¬ ((j : Int) = ((j + 1 : Nat) : Int)); omega), decide_eq_false (by simp)]
        rfl
      rw [this]
      rfl
  rw [resetL, hleft, inS_succ]
  rfl
theorem values_all {l : List Ctr} (h : ∀ c ∈ l, c.name = sn) : valuesL l sn = l.map (·.n) := by
  rw [valuesL, List.filter_eq_self.2 fun c hc => decide_eq_true (h c hc)]
theorem inS_names (n : Nat) : ∀ c ∈ inS n, c.name = sn := by
  intro c hc
  obtain ⟨i, _, rfl⟩ := List.mem_map.1 hc
  rfl
theorem in_values (n : Nat) : valuesL (inS n) sn = inW n := by
  rw [values_all (inS_names n), inS, inW, List.map_map]
  rfl
theorem in_some (n : Nat) (of : Int) : someL (inS (n + 1)) of sn = inS (n + 1) ∧ someN (inS (n + 1)) sn = n := by
  rw [someL, someN, inS_inner, if_pos (by omega), if_pos (by omega)]
  exact ⟨rfl, by omega⟩
theorem in_add (n : Nat) (hn : n ≤ 14) (add : Int) (h1 : -1000 ≤ add) (h2 : add ≤ 1000) : valuesL (addL (inS (n + 1)) 99 ⟨sn, add, false, false⟩) sn = (inW (n + 1)).set n (10 * (n : Int) + add) := by
  obtain ⟨e1, e2⟩ := in_some n 99
  have e3 : addL (inS (n + 1)) 99 ⟨sn, add, false, false⟩ = (inS (n + 1)).set n { inC n with n := 10 * n + add } := by
    simp only [addL]
    rw [e1, e2, inS_get (by omega), if_neg]
    · rfl
    · show ¬ (10 * (n : Int) + add < -2147483648 ∨ 2147483647 < 10 * (n : Int) + add)
      omega
  rw [e3, values_all, List.map_set, ← in_values, values_all (inS_names _)]
  intro c hc
  rcases List.mem_or_eq_of_mem_set hc with hc | rfl
  · exact inS_names _ c hc
  · rfl
theorem in_put (n : Nat) (add : Int) : valuesL (putL (inS (n + 1)) 99 ⟨sn, add, false, false⟩) sn = (inW (n + 1)).set n add := by
  obtain ⟨e1, e2⟩ := in_some n 99
  have e3 : putL (inS (n + 1)) 99 ⟨sn, add, false, false⟩ = (inS (n + 1)).set n { inC n with n := add } := by
    simp only [putL]
    rw [e1, e2, inS_get (by omega)]
  rw [e3, values_all, List.map_set, ← in_values, values_all (inS_names _)]
  intro c hc
  rcases List.mem_or_eq_of_mem_set hc with hc | rfl
  · exact inS_names _ c hc
  · rfl
theorem in_last (n : Nat) (hn : n ≤ 14) (k : Int) : valuesL (resetL (inS (n + 1)) 99 [k] ⟨sn, 5, false, false⟩) sn = (if k = n then (inW (n + 1)).take n else inW (n + 1)) ++ [5] := by
  have hd : delQ (inS (n + 1)) 99 [k] ((n : Int).toNat) = decide (k = n) := by
    rw [delQ, Int.toNat_natCast, inS_get (by omega), decide_eq_false (by show ¬ ((n : Int) = 99); omega), Bool.false_or]
    by_cases h : k = n
    · rw [decide_eq_true h, decide_eq_true (by show (n : Int) ∈ [k]; simp [h])]
    · rw [decide_eq_false h, decide_eq_false (by show ¬ (n : Int) ∈ [k]; simp; omega)]
  have hleft : leftL (inS (n + 1)) 99 [k] sn = if k = n then inS n else inS (n + 1) := by
    rw [leftL, inS_inner, if_pos (by omega), hd]
    by_cases h : k = n
    · rw [if_pos (decide_eq_true h), if_pos h, Int.toNat_natCast, inS_succ, List.take_append_of_le_length (by rw [inS_len]; exact Nat.le_refl _), List.take_of_length_le (by rw [inS_len]; exact Nat.le_refl _), List.drop_of_length_le (by simp [inS_len]), List.append_nil]
    · rw [if_neg (by simp [h]), if_neg h]
  have key : ∀ l : List Ctr, (∀ c ∈ l, c.name = sn) → valuesL (l ++ [(⟨sn, 99, 5, false⟩ : Ctr)]) sn = valuesL l sn ++ [5] := fun l hl => by
    rw [values_all hl, values_all, List.map_append]
    · rfl
    · intro c hc
      rcases List.mem_append.1 hc with hc | hc
      · exact hl c hc
      · rw [List.mem_singleton] at hc; subst hc; rfl
  have e : resetL (inS (n + 1)) 99 [k] ⟨sn, 5, false, false⟩ = leftL (inS (n + 1)) 99 [k] sn ++ [(⟨sn, 99, 5, false⟩ : Ctr)] := rfl
  rw [e, hleft]
  by_cases h : k = n
  · rw [if_pos h, if_pos h, key _ (inS_names n), in_values, inW_succ, List.take_append_of_le_length (by rw [inW_len]; exact Nat.le_refl _), List.take_of_length_le (by rw [inW_len]; exact Nat.le_refl _)]
  · rw [if_neg h, if_neg h, key _ (inS_names _), in_values]
end Go.Proofs.Ytajbbcnfohbieaa
