/- ScopeBegins: the plain side. -/
import Derived.Test.YtajbbcnfohbieaaSd
namespace Go.Proofs.Ytajbbcnfohbieaa
open Go Go.RowKit

def addK (o : List Ctr) (c : Ctr) : List Ctr := if o.any (sameC c) = true then o else o ++ [c]
def blL (l : List Int) : List Ctr := l.foldl (fun o k => addK o (nmC k)) []
theorem blL_take {l : List Int} {i : Nat} (h : i < l.length) : blL (l.take (i + 1)) = addK (blL (l.take i)) (nmC l[i]) := by
  rw [take_at h, blL, List.foldl_append]
  rfl
theorem addK_len (o : List Ctr) (c : Ctr) : (addK o c).length ≤ o.length + 1 := by
  unfold addK
  split
  · omega
  · rw [List.length_append]; exact Nat.le_refl _
theorem blL_len' (l : List Int) : ∀ o : List Ctr, (l.foldl (fun o k => addK o (nmC k)) o).length ≤ o.length + l.length := by
  induction l with
  | nil => intro o; exact Nat.le_refl _
  | cons k r ih =>
    intro o
    rw [List.foldl_cons, List.length_cons]
    have := ih (addK o (nmC k))
    have := addK_len o (nmC k)
    omega
theorem blL_len (l : List Int) : (blL l).length ≤ l.length := by
  have := blL_len' l []
  rw [List.length_nil] at this
  unfold blL
  omega
theorem join_snoc' (out r : List Ctr) (c : Ctr) : joinL out (r ++ [c]) = addK (joinL out r) c := by
  rw [join_snoc, addK]
  have h := findR_any (sameC c) (joinL out r)
  by_cases e : findR (sameC c) (joinL out r) < 0
  · rw [if_pos e]
    rw [decide_eq_false (by omega)] at h
    rw [← h, if_neg (by decide)]
  · rw [if_neg e]
    rw [decide_eq_true (by omega)] at h
    rw [← h, if_pos rfl]
theorem sameC_n (c : Ctr) (n : Int) : sameC { c with n := n } = sameC c := rfl
theorem any_self (o : List Ctr) (c : Ctr) : (o ++ [c]).any (sameC c) = true := by simp [sameC]
theorem addK_any (o : List Ctr) (c : Ctr) : (addK o c).any (sameC c) = true := by
  unfold addK
  split
  · assumption
  · exact any_self o c
/-- A name that the list has, another list joined has as well. -/
theorem join_any (out r : List Ctr) (c : Ctr) (h : r.any (sameC c) = true) : (joinL out r).any (sameC c) = true := by
  induction r generalizing out with
  | nil => cases h
  | cons d r ih =>
    rw [joinL]
    rw [List.any_cons, Bool.or_eq_true] at h
    rcases h with h | h
    · have hm : ∀ (o r : List Ctr), o.any (sameC c) = true → (joinL o r).any (sameC c) = true := by
        intro o r
        induction r generalizing o with
        | nil => exact id
        | cons e r ih =>
          intro ho
          rw [joinL]
          apply ih
          split
          · rw [List.any_append, ho]; rfl
          · exact ho
      apply hm
      have hs : sameC c = sameC d := by
        simp only [sameC, Bool.and_eq_true, decide_eq_true_eq] at h
        funext x
        rw [sameC, sameC, h.1, h.2]
      rw [hs]
      have := addK_any out d
      have hj := join_snoc' out [] d
      rw [List.nil_append, joinL, joinL, joinL] at hj
      rw [hj]
      exact this
    · exact ih _ h
/-- The sibling's round. -/
theorem join_round {p : List Ctr} {l : List Int} {i : Nat} (h : i < l.length) :
    joinL p (blL (l.take (i + 1))) = (if (blL (l.take i)).any (sameC (nmC l[i])) = true then joinL p (blL (l.take i)) else addK (joinL p (blL (l.take i))) (nmC l[i])) := by
  rw [blL_take h]
  generalize blL (l.take i) = s
  rw [addK]
  split
  · rfl
  · rw [join_snoc']
def setC (c x : Ctr) : Ctr := if sameC c x = true then { x with n := c.n } else x
theorem setC_pos {c x : Ctr} (h : sameC c x = true) : setC c x = { x with n := c.n } := if_pos h
theorem setC_neg {c x : Ctr} (h : sameC c x = false) : setC c x = x := if_neg (by rw [h]; decide)
theorem lastC_same (l : List Ctr) (c x : Ctr) : sameC c (lastC l x) = sameC c x := by
  unfold lastC
  split <;> rfl
theorem last_snoc (l : List Ctr) (c x : Ctr) : lastC (l ++ [c]) x = setC c (lastC l x) := by
  have hs := lastC_same l c x
  have hg : (l ++ [c]).getD l.length default = c := by simp [List.getD_eq_getElem?_getD]
  have hf : finalF (l ++ [c]) x = if sameC c x = true then (l.length : Int) else finalF l x := by
    unfold finalF
    rw [List.length_append, List.length_singleton, lastI, hg, lastI_append _ _ _ _ (Nat.le_refl _), sameC]
    have e : (decide (c.name = x.name) && decide (c.of = x.of)) = (decide (x.name = c.name) && decide (x.of = c.of)) := by
      have e1 : decide (c.name = x.name) = decide (x.name = c.name) := decide_eq_decide.2 ⟨Eq.symm, Eq.symm⟩
      have e2 : decide (c.of = x.of) = decide (x.of = c.of) := decide_eq_decide.2 ⟨Eq.symm, Eq.symm⟩
      rw [e1, e2]
    simp only [e]
  rw [setC, hs]
  rw [lastC, hf]
  split
  · rename_i h
    rw [if_pos (by omega), Int.toNat_natCast, hg]
    unfold lastC
    split <;> rfl
  · rw [lastC]
    have hl := final_lt l x
    split
    · rename_i h
      have : (l ++ [c]).getD (finalF l x).toNat default = l.getD (finalF l x).toNat default := by
        rw [List.getD_eq_getElem?_getD, List.getD_eq_getElem?_getD, List.getElem?_append_left (by omega)]
      rw [this]
    · rfl
/-- The last set, built with its numbers. -/
def lbL (l : List Int) : Nat → List Ctr
  | 0 => []
  | i + 1 => if (lbL l i).any (sameC (nmC (l.getD i 0))) = true then lbL l i else lbL l i ++ [{ nmC (l.getD i 0) with n := 10 + (i : Int) }]
theorem lbL_len (l : List Int) : ∀ i, (lbL l i).length ≤ i
  | 0 => Nat.le_refl _
  | i + 1 => by
    have := lbL_len l i
    rw [lbL]
    split
    · omega
    · rw [List.length_append, List.length_singleton]; omega
theorem lbL_at {l : List Int} {i : Nat} (h : i < l.length) : lbL l (i + 1) = if (lbL l i).any (sameC (nmC l[i])) = true then lbL l i else lbL l i ++ [{ nmC l[i] with n := 10 + (i : Int) }] := by
  rw [lbL]
  have : l.getD i 0 = l[i] := by simp [List.getD_eq_getElem?_getD, h]
  rw [this]
theorem map_last (o l : List Ctr) (c : Ctr) : (o.map (lastC l)).map (setC c) = o.map (lastC (l ++ [c])) := by
  rw [List.map_map]
  congr 1
  funext x
  exact (last_snoc l c x).symm
theorem map_none (o : List Ctr) : o.map (lastC []) = o := by
  have : lastC [] = id := by funext x; rfl
  rw [this, List.map_id]
end Go.Proofs.Ytajbbcnfohbieaa
