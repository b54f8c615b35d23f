/- law9: digits read by their places (the plain side of SystemDecodes). -/
import Derived.Test.YtgkcliecgmhmfaaLe
namespace Go.Proofs.Ytgkcliecgmhmfaa
open Go Go.RowKit Go.Shelf

def letB (i : Nat) : UInt8 := UInt8.ofNat (97 + i)
def letS (i : Nat) : ByteArray := ⟨#[letB i]⟩
def lets (i : Nat) : List ByteArray := (List.range i).map letS
theorem lets_succ (i : Nat) : lets (i + 1) = lets i ++ [letS i] := by rw [lets, List.range_succ, List.map_append]; rfl
theorem lets_len (i : Nat) : (lets i).length = i := by simp [lets]
/-- A number by its digits, the last one first. -/
def hv (k off : Nat) : List Nat → Nat
  | [] => 0
  | x :: r => hv k off r * k + (x + off)
theorem hv_digN (k : Nat) (hk : 2 ≤ k) (n : Nat) : hv k 0 (digN k n) = n := by
  rw [digN]
  split
  · rename_i h
    rw [hv, hv_digN k hk (n / k), Nat.add_zero, Nat.mul_comm]
    exact Nat.div_add_mod n k
  · rename_i h
    rw [hv, hv, Nat.zero_mul, Nat.zero_add, Nat.add_zero]
    exact Nat.mod_eq_of_lt (by omega)
termination_by n
decreasing_by exact Nat.div_lt_self (by omega) (by omega)
theorem hv_digL (k : Nat) (hk : 2 ≤ k) (n : Nat) : hv k 1 (digL k n) = n := by
  rw [digL]
  split
  · rename_i h
    rw [hv, hv_digL k hk ((n - 1) / k), Nat.mul_comm]
    have := Nat.div_add_mod (n - 1) k
    omega
  · rw [hv]; omega
termination_by n
decreasing_by have := Nat.div_le_self (n - 1) k; omega
theorem hv_drop (k off : Nat) (hk : 1 ≤ k) : ∀ (l : List Nat) (j : Nat), hv k off (l.drop j) ≤ hv k off l
  | [], j => by simp
  | x :: r, 0 => Nat.le_refl _
  | x :: r, j + 1 => by
    have h1 := hv_drop k off hk r j
    have h2 : hv k off r ≤ hv k off r * k := Nat.le_mul_of_pos_right _ hk
    rw [List.drop_succ_cons, hv]
    omega
theorem digN_small (k : Nat) (hk : 2 ≤ k) : ∀ (m n : Nat), n < 2 ^ (m + 1) → (digN k n).length ≤ m + 1
  | 0, n, h => by
    rw [digN_lt (by omega)]
    simp
  | m + 1, n, h => by
    rw [digN]
    split
    · rename_i hh
      have h2 : n / k < 2 ^ (m + 1) := by
        have : n / k ≤ n / 2 := Nat.div_le_div_left hk (by omega)
        have : n / 2 < 2 ^ (m + 1) := by rw [Nat.div_lt_iff_lt_mul (by omega)]; rw [Nat.pow_succ] at h; exact h
        omega
      have := digN_small k hk m (n / k) h2
      simp; omega
    · simp
theorem digL_small (k : Nat) (hk : 2 ≤ k) : ∀ (m n : Nat), n < 2 ^ m → (digL k n).length ≤ m
  | 0, n, h => by
    have : n = 0 := by simpa using h
    subst this
    rw [digL_zero]; simp
  | m + 1, n, h => by
    rw [digL]
    split
    · rename_i hh
      have h2 : (n - 1) / k < 2 ^ m := by
        have : (n - 1) / k ≤ (n - 1) / 2 := Nat.div_le_div_left hk (by omega)
        have : (n - 1) / 2 < 2 ^ m := by rw [Nat.div_lt_iff_lt_mul (by omega)]; rw [Nat.pow_succ] at h; omega
        omega
      have := digL_small k hk m ((n - 1) / k) h2
      simp; omega
    · simp
theorem digN_last (k : Nat) (hk : 2 ≤ k) (n : Nat) (hn : 0 < n) : (digN k n).getD ((digN k n).length - 1) 0 ≠ 0 := by
  rw [digN]
  split
  · rename_i h
    have h1 : 0 < n / k := Nat.div_pos h.2 (by omega)
    have ih := digN_last k hk (n / k) h1
    have h2 : 0 < (digN k (n / k)).length := by rw [digN_cons]; simp
    obtain ⟨q, hq⟩ : ∃ q, (digN k (n / k)).length = q + 1 := ⟨(digN k (n / k)).length - 1, by omega⟩
    rw [hq] at ih
    simp only [List.length_cons, hq, Nat.add_sub_cancel] at ih ⊢
    exact ih
  · rename_i h
    simp
    rw [Nat.mod_eq_of_lt (by omega)]
    omega
termination_by n
decreasing_by exact Nat.div_lt_self (by omega) (by omega)
/-- The style. -/
def decD (letters : Bool) (b : Nat) : Df := mk (if letters then alphabeticS else numericS) (lets b)
def decO (letters : Bool) : Nat := if letters then 1 else 0
def decL (letters : Bool) (b n : Nat) : List Nat := if letters then digL b n else digN b n
def allC (p : Nat → Bool) : Bool := (List.range 27).all p
theorem allC_get {p : Nat → Bool} (h : allC p = true) {k : Nat} (h2 : k ≤ 26) : p k = true := List.all_eq_true.1 h k (List.mem_range.2 (by omega))
theorem may_dec0 : allC (fun b => Nat.blt b 2 || mayF (decD false b)) = true := by kernel_rfl
theorem may_dec1 : allC (fun b => Nat.blt b 2 || mayF (decD true b)) = true := by kernel_rfl
theorem may_dec (letters : Bool) {b : Nat} (h1 : 2 ≤ b) (h2 : b ≤ 26) : mayF (decD letters b) = true := by
  have e : Nat.blt b 2 = false := by rw [Bool.eq_false_iff]; intro h; rw [Nat.blt_eq] at h; omega
  cases letters
  · have := allC_get may_dec0 h2
    rwa [e, Bool.false_or] at this
  · have := allC_get may_dec1 h2
    rwa [e, Bool.false_or] at this
theorem decL_lt (letters : Bool) {b : Nat} (h1 : 2 ≤ b) (n : Nat) : ∀ x ∈ decL letters b n, x < b := by
  cases letters
  · exact digN_lt_all b (by omega) n
  · exact digL_lt_all b (by omega) n
theorem decL_hv (letters : Bool) {b : Nat} (h1 : 2 ≤ b) (n : Nat) : hv b (decO letters) (decL letters b n) = n := by
  cases letters
  · exact hv_digN b h1 n
  · exact hv_digL b h1 n
theorem decL_len (letters : Bool) {b : Nat} (h1 : 2 ≤ b) (n : Nat) (hn : n ≤ 2147483648) : (decL letters b n).length ≤ 32 := by
  cases letters
  · exact digN_small b h1 31 n (by omega)
  · exact digL_small b h1 32 n (by omega)
theorem decL_pos (letters : Bool) {b : Nat} (n : Nat) (hz : letters = true → 0 < n) : 0 < (decL letters b n).length := by
  cases letters
  · show 0 < (digN b n).length
    rw [digN_cons]; simp
  · show 0 < (digL b n).length
    rw [digL_pos (hz rfl)]; simp
theorem flat_one : ∀ l : List Nat, (l.map fun x => [letB x]).flatten = l.map letB
  | [] => rfl
  | x :: l => by simp [flat_one l]
theorem symB_let (letters : Bool) {b p : Nat} (h : p < b) : symB (decD letters b) (p : Int) = [letB p] := by
  have e : (decD letters b).syms = lets b := rfl
  unfold symB
  rw [e, Int.toNat_natCast, List.getD_eq_getElem?_getD, lets, List.getElem?_map, List.getElem?_range h]
  rfl
theorem signs_dec (letters : Bool) {b n : Nat} (h1 : 2 ≤ b) (h2 : b ≤ 26) (hn : n ≤ 2147483648) (hz : letters = true → 0 < n) :
    signsF (decD letters b) n = (ustr ((decL letters b n).reverse.map letB), true) := by
  have hm := may_dec letters h1 h2
  have e0 : ¬ (mayF (decD letters b) = false ∨ (n : Int) < -2147483648 ∨ 2147483648 < (n : Int)) := by rw [hm]; simp; omega
  have hl : (decD letters b).syms.length = b := lets_len b
  have hlen := decL_len letters h1 n hn
  have hch : chosenTB (decD letters b) (decL letters b n) = (ustr ((decL letters b n).reverse.map letB), true) := by
    unfold chosenTB
    rw [if_neg (by omega), decide_eq_false (by omega)]
    congr 2
    rw [chosenB, ← flat_one, ← List.map_reverse, List.map_map]
    congr 1
    apply List.map_congr_left
    intro x hx
    exact symB_let letters (decL_lt letters h1 n x (by simpa using hx))
  rw [signsF, if_neg e0, hl, Int.toNat_natCast]
  cases letters
  · rw [show (decD false b).sys = numericS from rfl]
    rw [if_neg (by decide : ¬ numericS = cyclicS), if_neg (by decide : ¬ numericS = fixedS), if_neg (by decide : ¬ numericS = symbolicS), if_neg (by decide : ¬ numericS = alphabeticS), if_pos (rfl : numericS = numericS), if_pos (by omega)]
    exact hch
  · rw [show (decD true b).sys = alphabeticS from rfl]
    rw [if_neg (by decide : ¬ alphabeticS = cyclicS), if_neg (by decide : ¬ alphabeticS = fixedS), if_neg (by decide : ¬ alphabeticS = symbolicS), if_pos (rfl : alphabeticS = alphabeticS), if_pos (by have := hz rfl; omega)]
    exact hch
theorem letB_nat {x : Nat} (h : x < 26) : (letB x).toNat = 97 + x := by
  unfold letB
  rw [UInt8.toNat_ofNat']
  omega
/-- What the walk asks of the signs. -/
theorem dec_facts (letters : Bool) {b n : Nat} (h1 : 2 ≤ b) (h2 : b ≤ 26) (hn : n ≤ 2147483648) (hz : letters = true → 0 < n) :
    ∃ s : ByteArray, signsF (decD letters b) n = (s, true) ∧ s.size = (decL letters b n).length ∧ ∀ i, i < s.size → (s.data.toList.getD i 0).toNat = 97 + (decL letters b n).getD ((decL letters b n).length - 1 - i) 0 := by
  refine ⟨_, signs_dec letters h1 h2 hn hz, ?_, fun i hi => ?_⟩
  · rw [Lib.size_eq, ustr, List.toList_toArray, List.length_map, List.length_reverse]
  · rw [Lib.size_eq, ustr, List.toList_toArray, List.length_map, List.length_reverse] at hi
    rw [ustr, List.toList_toArray, List.getD_eq_getElem?_getD, List.getElem?_map, List.getElem?_reverse hi, List.getElem?_eq_getElem (by omega)]
    rw [List.getD_eq_getElem?_getD, List.getElem?_eq_getElem (by omega)]
    exact letB_nat (Nat.lt_of_lt_of_le (decL_lt letters h1 n _ (List.getElem_mem _)) h2)
end Go.Proofs.Ytgkcliecgmhmfaa
