/- dom: kids, in plain words. -/
import Derived.Test.YtklodolkgdmhoaaWh
namespace Go.Proofs.Ytklodolkgdmhoaa
open Go Go.RowKit

def tagB (l : List Rw) (k : Nat) : Bool := !decide ((rwAt l k).tag = emS)
theorem lowS_em {s : ByteArray} : lowS s = emS ↔ s = emS := by
  constructor
  · intro h
    have := lowS_size s
    rw [h] at this
    have h2 : s.size = 0 := by rw [← this]; rfl
    have h3 : s.data.toList = [] := List.eq_nil_of_length_eq_zero (by rw [str_size]; exact h2)
    show s = ⟨#[]⟩
    have h4 : s.data = #[] := Array.toList_inj.1 (by rw [h3])
    rw [← h4]
  · rintro rfl; rfl
theorem elB_tag {gs : List Nt} {l : List Rw} (hgd : Good l gs) (hl : gs.length = l.length) {k : Nat} (hk : k < l.length) : elB gs (k : Nat) = tagB l k := by
  have : inB gs (k : Nat) = true := by rw [inB, decide_eq_true (by omega), decide_eq_true (by omega)]; rfl
  rw [elB, this, Bool.true_and, Int.toNat_natCast, hgd.r k (by omega), tagB]
  congr 1
  exact decide_eq_decide.2 lowS_em
theorem kidF_kidsP {gs : List Nt} {l : List Rw} (hgd : Good l gs) (hl : gs.length = l.length) {i : Nat} (hi : i < l.length) : kidF gs (i : Nat) = kidsP l i := by
  have : inB gs (i : Nat) = true := by rw [inB, decide_eq_true (by omega), decide_eq_true (by omega)]; rfl
  rw [kidF, this, if_pos rfl, Int.toNat_natCast, hgd.kids i (by omega), hl]; rfl
theorem parF_par {gs : List Nt} {l : List Rw} (hgd : Good l gs) (hl : gs.length = l.length) {i : Nat} (hi : i < l.length) : parF gs (i : Nat) = (rwAt l i).parent := by
  have : inB gs (i : Nat) = true := by rw [inB, decide_eq_true (by omega), decide_eq_true (by omega)]; rfl
  rw [parF, this, if_pos rfl, Int.toNat_natCast, hgd.r i (by omega)]; rfl
theorem elemF_eq {gs : List Nt} {l : List Rw} (hgd : Good l gs) (hl : gs.length = l.length) {i : Nat} (hi : i < l.length) : elemF gs (i : Nat) = (kidsP l i).filter (tagB l) := by
  rw [elemF, kidF_kidsP hgd hl hi]
  apply List.filter_congr
  intro k hk
  rw [elB_tag hgd hl (mem_kidsP.1 hk).1, Bool.not_not]
theorem kidsP_sorted (l : List Rw) (i : Nat) : (kidsP l i).Pairwise (· < ·) := List.Pairwise.filter _ List.pairwise_lt_range
theorem sorted_get {K : List Nat} (h : K.Pairwise (· < ·)) {a b : Nat} (hab : a < b) (hb : b < K.length) : K[a] < K[b] := List.pairwise_iff_getElem.1 h a b (by omega) hb hab
theorem bef_eq {gs : List Nt} {l : List Rw} (hgd : Good l gs) (hl : gs.length = l.length) {i : Nat} (hi : i < l.length) {j : Nat} (hj : j < (kidsP l i).length) :
    befF gs ((kidsP l i)[j] : Nat) = (((kidsP l i).take j).filter (tagB l)).reverse := by
  have hm := mem_kidsP.1 (List.getElem_mem hj)
  rw [befF, parF_par hgd hl hm.1, hm.2.2, elemF_eq hgd hl hi]
  congr 1
  have hs := kidsP_sorted l i
  generalize kidsP l i = K at hj hs
  rw [List.filter_filter]
  obtain ⟨kj, hkj⟩ : ∃ kj, kj = K[j] := ⟨_, rfl⟩
  rw [← hkj]
  have e : K = K.take j ++ K.drop j := (List.take_append_drop j K).symm
  conv => lhs; rw [e]
  rw [List.filter_append]
  have h1 : (K.drop j).filter (fun k => !decide (((kj : Nat) : Int) ≤ ((k : Nat) : Int)) && tagB l k) = [] := by
    rw [List.filter_eq_nil_iff]
    intro k hk
    obtain ⟨m, hm, rfl⟩ := List.mem_iff_getElem.1 hk
    rw [List.length_drop] at hm
    have : kj ≤ (K.drop j)[m]'(by rw [List.length_drop]; exact hm) := by
      rw [hkj]
      rw [List.getElem_drop]
      rcases Nat.eq_zero_or_pos m with h | h
      · subst h; exact Nat.le_refl _
      · exact Nat.le_of_lt (sorted_get hs (by omega) (by omega))
    rw [decide_eq_true (Int.ofNat_le.2 this)]
    simp
  rw [h1, List.append_nil]
  apply List.filter_congr
  intro k hk
  obtain ⟨m, hm, rfl⟩ := List.mem_take_iff_getElem.1 hk
  have : K[m] < kj := by rw [hkj]; exact sorted_get hs (by omega) hj
  rw [decide_eq_false (by omega)]
  simp
theorem depF_eq {gs : List Nt} {l : List Rw} (hgd : Good l gs) (hl : gs.length = l.length) {i : Nat} (hi : i < l.length) : depF gs (i : Nat) = (ntAt gs i).depth := by
  have : inB gs (i : Nat) = true := by rw [inB, decide_eq_true (by omega), decide_eq_true (by omega)]; rfl
  rw [depF, this, if_pos rfl, Int.toNat_natCast]
theorem dep_kid {gs : List Nt} {l : List Rw} (hgd : Good l gs) (hl : gs.length = l.length) {i k : Nat} (hi : i < l.length) (hk : k ∈ kidsP l i) : depF gs (k : Nat) = depF gs (i : Nat) + 1 := by
  obtain ⟨h1, h2, h3⟩ := mem_kidsP.1 hk
  rw [depF_eq hgd hl h1, depF_eq hgd hl hi, hgd.dep k h2 (by omega), h3, Int.toNat_natCast]
  rfl
theorem und_kid {gs : List Nt} {l : List Rw} (hgd : Good l gs) (hl : gs.length = l.length) {i k : Nat} (hi : i < l.length) (hk : k ∈ kidsP l i) : undN gs l (k : Nat) (i : Nat) = true := by
  obtain ⟨h1, h2, h3⟩ := mem_kidsP.1 hk
  have hp := okPar_of hgd hl
  have := hp k h2 h1
  have e1 : inB gs (i : Nat) = true := by rw [inB, decide_eq_true (by omega), decide_eq_true (by omega)]; rfl
  have e2 : inB gs (k : Nat) = true := by rw [inB, decide_eq_true (by omega), decide_eq_true (by omega)]; rfl
  rw [undN, e1, e2, Int.toNat_natCast, Int.toNat_natCast, under_gt hp h1 (by omega), h3, Int.toNat_natCast, under_self]
  rfl
/-- How many nodes have a parent ahead of i. -/
def cntP (l : List Rw) (i : Nat) : Nat := ((List.range l.length).filter fun k => decide (k ≠ 0) && decide ((rwAt l k).parent < i)).length
theorem filter_or {α : Type} {p q : α → Bool} : ∀ {l : List α}, (∀ x ∈ l, ¬ (p x = true ∧ q x = true)) → (l.filter fun x => p x || q x).length = (l.filter p).length + (l.filter q).length
  | [], _ => rfl
  | x :: r, h => by
    have ih := filter_or (l := r) fun y hy => h y (List.mem_cons_of_mem _ hy)
    have hx := h x List.mem_cons_self
    simp only [List.filter_cons]
    cases hp : p x <;> cases hq : q x <;> simp_all <;> omega
theorem cnt_step {l : List Rw} (i : Nat) : cntP l (i + 1) = cntP l i + (kidsP l i).length := by
  rw [cntP, cntP, kidsP, ← filter_or]
  · congr 1
    apply List.filter_congr
    intro k _
    rw [kidB]
    by_cases h0 : k = 0
    · simp [h0]
    · simp only [ne_eq, h0, not_false_eq_true, decide_true, Bool.true_and]
      rw [← Bool.decide_or]
      exact decide_eq_decide.2 (by omega)
  · rintro k _ ⟨h1, h2⟩
    rw [kidB] at h2
    simp only [Bool.and_eq_true, decide_eq_true_eq] at h1 h2
    omega
theorem cnt_zero {l : List Rw} (hp : okPar l) : cntP l 0 = 0 := by
  rw [cntP, List.filter_eq_nil_iff.2]
  · rfl
  · intro k hk
    have hk := List.mem_range.1 hk
    by_cases h0 : k = 0
    · simp [h0]
    · have := hp k (by omega) hk
      rw [decide_eq_false (show ¬ (rwAt l k).parent < ((0 : Nat) : Int) by omega)]
      simp
theorem range_ne0 : ∀ n : Nat, ((List.range (n + 1)).filter fun k => decide (k ≠ 0)).length = n
  | 0 => rfl
  | n + 1 => by
    rw [List.range_succ, List.filter_append, List.length_append, range_ne0 n]
    simp
theorem cnt_all {l : List Rw} (hp : okPar l) (h0 : 0 < l.length) : cntP l l.length + 1 = l.length := by
  obtain ⟨n, hn⟩ : ∃ n, l.length = n + 1 := ⟨l.length - 1, by omega⟩
  rw [cntP, hn]
  have := range_ne0 n
  rw [List.filter_congr (q := fun k => decide (k ≠ 0))]
  · rw [this]
  · intro k hk
    have hk := List.mem_range.1 hk
    by_cases h0 : k = 0
    · simp [h0]
    · have := hp k (by omega) (by omega)
      rw [decide_eq_true (show (rwAt l k).parent < ((n + 1 : Nat) : Int) by omega), Bool.and_true]
theorem filter_take_succ {α : Type} (p : α → Bool) {K : List α} {j : Nat} (hj : j < K.length) : (K.take (j + 1)).filter p = (K.take j).filter p ++ (if p K[j] then [K[j]] else []) := by
  rw [List.take_add_one, List.getElem?_eq_getElem hj, List.filter_append]
  congr 1
  cases h : p K[j] <;> simp [h]
theorem filter_at {α : Type} (p : α → Bool) {K : List α} {j : Nat} (hj : j < K.length) (hp : p K[j] = true) (h : ((K.take j).filter p).length < (K.filter p).length) : (K.filter p)[((K.take j).filter p).length] = K[j] := by
  have e : K.filter p = (K.take j).filter p ++ (K[j] :: (K.drop (j + 1)).filter p) := by
    conv => lhs; rw [← List.take_append_drop j K, List.drop_eq_getElem_cons hj, List.filter_append, List.filter_cons, hp]
    rfl
  simp only [e]
  rw [List.getElem_append_right (Nat.le_refl _)]
  simp
theorem filter_lt {α : Type} (p : α → Bool) {K : List α} {j : Nat} (hj : j < K.length) (hp : p K[j] = true) : ((K.take j).filter p).length < (K.filter p).length := by
  have e : K.filter p = (K.take j).filter p ++ (K[j] :: (K.drop (j + 1)).filter p) := by
    conv => lhs; rw [← List.take_append_drop j K, List.drop_eq_getElem_cons hj, List.filter_append, List.filter_cons, hp]
    rfl
  rw [e, List.length_append, List.length_cons]
  omega
theorem filter_last {α : Type} (p : α → Bool) {K : List α} {j m : Nat} (hm : m + 1 = ((K.take j).filter p).length) (h : m < (K.filter p).length) (h' : 0 < ((K.take j).filter p).reverse.length) : ((K.take j).filter p).reverse[0] = (K.filter p)[m] := by
  have e : K.filter p = (K.take j).filter p ++ (K.drop j).filter p := by rw [← List.filter_append, List.take_append_drop]
  simp only [e]
  rw [List.getElem_reverse, List.getElem_append_left (by omega)]
  congr 1
  omega
end Go.Proofs.Ytklodolkgdmhoaa
