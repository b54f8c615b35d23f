/- DomOrder, in plain words: each node is there once, behind its parent, and what is within a node stands together. -/
import Derived.Test.YtklodolkgdmhoaaWc
namespace Go.Proofs.Ytklodolkgdmhoaa
open Go Go.RowKit

theorem nodup_sub : ∀ {a b : List Nat}, a.Nodup → (∀ x ∈ a, x ∈ b) → a.length ≤ b.length
  | [], _, _, _ => Nat.zero_le _
  | x :: r, b, h, hs => by
    have hx := hs x List.mem_cons_self
    have h2 := nodup_sub (a := r) (b := b.erase x) (List.nodup_cons.1 h).2 fun y hy => (List.mem_erase_of_ne (fun e => (List.nodup_cons.1 h).1 (by rw [← e]; exact hy))).2 (hs y (List.mem_cons_of_mem _ hy))
    rw [List.length_erase_of_mem hx] at h2
    have := List.length_pos_of_mem hx
    rw [List.length_cons]; omega
theorem walk0_all {l : List Rw} (hp : okPar l) (h0 : 0 < l.length) : (walkP l 0).length = l.length := by
  refine Nat.le_antisymm (walk0_len hp h0) ?_
  have := nodup_sub (a := List.range l.length) (b := walkP l 0) List.nodup_range fun x hx => (mem_walk0 hp h0 x).2 (List.mem_range.1 hx)
  rwa [List.length_range] at this
theorem walk0_nodup {l : List Rw} (hp : okPar l) (h0 : 0 < l.length) : (walkP l 0).Nodup := walk_nodup hp _ 0 (Nat.le_refl _) h0
theorem under_cnt {l : List Rw} (hp : okPar l) {i : Nat} (hi : i < l.length) : ((List.range l.length).filter fun k => under l k i).length = (walkP l i).length := by
  have hm := mem_walk hp _ i (Nat.le_refl _) hi
  refine Nat.le_antisymm (nodup_sub (List.Pairwise.filter _ List.nodup_range) fun x hx => ?_) (nodup_sub (walk_nodup hp _ i (Nat.le_refl _) hi) fun x hx => ?_)
  · rw [List.mem_filter, List.mem_range] at hx
    exact (hm x).2 hx
  · rw [List.mem_filter, List.mem_range]
    exact (hm x).1 hx
theorem nodup_at {O : List Nat} (h : O.Nodup) {a b : Nat} {x : Nat} (ha : O[a]? = some x) (hb : O[b]? = some x) : a = b := by
  obtain ⟨h1, h2⟩ := List.getElem?_eq_some_iff.1 ha
  obtain ⟨h3, h4⟩ := List.getElem?_eq_some_iff.1 hb
  exact (List.getElem_inj h).1 (h2.trans h4.symm)
/-- What is within a node stands behind it, one by one. -/
theorem walk_at {l : List Rw} (hp : okPar l) (h0 : 0 < l.length) {i k : Nat} (hi : i < l.length) (hk : (walkP l 0)[k]? = some i) : ∀ t, t < (walkP l i).length → (walkP l 0)[k + t]? = (walkP l i)[t]? := by
  obtain ⟨A, B, e⟩ := walk_infix hp h0 i i (Nat.le_refl _) hi (under_zero hp i i (Nat.le_refl _) hi)
  have hk2 : k = A.length := by
    refine nodup_at (walk0_nodup hp h0) hk ?_
    rw [e, List.append_assoc, List.getElem?_append_right (Nat.le_refl _), Nat.sub_self, walkP_eq hp hi]; rfl
  intro t ht
  rw [e, hk2, List.append_assoc, List.getElem?_append_right (by omega), Nat.add_sub_cancel_left, List.getElem?_append_left ht]
theorem walk_under {l : List Rw} (hp : okPar l) (h0 : 0 < l.length) {i k : Nat} (hi : i < l.length) (hk : (walkP l 0)[k]? = some i) {t : Nat} (ht : t < (walkP l i).length) : ∃ x, (walkP l 0)[k + t]? = some x ∧ x < l.length ∧ under l x i = true := by
  refine ⟨(walkP l i)[t], ?_, (mem_walk hp _ i (Nat.le_refl _) hi _).1 (List.getElem_mem ht)⟩
  rw [walk_at hp h0 hi hk t ht, List.getElem?_eq_getElem ht]
theorem walk_first {l : List Rw} (hp : okPar l) (h0 : 0 < l.length) : (walkP l 0)[0]? = some 0 := by rw [walkP_eq hp h0]; rfl
theorem walk_parent {l : List Rw} (hp : okPar l) (h0 : 0 < l.length) {j x : Nat} (hj : (walkP l 0)[j]? = some x) (h1 : 0 < j) : 0 < x ∧ x < l.length ∧ 0 ≤ (rwAt l x).parent ∧ (rwAt l x).parent < x ∧ ∃ k, k < j ∧ (walkP l 0)[k]? = some (rwAt l x).parent.toNat := by
  have hx : x < l.length := (mem_walk0 hp h0 x).1 (List.mem_of_getElem? hj)
  have hx0 : 0 < x := by
    rcases Nat.eq_zero_or_pos x with h | h
    · subst h
      have := nodup_at (walk0_nodup hp h0) hj (walk_first hp h0)
      omega
    · exact h
  obtain ⟨p1, p2⟩ := hp x hx0 hx
  refine ⟨hx0, hx, p1, p2, ?_⟩
  have hpl : (rwAt l x).parent.toNat < l.length := by omega
  obtain ⟨k, hk⟩ := List.mem_iff_getElem?.1 ((mem_walk0 hp h0 (rwAt l x).parent.toNat).2 hpl)
  refine ⟨k, ?_, hk⟩
  have hmx : x ∈ walkP l (rwAt l x).parent.toNat := (mem_walk hp _ _ (Nat.le_refl _) hpl x).2 ⟨hx, by rw [under_gt hp hx (by omega)]; exact under_self l _⟩
  obtain ⟨t, ht⟩ := List.mem_iff_getElem?.1 hmx
  obtain ⟨htl, _⟩ := List.getElem?_eq_some_iff.1 ht
  have h2 := walk_at hp h0 hpl hk t htl
  rw [ht] at h2
  have h3 := nodup_at (walk0_nodup hp h0) hj h2
  have ht0 : t ≠ 0 := fun h => by
    subst h
    rw [walkP_eq hp hpl] at ht
    simp at ht
    omega
  omega
/-- Where the nodes met so far stand. -/
def Placed (O : List Nat) (n j : Nat) (P : List Int) : Prop :=
  P.length = n ∧ ∀ x, x < n → (∃ k, k < j ∧ O[k]? = some x ∧ P[x]? = some (k : Int)) ∨ (P[x]? = some (-1) ∧ ∀ k, k < j → O[k]? ≠ some x)
theorem placed_0 (O : List Nat) (n : Nat) : Placed O n 0 (List.replicate n (-1)) := by
  refine ⟨List.length_replicate, fun x hx => .inr ⟨by rw [List.getElem?_replicate, if_pos hx], fun k hk => by omega⟩⟩
theorem placed_step {O : List Nat} {n j x : Nat} {P : List Int} (h : Placed O n j P) (hx : O[j]? = some x) (hn : O.Nodup) : Placed O n (j + 1) (P.set x (j : Int)) := by
  refine ⟨by rw [List.length_set]; exact h.1, fun y hy => ?_⟩
  by_cases e : x = y
  · subst e
    exact .inl ⟨j, Nat.lt_succ_self j, hx, by rw [List.getElem?_set_self (by rw [h.1]; exact hy)]⟩
  · rw [List.getElem?_set_ne e]
    rcases h.2 y hy with ⟨k, h1, h2, h3⟩ | ⟨h1, h2⟩
    · exact .inl ⟨k, by omega, h2, h3⟩
    · refine .inr ⟨h1, fun k hk h3 => ?_⟩
      rcases Nat.lt_succ_iff_lt_or_eq.1 hk with h4 | h4
      · exact h2 k h4 h3
      · subst h4
        rw [hx] at h3
        exact e (Option.some.inj h3)
theorem placed_new {O : List Nat} {n j x : Nat} {P : List Int} (h : Placed O n j P) (hx : O[j]? = some x) (hxn : x < n) (hn : O.Nodup) : P[x]? = some (-1) := by
  rcases h.2 x hxn with ⟨k, h1, h2, h3⟩ | ⟨h1, h2⟩
  · have := nodup_at hn hx h2
    omega
  · exact h1
theorem placed_old {O : List Nat} {n j x k : Nat} {P : List Int} (h : Placed O n j P) (hk : k < j) (hx : O[k]? = some x) (hxn : x < n) (hn : O.Nodup) : P[x]? = some (k : Int) := by
  rcases h.2 x hxn with ⟨k', h1, h2, h3⟩ | ⟨h1, h2⟩
  · have := nodup_at hn hx h2
    subst this; exact h3
  · exact absurd hx (h2 k hk)
theorem filter_range_succ_len (p : Nat → Bool) (k : Nat) : ((List.range (k + 1)).filter p).length = ((List.range k).filter p).length + (if p k then 1 else 0) := by
  rw [range_filter_succ, List.length_append]
  split <;> rfl
end Go.Proofs.Ytklodolkgdmhoaa
