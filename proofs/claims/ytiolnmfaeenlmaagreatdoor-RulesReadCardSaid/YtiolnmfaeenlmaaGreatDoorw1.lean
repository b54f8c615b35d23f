/- Bounds of tokens' texts and of nodes' tokens (plain): for RulesRead, DefineReads. -/
import Derived.Test.YtiolnmfaeenlmaaGreatDoorr5
import Derived.Test.YtiolnmfaeenlmaaGreatDoorRg
import Derived.Test.YtiolnmfaeenlmaaGreatDoorr9
import Derived.Test.YtiolnmfaeenlmaaGreatDoorR0
namespace Go.Proofs.YtiolnmfaeenlmaaGreatDoor
open Go Go.RowKit
set_option maxRecDepth 20000

theorem runes_sz (l : List Int) : (runesBytes l).size ≤ 4 * l.length := by
  have := foldl_size_le l ByteArray.empty
  rw [show (ByteArray.empty).size = 0 from rfl, Nat.zero_add] at this
  exact this
section
variable {α R : Type}
theorem goL_out {stepL : List Int → (List α × List Int) ⊕ R} (h : ∀ l o l', stepL l = .inl (o, l') → o.length ≤ 1) : ∀ (f : Nat) (l : List Int), (goL stepL f l).1.length ≤ f
  | 0, _ => Nat.le_refl _
  | f + 1, l => by
    rw [goL]
    cases e : stepL l with
    | inr r => exact Nat.zero_le _
    | inl p =>
      have h1 := h l p.1 p.2 e
      have h2 := goL_out h f p.2
      simp only [List.length_append]
      omega
theorem goL_rest {stepL : List Int → (List α × List Int) ⊕ R} (hl : Less stepL) (g : R → List Int) (h : ∀ l r, stepL l = .inr r → (g r).length ≤ l.length) : ∀ (f : Nat) (l : List Int) (r : R), (goL stepL f l).2 = some r → (g r).length ≤ l.length
  | 0, _, _, h0 => by cases h0
  | f + 1, l, r, h0 => by
    rw [goL] at h0
    cases e : stepL l with
    | inr r' =>
      rw [e] at h0
      cases h0
      exact h l r e
    | inl p =>
      rw [e] at h0
      have h1 := hl l p.1 p.2 e
      have h2 := goL_rest hl g h f p.2 r h0
      omega
theorem goLs_rest {stepL : List Int → (List Int × List Int) ⊕ List Int} (hl : Less stepL) (h : ∀ l r, stepL l = .inr r → r.length ≤ l.length) (l : List Int) : ((((goLs stepL l).2).getD []) : List Int).length ≤ l.length := by
  cases e : (goLs stepL l).2 with
  | none => exact Nat.zero_le _
  | some r => exact goL_rest hl id h _ _ _ e
end
theorem nameL_out (l : List Int) : (nameL l).1.length ≤ l.length + 1 := by
  refine goL_out ?_ _ _
  intro l o l' e
  rw [nameStepL] at e
  split at e
  · cases e; exact Nat.le_refl _
  · split at e
    · cases e; exact Nat.le_refl _
    · cases e
theorem digL_rest (l : List Int) : (digL l).2.length ≤ l.length := by
  refine goLs_rest dig_less ?_ l
  intro l r e
  rw [digStepL] at e
  split at e
  · cases e
  · cases e; exact Nat.le_refl _
theorem wL_rest (l : List Int) : (wL l).length ≤ l.length := by
  refine goLs_rest w_less ?_ l
  intro l r e
  rw [wStepL] at e
  split at e
  · cases e
  · cases e; exact Nat.le_refl _
theorem nameL_rest (l : List Int) : (nameL l).2.length ≤ l.length := by
  refine goLs_rest name_less ?_ l
  intro l r e
  rw [nameStepL] at e
  split at e
  · cases e
  · split at e
    · cases e
    · cases e; exact Nat.le_refl _
theorem cL_rest (l : List Int) : (cL l).length ≤ l.length := by
  have := fun h => goL_rest (g := id) c_less h (l.length + 1) l
  rw [cL]
  cases e : (goLs cStepL l).2 with
  | none => simp only [Option.getD_none]; first | exact Nat.zero_le _ | exact Nat.le_refl _
  | some r =>
    refine this ?_ r e
    intro l r e
    rw [cStepL] at e
    split at e
    · cases e
    · cases e; exact Nat.le_refl _
theorem quo_out (q : Int) (l : List Int) : (goLs (qStepL q) l).1.length ≤ l.length + 1 := by
  refine goL_out ?_ _ _
  intro l o l' e
  rw [qStepL] at e
  repeat' (first | cases e | split at e)
  all_goals (first | exact Nat.le_refl _ | exact Nat.zero_le _)
theorem url_out (l : List Int) : (goLs uStepL l).1.length ≤ l.length + 1 := by
  refine goL_out ?_ _ _
  intro l o l' e
  rw [uStepL] at e
  repeat' (first | cases e | split at e)
  all_goals (first | exact Nat.le_refl _ | exact Nat.zero_le _)
theorem nPL_rest (l : List Int) : (nPL l).length ≤ l.length := by
  have h1 : (n1L l).length ≤ l.length := by
    rw [n1L]; split
    · rw [List.length_drop]; omega
    · exact Nat.le_refl _
  have h2 := digL_rest (n1L l)
  have h3 : ∀ l : List Int, (n3L l).length ≤ l.length := fun l => by
    rw [n3L]; split
    · have := digL_rest (l.drop 1)
      rw [List.length_drop] at this
      omega
    · exact Nat.le_refl _
  have h4 : ∀ l : List Int, (n4L l).length ≤ l.length := fun l => by
    rw [n4L]; split
    · have := digL_rest (l.drop (nKL l))
      rw [List.length_drop] at this
      omega
    · exact Nat.le_refl _
  rw [nPL, n2L]
  exact Nat.le_trans (h4 _) (Nat.le_trans (h3 _) (Nat.le_trans h2 h1))
theorem sz0 : (⟨#[]⟩ : ByteArray).size = 0 := rfl
theorem name_sz (l : List Int) (k : Nat) (h : l.length ≤ k) : (runesBytes (nameL l).1).size ≤ 4 * (k + 1) := by
  have h1 := nameL_out l
  have h2 := runes_sz (nameL l).1
  omega
theorem urlL_sz (l : List Int) (k : Nat) (h : l.length ≤ k) : (urlL l).1.text.size ≤ 4 * (k + 1) := by
  have h1 := url_out (wL l)
  have h2 := wL_rest l
  have h3 := runes_sz (goLs uStepL (wL l)).1
  rw [urlL]
  dsimp only
  split
  · show (runesBytes (goLs uStepL (wL l)).1).size ≤ _
    omega
  · exact Nat.zero_le _
theorem idtL_sz (l : List Int) (k : Nat) (h : l.length ≤ k) : (idtL l).1.text.size ≤ 4 * (k + 1) := by
  have h0 := nameL_rest l
  have hd : ((nameL l).2.drop 1).length ≤ k := by rw [List.length_drop]; omega
  rw [idtL]
  split
  · split
    · split
      · exact name_sz l k h
      · exact urlL_sz _ k hd
    · exact name_sz l k h
  · exact name_sz l k h
theorem numL_sz (l : List Int) (k : Nat) (h : l.length ≤ k) : (numL l).1.text.size ≤ 4 * (k + 1) := by
  have h0 := nPL_rest l
  rw [numL]
  split
  · exact name_sz _ k (by omega)
  · split
    · exact Nat.zero_le _
    · exact Nat.zero_le _
theorem quoL_sz (q : Int) (l : List Int) (k : Nat) (h : l.length ≤ k) : (quoL q l).1.text.size ≤ 4 * (k + 1) := by
  have h1 := quo_out q l
  have h3 := runes_sz (goLs (qStepL q) l).1
  rw [quoL]
  dsimp only
  split
  · show (runesBytes (goLs (qStepL q) l).1).size ≤ _
    omega
  · exact Nat.zero_le _
/-- A token's text has no more than four bytes for each sign (and four). -/
theorem tokL_sz (l : List Int) (k : Nat) (h : l.length ≤ k) : (tokL l).1.text.size ≤ 4 * (k + 1) := by
  have hd : (l.drop 1).length ≤ k := by rw [List.length_drop]; omega
  have h1 : (runesBytes [gt l 0]).size ≤ 4 * (k + 1) := by
    have := runes_sz [gt l 0]
    rw [List.length_singleton] at this
    omega
  rw [tokL]
  split
  · show (if plI (gt l 0) < 6 then runesBytes [gt l 0] else ⟨#[]⟩ : ByteArray).size ≤ _
    split
    · exact h1
    · exact Nat.zero_le _
  split
  · exact Nat.zero_le _
  split
  · exact quoL_sz _ _ k hd
  split
  · exact name_sz _ k hd
  split
  · exact numL_sz _ k h
  split
  · exact Nat.zero_le _
  split
  · exact Nat.zero_le _
  split
  · exact name_sz _ k hd
  split
  · exact idtL_sz _ k h
  · exact h1
theorem enc_pos (r : Int) : 1 ≤ (Utf8.encode r).size := by
  rw [Utf8.encode]
  repeat' (first | split | (show 1 ≤ _; decide))
  all_goals first | exact Nat.le_refl _ | (simp [ByteArray.size]; done) | decide
theorem runes_ne (c : Int) (r : List Int) : 1 ≤ (runesBytes (c :: r)).size := by
  rw [show c :: r = [c] ++ r from rfl, runes_append, ByteArray.size_append]
  have := enc_pos c
  have e : runesBytes [c] = Utf8.encode c := by
    rw [runesBytes]
    show ByteArray.empty ++ Utf8.encode c = _
    exact ByteArray.empty_append
  rw [e]
  omega
theorem name_ne {l : List Int} (h : namesL l = true) : 1 ≤ (runesBytes (nameL l).1).size := by
  rw [nameL]
  by_cases h1 : nameF (gt l 0) = true
  · rw [goLs_go name_less (show nameStepL l = .inl ([gt l 0], l.drop 1) from if_pos h1)]
    exact runes_ne _ _
  · have h2 : escL l = true := by
      rw [namesL] at h
      split at h
      · rename_i h45
        rw [h45] at h1
        exact absurd rfl h1
      · rw [Bool.or_eq_true] at h
        rcases h with h | h
        · exact absurd (by rw [nameF, h]; rfl) h1
        · exact h
    rw [goLs_go name_less (show nameStepL l = .inl ([(escEL (l.drop 1)).1], (escEL (l.drop 1)).2) by rw [nameStepL, if_neg h1, if_pos h2])]
    exact runes_ne _ _
theorem low_sz (s : ByteArray) : (lowS s).size = s.size := by
  rw [lowS, ByteArray.size]
  simp [lowL]
theorem low_ne {s : ByteArray} (h : 1 ≤ s.size) : lowS s ≠ ⟨#[]⟩ := by
  intro h2
  have := low_sz s
  rw [h2, sz0] at this
  omega
theorem tokL_at {l : List Int} (h : (tokL l).1.kind = 3) : lowS (tokL l).1.text ≠ ⟨#[]⟩ := by
  have hk : ∀ i, i < 9 → kindsL.getD i 0 ≠ 3 := by decide
  rw [tokL] at h ⊢
  split at h
  · rename_i hp
    exact absurd h (hk _ hp)
  rename_i c1
  rw [if_neg c1]
  split at h
  · exact absurd h (by show (13 : Int) ≠ 3; decide)
  rename_i c2
  rw [if_neg c2]
  split at h
  · rw [quoL] at h
    dsimp only at h
    split at h
    · exact absurd h (by show (5 : Int) ≠ 3; decide)
    · exact absurd h (by show (6 : Int) ≠ 3; decide)
  rename_i c3
  rw [if_neg c3]
  split at h
  · exact absurd h (by show (4 : Int) ≠ 3; decide)
  rename_i c4
  rw [if_neg c4]
  split at h
  · rw [numL] at h
    split at h
    · exact absurd h (by show (12 : Int) ≠ 3; decide)
    split at h
    · exact absurd h (by show (11 : Int) ≠ 3; decide)
    · exact absurd h (by show (10 : Int) ≠ 3; decide)
  rename_i c5
  rw [if_neg c5]
  split at h
  · exact absurd h (by show (15 : Int) ≠ 3; decide)
  rename_i c6
  rw [if_neg c6]
  split at h
  · exact absurd h (by show (14 : Int) ≠ 3; decide)
  rename_i c7
  rw [if_neg c7]
  split at h
  · rename_i c8
    rw [if_pos c8]
    rw [atL, Bool.and_eq_true] at c8
    exact low_ne (name_ne c8.2)
  rename_i c8
  split at h
  · rw [idtL] at h
    split at h
    · split at h
      · split at h
        · exact absurd h (by show (2 : Int) ≠ 3; decide)
        · rw [urlL] at h
          dsimp only at h
          split at h
          · exact absurd h (by show (7 : Int) ≠ 3; decide)
          · exact absurd h (by show (8 : Int) ≠ 3; decide)
      · exact absurd h (by show (2 : Int) ≠ 3; decide)
    · exact absurd h (by show (1 : Int) ≠ 3; decide)
  · exact absurd h (by show (9 : Int) ≠ 3; decide)
theorem toks_memf : ∀ (f : Nat) (l : List Int) (k : Nat), l.length ≤ k → ∀ t ∈ (goL tStepL f l).1, ∃ m : List Int, m.length ≤ k ∧ t = (tokL m).1
  | 0, _, _, _, _, h => by cases h
  | f + 1, l, k, hl, t, h => by
    rw [goL] at h
    cases e : tStepL l with
    | inr r => rw [e] at h; cases h
    | inl p =>
      have h1 := t_less l p.1 p.2 e
      rw [e] at h
      rw [List.mem_append] at h
      rcases h with h | h
      · rw [tStepL] at e
        split at e
        · cases e
        · cases e
          rw [List.mem_singleton] at h
          have := cL_rest l
          exact ⟨cL l, by omega, h⟩
      · exact toks_memf f p.2 k (by omega) t h
theorem toks_mem (L : List Int) : ∀ t ∈ toksF L, ∃ m : List Int, m.length ≤ L.length ∧ t = (tokL m).1 := by
  rw [← toks_L]
  exact toks_memf _ _ _ (Nat.le_refl _)
theorem toks_sz (L : List Int) : ∀ t ∈ toksF L, t.text.size ≤ 4 * (L.length + 1) := by
  intro t h
  obtain ⟨m, h1, rfl⟩ := toks_mem L t h
  exact tokL_sz m _ h1
theorem toks_at (L : List Int) : ∀ t ∈ toksF L, t.kind = 3 → lowS t.text ≠ ⟨#[]⟩ := by
  intro t h
  obtain ⟨m, h1, rfl⟩ := toks_mem L t h
  exact tokL_at
theorem tkAt_mem {L : List Tk} {a : Nat} (h : a < L.length) : tkAt L a ∈ L := by
  rw [tkAt, List.getD_eq_getElem?_getD, List.getElem?_eq_getElem h]
  exact List.getElem_mem h
theorem refK_mem : ∀ (f : Nat) (L : List Tk) (a deep : Nat) (c : ByteArray) (acc : List Nd), (∀ m ∈ acc, m.tok ∈ L) → ∀ m ∈ (refK f L a deep c acc).1, m.tok ∈ L
  | 0, _, _, _, _, _, h => h
  | f + 1, L, a, deep, c, acc, h => by
    have hadd : ∀ n : Nd, n.tok ∈ L → ∀ m ∈ addN deep acc n, m.tok ∈ L := by
      intro n hn m hm
      rw [addN] at hm
      split at hm
      · rw [List.mem_append, List.mem_singleton] at hm
        rcases hm with hm | rfl
        · exact h m hm
        · exact hn
      · exact h m hm
    rw [refK]
    split
    · rename_i hl
      split
      · exact h
      · split
        · exact refK_mem f L _ _ _ _ (hadd _ (tkAt_mem hl))
        · exact refK_mem f L _ _ _ _ (hadd _ (tkAt_mem hl))
    · exact h
theorem nodeA_mem {L : List Tk} {a : Nat} (deep : Nat) (h : a < L.length) : (nodeA L a deep).1.tok ∈ L ∧ ∀ m ∈ (nodeA L a deep).1.kids, m.tok ∈ L := by
  rw [nodeA]
  split
  · exact ⟨tkAt_mem h, fun m hm => by cases hm⟩
  · exact ⟨tkAt_mem h, refK_mem _ L _ _ _ _ (fun m hm => by cases hm)⟩
theorem allR_mem : ∀ (f : Nat) (L : List Tk) (a : Nat), ∀ n ∈ allR f L a, n.tok ∈ L ∧ ∀ m ∈ n.kids, m.tok ∈ L
  | 0, _, _, _, h => by cases h
  | f + 1, L, a, n, h => by
    rw [allR] at h
    split at h
    · rename_i hl
      rw [List.mem_cons] at h
      rcases h with rfl | h
      · exact nodeA_mem 1 hl
      · exact allR_mem f L _ n h
    · cases h
theorem nodesA_mem (L : List Tk) : ∀ n ∈ nodesA L 0, n.tok ∈ L ∧ ∀ m ∈ n.kids, m.tok ∈ L := allR_mem _ _ _
theorem nodes_sz (s : ByteArray) : ∀ n ∈ nodesA (toksF (readL s)) 0, n.tok.text.size ≤ 4 * (s.size + 1) ∧ ∀ m ∈ n.kids, m.tok.text.size ≤ 4 * (s.size + 1) := by
  intro n hn
  have h := nodesA_mem _ n hn
  have hl := readL_len s
  have hs : ∀ t ∈ toksF (readL s), t.text.size ≤ 4 * (s.size + 1) := fun t ht => by
    have := toks_sz _ t ht
    omega
  exact ⟨hs _ h.1, fun m hm => hs _ (h.2 m hm)⟩
theorem nodes_at (s : ByteArray) : atN (nodesA (toksF (readL s)) 0) := by
  intro n hn hk
  have h := nodesA_mem _ n hn
  rw [atKB, decide_eq_true_eq] at hk
  exact toks_at _ _ h.1 hk
theorem normD_nn (z : Nat) : 0 ≤ (if (z : Int) = 13 ∨ (z : Int) = 12 then (10 : Int) else if (z : Int) = 0 then 65533 else (z : Int)) := by
  split
  · omega
  · split <;> omega
theorem rd_nn (s : ByteArray) : ∀ (f pos : Nat) (cr : Bool), ∀ x ∈ rd s f pos cr, 0 ≤ x
  | 0, _, _, _, h => by cases h
  | f + 1, pos, cr, x, h => by
    rw [rd] at h
    split at h
    · rw [List.mem_append] at h
      rcases h with h | h
      · split at h
        · cases h
        · rw [List.mem_singleton] at h
          rw [h]
          exact normD_nn _
      · exact rd_nn s f _ _ x h
    · cases h
theorem readL_nn' (s : ByteArray) : ∀ x ∈ readL s, 0 ≤ x := rd_nn s _ _ _
end Go.Proofs.YtiolnmfaeenlmaaGreatDoor
