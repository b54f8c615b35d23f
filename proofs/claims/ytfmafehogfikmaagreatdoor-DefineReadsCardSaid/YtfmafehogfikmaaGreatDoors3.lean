import Derived.Test.YtfmafehogfikmaaGreatDoorI9
import Derived.Test.YtfmafehogfikmaaGreatDoorr9
/- Bounds of tokens' texts and of nodes' tokens (plain): for RulesRead, DefineReads. -/
namespace Go.Proofs.YtfmafehogfikmaaGreatDoor
open Go Go.RowKit
set_option maxRecDepth 20000

theorem runes_sz (l : List Int) : (runesBytes l).size ≤ 4 * l.length := by
  have := foldl_size_le l ByteArray.empty
  rw [show (ByteArray.empty).size = 0 from rfl, Nat.zero_add] at this
  exact this
section
variable {α R : Type}
theorem goL_out {stepL : List Int → (List α × List Int) ⊕ R} (h : ∀ l o l', stepL l = .inl (o, l') → o.length ≤ 1) : ∀ (f : Nat) (l : List Int), (goL stepL f l).1.length ≤ f
  | 0, _ => Nat.le_refl _
  | f + 1, l => by
    rw [goL]
    cases e : stepL l with
    | inr r => exact Nat.zero_le _
    | inl p =>
      have h1 := h l p.1 p.2 e
      have h2 := goL_out h f p.2
      simp only [List.length_append]
      omega
theorem goL_rest {stepL : List Int → (List α × List Int) ⊕ R} (hl : Less stepL) (g : R → List Int) (h : ∀ l r, stepL l = .inr r → (g r).length ≤ l.length) : ∀ (f : Nat) (l : List Int) (r : R), (goL stepL f l).2 = some r → (g r).length ≤ l.length
  | 0, _, _, h0 => by cases h0
  | f + 1, l, r, h0 => by
    rw [goL] at h0
    cases e : stepL l with
    | inr r' =>
      rw [e] at h0
      cases h0
      exact h l r e
    | inl p =>
      rw [e] at h0
      have h1 := hl l p.1 p.2 e
      have h2 := goL_rest hl g h f p.2 r h0
      omega
theorem goLs_rest {stepL : List Int → (List Int × List Int) ⊕ List Int} (hl : Less stepL) (h : ∀ l r, stepL l = .inr r → r.length ≤ l.length) (l : List Int) : ((((yX stepL l).2).getD []) : List Int).length ≤ l.length := by
  cases e : (yX stepL l).2 with
  | none => exact Nat.zero_le _
  | some r => exact goL_rest hl id h _ _ _ e
end
theorem nameL_out (l : List Int) : (wZ l).1.length ≤ l.length + 1 := by
  refine goL_out ?_ _ _
  intro l o l' e
  rw [yH] at e
  split at e
  · cases e; exact Nat.le_refl _
  · split at e
    · cases e; exact Nat.le_refl _
    · cases e
theorem digL_rest (l : List Int) : (digL l).2.length ≤ l.length := by
  refine goLs_rest dig_less ?_ l
  intro l r e
  rw [qf] at e
  split at e
  · cases e
  · cases e; exact Nat.le_refl _
theorem wL_rest (l : List Int) : (wL l).length ≤ l.length := by
  refine goLs_rest w_less ?_ l
  intro l r e
  rw [wStepL] at e
  split at e
  · cases e
  · cases e; exact Nat.le_refl _
theorem nameL_rest (l : List Int) : (wZ l).2.length ≤ l.length := by
  refine goLs_rest name_less ?_ l
  intro l r e
  rw [yH] at e
  split at e
  · cases e
  · split at e
    · cases e
    · cases e; exact Nat.le_refl _
theorem cL_rest (l : List Int) : (cL l).length ≤ l.length := by
  have := fun h => goL_rest (g := id) c_less h (l.length + 1) l
  rw [cL]
  cases e : (yX cStepL l).2 with
  | none => simp only [Option.getD_none]; first | exact Nat.zero_le _ | exact Nat.le_refl _
  | some r =>
    refine this ?_ r e
    intro l r e
    rw [cStepL] at e
    split at e
    · cases e
    · cases e; exact Nat.le_refl _
theorem quo_out (q : Int) (l : List Int) : (yX (qr q) l).1.length ≤ l.length + 1 := by
  refine goL_out ?_ _ _
  intro l o l' e
  rw [qr] at e
  repeat' (first | cases e | split at e)
  all_goals (first | exact Nat.le_refl _ | exact Nat.zero_le _)
theorem url_out (l : List Int) : (yX qj l).1.length ≤ l.length + 1 := by
  refine goL_out ?_ _ _
  intro l o l' e
  rw [qj] at e
  repeat' (first | cases e | split at e)
  all_goals (first | exact Nat.le_refl _ | exact Nat.zero_le _)
theorem nPL_rest (l : List Int) : (nPL l).length ≤ l.length := by
  have h1 : (n1L l).length ≤ l.length := by
    rw [n1L]; split
    · rw [List.length_drop]; omega
    · exact Nat.le_refl _
  have h2 := digL_rest (n1L l)
  have h3 : ∀ l : List Int, (n3L l).length ≤ l.length := fun l => by
    rw [n3L]; split
    · have := digL_rest (l.drop 1)
      rw [List.length_drop] at this
      omega
    · exact Nat.le_refl _
  have h4 : ∀ l : List Int, (n4L l).length ≤ l.length := fun l => by
    rw [n4L]; split
    · have := digL_rest (l.drop (nKL l))
      rw [List.length_drop] at this
      omega
    · exact Nat.le_refl _
  rw [nPL, n2L]
  exact Nat.le_trans (h4 _) (Nat.le_trans (h3 _) (Nat.le_trans h2 h1))
theorem name_sz (l : List Int) (k : Nat) (h : l.length ≤ k) : (runesBytes (wZ l).1).size ≤ 4 * (k + 1) := by
  have h1 := nameL_out l
  have h2 := runes_sz (wZ l).1
  omega
theorem urlL_sz (l : List Int) (k : Nat) (h : l.length ≤ k) : (urlL l).1.text.size ≤ 4 * (k + 1) := by
  have h1 := url_out (wL l)
  have h2 := wL_rest l
  have h3 := runes_sz (yX qj (wL l)).1
  rw [urlL]
  dsimp only
  split
  · show (runesBytes (yX qj (wL l)).1).size ≤ _
    omega
  · exact Nat.zero_le _
theorem idtL_sz (l : List Int) (k : Nat) (h : l.length ≤ k) : (idtL l).1.text.size ≤ 4 * (k + 1) := by
  have h0 := nameL_rest l
  have hd : ((wZ l).2.drop 1).length ≤ k := by rw [List.length_drop]; omega
  rw [idtL]
  split
  · split
    · split
      · exact name_sz l k h
      · exact urlL_sz _ k hd
    · exact name_sz l k h
  · exact name_sz l k h
theorem numL_sz (l : List Int) (k : Nat) (h : l.length ≤ k) : (numL l).1.text.size ≤ 4 * (k + 1) := by
  have h0 := nPL_rest l
  rw [numL]
  split
  · exact name_sz _ k (by omega)
  · split
    · exact Nat.zero_le _
    · exact Nat.zero_le _
theorem quoL_sz (q : Int) (l : List Int) (k : Nat) (h : l.length ≤ k) : (quoL q l).1.text.size ≤ 4 * (k + 1) := by
  have h1 := quo_out q l
  have h3 := runes_sz (yX (qr q) l).1
  rw [quoL]
  dsimp only
  split
  · show (runesBytes (yX (qr q) l).1).size ≤ _
    omega
  · exact Nat.zero_le _
/-- A token's text has no more than four bytes for each sign (and four). -/
theorem tokL_sz (l : List Int) (k : Nat) (h : l.length ≤ k) : (tokL l).1.text.size ≤ 4 * (k + 1) := by
  have hd : (l.drop 1).length ≤ k := by rw [List.length_drop]; omega
  have h1 : (runesBytes [gt l 0]).size ≤ 4 * (k + 1) := by
    have := runes_sz [gt l 0]
    rw [List.length_singleton] at this
    omega
  rw [tokL]
  split
  · show (if plI (gt l 0) < 6 then runesBytes [gt l 0] else ⟨#[]⟩ : ByteArray).size ≤ _
    split
    · exact h1
    · exact Nat.zero_le _
  split
  · exact Nat.zero_le _
  split
  · exact quoL_sz _ _ k hd
  split
  · exact name_sz _ k hd
  split
  · exact numL_sz _ k h
  split
  · exact Nat.zero_le _
  split
  · exact Nat.zero_le _
  split
  · exact name_sz _ k hd
  split
  · exact idtL_sz _ k h
  · exact h1
theorem low_sz (s : ByteArray) : (vk s).size = s.size := by
  rw [vk, ByteArray.size]
  simp [lowL]
theorem toks_memf : ∀ (f : Nat) (l : List Int) (k : Nat), l.length ≤ k → ∀ t ∈ (goL qR f l).1, ∃ m : List Int, m.length ≤ k ∧ t = (tokL m).1
  | 0, _, _, _, _, h => by cases h
  | f + 1, l, k, hl, t, h => by
    rw [goL] at h
    cases e : qR l with
    | inr r => rw [e] at h; cases h
    | inl p =>
      have h1 := t_less l p.1 p.2 e
      rw [e] at h
      rw [List.mem_append] at h
      rcases h with h | h
      · rw [qR] at e
        split at e
        · cases e
        · cases e
          rw [List.mem_singleton] at h
          have := cL_rest l
          exact ⟨cL l, by omega, h⟩
      · exact toks_memf f p.2 k (by omega) t h
theorem toks_mem (L : List Int) : ∀ t ∈ wj L, ∃ m : List Int, m.length ≤ L.length ∧ t = (tokL m).1 := by
  rw [← toks_L]
  exact toks_memf _ _ _ (Nat.le_refl _)
theorem toks_sz (L : List Int) : ∀ t ∈ wj L, t.text.size ≤ 4 * (L.length + 1) := by
  intro t h
  obtain ⟨m, h1, rfl⟩ := toks_mem L t h
  exact tokL_sz m _ h1
theorem tkAt_mem {L : List Tk} {a : Nat} (h : a < L.length) : wq L a ∈ L := by
  rw [wq, List.getD_eq_getElem?_getD, List.getElem?_eq_getElem h]
  exact List.getElem_mem h
theorem refK_mem : ∀ (f : Nat) (L : List Tk) (a deep : Nat) (c : ByteArray) (acc : List Nd), (∀ m ∈ acc, m.tok ∈ L) → ∀ m ∈ (xO f L a deep c acc).1, m.tok ∈ L
  | 0, _, _, _, _, _, h => h
  | f + 1, L, a, deep, c, acc, h => by
    have hadd : ∀ n : Nd, n.tok ∈ L → ∀ m ∈ addN deep acc n, m.tok ∈ L := by
      intro n hn m hm
      rw [addN] at hm
      split at hm
      · rw [List.mem_append, List.mem_singleton] at hm
        rcases hm with hm | rfl
        · exact h m hm
        · exact hn
      · exact h m hm
    rw [xO]
    split
    · rename_i hl
      split
      · exact h
      · split
        · exact refK_mem f L _ _ _ _ (hadd _ (tkAt_mem hl))
        · exact refK_mem f L _ _ _ _ (hadd _ (tkAt_mem hl))
    · exact h
theorem nodeA_mem {L : List Tk} {a : Nat} (deep : Nat) (h : a < L.length) : (xo L a deep).1.tok ∈ L ∧ ∀ m ∈ (xo L a deep).1.kids, m.tok ∈ L := by
  rw [xo]
  split
  · exact ⟨tkAt_mem h, fun m hm => by cases hm⟩
  · exact ⟨tkAt_mem h, refK_mem _ L _ _ _ _ (fun m hm => by cases hm)⟩
theorem allR_mem : ∀ (f : Nat) (L : List Tk) (a : Nat), ∀ n ∈ ku f L a, n.tok ∈ L ∧ ∀ m ∈ n.kids, m.tok ∈ L
  | 0, _, _, _, h => by cases h
  | f + 1, L, a, n, h => by
    rw [ku] at h
    split at h
    · rename_i hl
      rw [List.mem_cons] at h
      rcases h with rfl | h
      · exact nodeA_mem 1 hl
      · exact allR_mem f L _ n h
    · cases h
theorem nodesA_mem (L : List Tk) : ∀ n ∈ wc L 0, n.tok ∈ L ∧ ∀ m ∈ n.kids, m.tok ∈ L := allR_mem _ _ _
theorem nodes_sz (s : ByteArray) : ∀ n ∈ wc (wj (wk s)) 0, n.tok.text.size ≤ 4 * (s.size + 1) ∧ ∀ m ∈ n.kids, m.tok.text.size ≤ 4 * (s.size + 1) := by
  intro n hn
  have h := nodesA_mem _ n hn
  have hl := yB s
  have hs : ∀ t ∈ wj (wk s), t.text.size ≤ 4 * (s.size + 1) := fun t ht => by
    have := toks_sz _ t ht
    omega
  exact ⟨hs _ h.1, fun m hm => hs _ (h.2 m hm)⟩
end Go.Proofs.YtfmafehogfikmaaGreatDoor

/- The reference's Sheet of any bytes (also where there are too many rules); walked. -/
namespace Go.Proofs.YtfmafehogfikmaaGreatDoor
open Go Go.RowKit
set_option maxRecDepth 20000

def shN (l : List Nd) : List Rl × Int := if 500 < (shtA l 0).length then ([], 3) else (shtA l 0, 0)
set_option maxHeartbeats 8000000 in
theorem sheetE_ok (b : List UInt8) (hb : b.length ≤ 65536) (ht : ∀ n ∈ wc (wj (wk ⟨b.toArray⟩)) 0, n.tok.text.size ≤ 1099511627776) (hk : ∀ n ∈ wc (wj (wk ⟨b.toArray⟩)) 0, ∀ m ∈ n.kids, m.tok.text.size ≤ 1099511627776) : uI Tryz.prog 17 [.sl 1 (b.map bD)] (.tup [.sl 4 ((shN (wc (wj (wk ⟨b.toArray⟩)) 0)).1.map rlD), .val (.int .i64 (shN (wc (wj (wk ⟨b.toArray⟩)) 0)).2)]) := by
  refine uP Tryz.func17 Tryz.ntmps17 rfl rfl rfl fun S w => ?_
  have hbm : (b.map bD).length = b.length := List.length_map _
  have hbig : ¬ (65536 : Int) < b.length := by omega
  repeat (first | refine ue ?_ | refine uc ?_ | refine ud ?_ | refine uf ?_ | (refine ug ?_; first | refine uG tab_ok rfl rfl rfl rfl rfl rfl rfl ?_ | refine uh tab_ok rfl rfl rfl rfl byE rfl ?_))
  refine uo rfl (fun h => absurd h hbig) (fun _ => ?_)
  repeat (first | refine ue ?_ | refine ud ?_ | refine uj ?_ | (refine ug ?_; first | refine uh tab_ok rfl rfl rfl rfl byE rfl ?_))
  refine uw (refRead b (by omega)) call27 rfl rfl ⟨Sub.refl _, trivial⟩ rfl rfl rfl rfl ?_
  have hl1 := yB ⟨b.toArray⟩
  have hbs : (⟨b.toArray⟩ : ByteArray).size = b.length := List.size_toArray
  refine uw (tokens_ok (wk ⟨b.toArray⟩) (by omega)) call26 rfl rfl ⟨Sub.refl _, trivial⟩ rfl rfl rfl rfl ?_
  have hl2 : (wj (wk ⟨b.toArray⟩)).length ≤ 65536 := by
    obtain ⟨r, j, h1, h2, h3, h4, h5⟩ := wy (xK (wk ⟨b.toArray⟩)) (wk ⟨b.toArray⟩).length 0 (Nat.zero_le _) (by omega)
    rw [wj]
    omega
  refine uw (nodes_ok (wj (wk ⟨b.toArray⟩)) (by omega)) call25 rfl rfl ⟨Sub.refl _, trivial⟩ rfl rfl rfl rfl ?_
  have hl3 := nodesA_sz (wj (wk ⟨b.toArray⟩))
  generalize wc (wj (wk ⟨b.toArray⟩)) 0 = l at ht hk hl3 ⊢
  have hll := u7 l
  have hlm : (l.map nF).length = l.length := List.length_map _
  repeat (first | refine ue ?_ | refine uc ?_ | refine um ?_ | refine ud ?_ | refine uf ?_ | (refine ug ?_; first | refine uh tab_ok rfl rfl rfl rfl byE rfl ?_))
  refine uV (σ := ShS l) (fun x => [.row 0 37 4 (x.out.map rlD)]) (fun x => [(4, .sl 7 (l.map nF)), (5, .row 0 0), (6, .val (.int .i64 x.i))]) (fun x => l.length + 1 - x.i) ⟨0, [], Nat.zero_le _, Nat.zero_le _, rfl⟩ (uy byV byV) ?_
  rintro ⟨i, out, hol, hi, heq⟩
  dsimp only
  have hom : (out.map rlD).length = out.length := List.length_map _
  repeat (first | refine ue ?_ | refine uc ?_ | refine ud ?_ | refine uf ?_ | (refine ug ?_; first | refine uG tab_ok rfl rfl rfl rfl rfl rfl rfl ?_ | refine uh tab_ok rfl rfl rfl rfl byE rfl ?_))
  refine uo rfl (fun hlt => ?_) (fun hge => ?_)
  rotate_left
  · rw [shtA_end (by omega), List.append_nil] at heq
    rw [heq] at hom ⊢
    repeat (first | refine ue ?_ | refine uc ?_ | refine ud ?_ | refine uC ?_ | refine uf ?_ | (refine ug ?_; first | refine uh tab_ok rfl rfl rfl rfl byE rfl ?_ | refine uJ tab_ok rfl rfl rfl rfl rfl ?_))
    refine uo rfl (fun h5 => ?_) (fun h5 => ?_)
    · rw [shN, if_pos (by omega)]
      repeat (first | refine ue ?_ | refine uc ?_ | refine ud ?_ | refine uk ?_ | refine un ?_ | refine uf ?_ | (refine ug ?_; first | refine uh tab_ok rfl rfl rfl rfl byE rfl ?_) | refine ww byO rfl rfl rfl rfl ?_ ?_)
      all_goals first | exact Sub.nil _ | exact Sub.refl _
    rw [shN, if_neg (by omega)]
    repeat (first | refine ue ?_ | refine uc ?_ | refine ud ?_ | refine uj ?_ | refine uf ?_ | (refine ug ?_; first | refine uh tab_ok rfl rfl rfl rfl byE rfl ?_))
    refine ve (s' := ⟨[.gone], [(2, .sl 4 ((shtA l 0).map rlD)), (3, .val (.int .i64 0))]⟩) (uy byV ⟨yL rfl rfl rfl, vb rfl (Sub.refl _) rfl, trivial⟩) ?_
    repeat (first | refine uk ?_ | refine ww byO rfl rfl rfl rfl ?_ ?_)
    all_goals exact Sub.refl _
  have hi' : i < l.length := by omega
  have hgi := wa hi'
  rw [shtA_step hi'] at heq
  obtain ⟨n, hn⟩ : ∃ n, vY l i = n := ⟨_, rfl⟩
  have hnt := ht n (by rw [← hn, ← hgi]; exact List.getElem_mem hi')
  simp only [hn] at heq hgi
  repeat (first | refine ue ?_ | refine uc ?_ | refine um ?_ | refine ud ?_ | refine uj ?_ | refine uf ?_ | (refine ug ?_; first | refine uh tab_ok rfl rfl rfl rfl byE rfl ?_ | refine uJ tab_ok rfl rfl rfl rfl rfl ?_ | refine vf tab_ok rfl rfl rfl rfl rfl rfl rfl (by first | exact ⟨by omega, by omega⟩ | (simp; omega)) rfl rfl ?_ | refine vp tab_ok rfl rfl rfl rfl rfl ?_ | refine uM tab_ok rfl rfl rfl rfl ?_ | refine ux tab_ok rfl rfl rfl rfl rfl rfl byC (by first | exact fun _ => trivial | (intro h; simp at h; omega)) rfl ?_ | refine vd tab_ok rfl rfl rfl rfl rfl rfl byC rfl ?_ | refine vI rfl rfl rfl rfl rfl rfl rfl rfl ?_))
  simp only [Int.toNat_natCast, hgi]
  refine uA rfl (fun hc => ?_) (fun hc => ?_)
  · rw [if_pos (show skB n = true from hc)] at heq
    repeat (first | refine ue ?_ | refine uc ?_ | refine ud ?_ | refine uC ?_ | refine vg ?_ | refine vi rfl ?_ | refine uf ?_ | (refine ug ?_; first | refine uh tab_ok rfl rfl rfl rfl byE rfl ?_))
    exact ⟨⟨i + 1, out, by omega, by omega, heq⟩, by dsimp only; omega, u2 1 rfl rfl byK⟩
  rw [if_neg (by rw [show skB n = false from hc]; exact Bool.false_ne_true)] at heq
  cases ha : atKB n with
  | true =>
    have hfr : frI l i = i + 1 := by rw [frI, hn, ha]; rfl
    obtain ⟨kE, hkE⟩ : ∃ kE, kE = wr (goB true) l (i + 1) := ⟨_, rfl⟩
    have hen : enI l i = kE := by rw [enI, hfr, hn, ha, hkE]
    have hfl : i + 1 ≤ l.length := by omega
    have hkge : i + 1 ≤ kE := by rw [hkE]; exact yP _ _ _
    have hkle : kE ≤ l.length := by rw [hkE]; exact ql hfl
    rw [hen] at heq
    have hat3 : n.tok.kind = 3 := by simpa [atKB] using ha
    repeat (first | refine ue ?_ | refine uc ?_ | refine ud ?_ | refine uj ?_ | refine uf ?_ | (refine ug ?_; first | refine uh tab_ok rfl rfl rfl rfl byE rfl ?_ | refine uJ tab_ok rfl rfl rfl rfl rfl ?_ | refine vp tab_ok rfl rfl rfl rfl rfl ?_))
    refine uo rfl (fun _ => ?_) (fun h => absurd hat3 h)
    repeat (first | refine ue ?_ | refine ud ?_ | (refine ug ?_; first | refine uh tab_ok rfl rfl rfl rfl byE rfl ?_ | refine uJ tab_ok rfl rfl rfl rfl rfl ?_))
    refine uw (wI n.tok.text (by omega)) yq rfl rfl ⟨Sub.refl _, trivial⟩ rfl rfl rfl rfl ?_
    repeat (first | refine ue ?_ | refine uc ?_ | refine um ?_ | refine ud ?_ | refine uf ?_ | (refine ug ?_; first | refine uh tab_ok rfl rfl rfl rfl byE rfl ?_ | refine uM tab_ok rfl rfl rfl rfl ?_))
    refine uV (σ := {k : Nat // i + 1 ≤ k ∧ k ≤ kE}) (fun _ => [.row 0 37 4 (out.map rlD), .box 48 [.val (.int .i64 n.tok.kind), .val (.string n.tok.text), .val (.int .i64 n.tok.int), .val (.bool n.tok.whole), .val (.bool n.tok.sign), .val (.bool n.tok.id)], .box 37 [.val (.string (vk n.tok.text)), .val (.slice none 0 0), .val (.bool false), .val (.slice none 0 0)]]) (fun x => [(4, .sl 7 (l.map nF)), (5, .row 0 0), (8, .val (.bool true)), (9, .ptr 2 0), (10, .val (.int .i64 (x.1 : Nat))), (11, .val (.int .i64 (i + 1 : Nat)))]) (fun x => l.length - x.1) ⟨i + 1, Nat.le_refl _, hkge⟩ (uy byV ⟨vb rfl (Sub.refl _) rfl, xl rfl rfl rfl, vb rfl (Sub.of_eq (congrArg (fun b => AV.val (.bool b)) (decide_eq_true hat3))) rfl, wS rfl rfl rfl rfl, vb rfl (Sub.refl _) rfl, vb rfl (Sub.refl _) rfl, trivial⟩) ?_
    rintro ⟨k, hik, hk0⟩
    dsimp only
    have hk1 : k ≤ wr (goB true) l (i + 1) := by rw [← hkE]; exact hk0
    rcases Nat.lt_or_ge k l.length with hkl | hkl
    · have hgk := wa hkl
      have hmore := yA (p := goB true) hik hk1 hkl
      have hstop := fun h => zp (p := goB true) hik hk1 (fun _ => h)
      rw [← hkE] at hmore hstop
      obtain ⟨m, hm⟩ : ∃ m, vY l k = m := ⟨_, rfl⟩
      have hmt := hk m (by rw [← hm, ← hgk]; exact List.getElem_mem hkl)
      simp only [hm] at hgk hmore hstop
      repeat (first | refine ue ?_ | refine ud ?_ | (refine ug ?_; first | refine uG tab_ok rfl rfl rfl rfl rfl rfl rfl ?_ | refine uh tab_ok rfl rfl rfl rfl byE rfl ?_ | refine ux tab_ok rfl rfl rfl rfl rfl rfl byC (by first | exact fun _ => trivial | (intro h; simp at h; omega)) rfl ?_ | refine vo tab_ok rfl rfl rfl rfl rfl rfl rfl byC rfl rfl (by exact ⟨by omega, by omega⟩) rfl rfl ?_))
      simp only [Int.toNat_natCast, hgk]
      try simp only [Int.toNat_natCast, hgk]
      refine vt (fun _ => xv m) qD rfl rfl rfl rfl byC ⟨Sub.refl _, trivial⟩ rfl rfl rfl rfl ?_
      repeat (first | refine uc ?_ | refine uf ?_ | (refine ug ?_; first | refine uh tab_ok rfl rfl rfl rfl byE rfl ?_ | refine ux tab_ok rfl rfl rfl rfl rfl rfl byC (by first | exact fun _ => trivial | (intro h; simp at h; omega)) rfl ?_ | refine vo tab_ok rfl rfl rfl rfl rfl rfl rfl byC rfl rfl (by exact ⟨by omega, by omega⟩) rfl rfl ?_ | refine wJ rfl rfl rfl rfl rfl rfl rfl rfl rfl rfl ?_ | refine vm rfl rfl rfl rfl rfl rfl rfl rfl ?_))
      try simp only [Int.toNat_natCast, hgk]
      have hd : decide ((k : Int) < l.length) = true := decide_eq_true (by omega)
      refine uA rfl (fun hc => ?_) (fun hc => ?_)
      · rw [hd, Bool.true_and] at hc
        have hlt2 := hmore hc
        repeat (first | refine uc ?_ | refine um ?_ | refine ud ?_ | refine ut ?_ | refine uj ?_ | refine uf ?_ | (refine ug ?_; first | refine uh tab_ok rfl rfl rfl rfl byE rfl ?_))
        exact ⟨⟨k + 1, by omega, hlt2⟩, by dsimp only; omega, u5 rfl byK⟩
      · rw [hd, Bool.true_and] at hc
        have he := hstop hc
        clear hmore hstop hc
        subst he
        repeat (first | refine ue ?_ | refine ud ?_ | refine uC ?_ | (refine ug ?_; first | refine uh tab_ok rfl rfl rfl rfl byE rfl ?_))
        refine xj tab_ok rfl rfl rfl rfl rfl rfl rfl rfl (by show (0 : Int) ≤ (((i + 1) : Nat) : Int) ∧ (((i + 1) : Nat) : Int) ≤ ((k : Nat) : Int) ∧ ((k : Nat) : Int) ≤ (l.length : Int); omega) rfl ?_
        refine uw (show uI Tryz.prog 32 [.sl 7 (((l.take ((k : Nat) : Int).toNat).drop ((((i + 1) : Nat) : Int)).toNat).map nF)] (.sl 7 ((uW ((l.take k).drop (i + 1))).map nF)) by
            simp only [Int.toNat_natCast]
            exact xb ((l.take k).drop (i + 1)) (by simp only [List.length_drop, List.length_take]; omega)) zd rfl rfl ⟨Sub.refl _, trivial⟩ rfl rfl rfl rfl ?_
        repeat (first | refine ue ?_ | refine ud ?_ | refine uf ?_ | (refine ug ?_; first | refine uG tab_ok rfl rfl rfl rfl rfl rfl rfl ?_ | refine uh tab_ok rfl rfl rfl rfl byE rfl ?_ | refine uM tab_ok rfl rfl rfl rfl ?_ | refine ux tab_ok rfl rfl rfl rfl rfl rfl byC (by first | exact fun _ => trivial | (intro h; simp at h; omega)) rfl ?_ | refine vo tab_ok rfl rfl rfl rfl rfl rfl rfl byC rfl rfl (by exact ⟨by omega, by omega⟩) rfl rfl ?_))
        simp only [Int.toNat_natCast, hgk]
        try simp only [Int.toNat_natCast, hgk]
        refine vt (fun _ => xv m) qD rfl rfl rfl rfl byC ⟨Sub.refl _, trivial⟩ rfl rfl rfl rfl ?_
        rw [hd]
        cases hb : kq m with
        | true =>
          have hkl2 := zL hkl
          rw [hgk] at hkl2
          have hkl3 := u7 m.kids
          repeat (first | refine ue ?_ | refine uc ?_ | refine ud ?_ | refine uf ?_ | (refine ug ?_; first | refine uh tab_ok rfl rfl rfl rfl byE rfl ?_ | refine vf tab_ok rfl rfl rfl rfl rfl rfl rfl (by first | exact ⟨by omega, by omega⟩ | (simp; omega)) rfl rfl ?_ | refine uM tab_ok rfl rfl rfl rfl ?_ | refine vm rfl rfl rfl rfl rfl rfl rfl rfl ?_) | refine uq rfl ?_)
          try simp only [Int.toNat_natCast, hgk]
          refine uw (show uI Tryz.prog 36 [.sl 7 (m.kids.map nD)] (.sl 3 ((wY m.kids 0).map dcD)) by rw [nD_fun]; exact kH m.kids (by omega) hmt) call36 rfl rfl ⟨Sub.refl _, trivial⟩ rfl rfl rfl rfl ?_
          have hbl : blI l k = true := by rw [blI, hm, hb, decide_eq_true hkl]; rfl
          have hrl : y6 l i = ⟨(vk n.tok.text), uW ((l.take k).drop (i + 1)), true, wY m.kids 0⟩ := by rw [y6, hen, hfr, hn, ha, hbl, hm]; rfl
          have hem : emI l i = [y6 l i] := by rw [emI, hn, ha, hen, hbl]; rfl
          rw [hem, hrl] at heq
          repeat (first | refine ue ?_ | refine uc ?_ | refine ud ?_ | refine ut ?_ | refine uf ?_ | (refine ug ?_; first | refine uh tab_ok rfl rfl rfl rfl byE rfl ?_ | refine uJ tab_ok rfl rfl rfl rfl rfl ?_ | refine uM tab_ok rfl rfl rfl rfl ?_ | refine ux tab_ok rfl rfl rfl rfl rfl rfl byC (by first | exact fun _ => trivial | (intro h; simp at h; omega)) rfl ?_ | refine vd tab_ok rfl rfl rfl rfl rfl rfl byC rfl ?_ | refine vI rfl rfl rfl rfl rfl rfl rfl rfl ?_ | refine u9 tab_ok rfl rfl rfl rfl rfl rfl rfl rfl rfl ?_ | refine u6 tab_ok rfl rfl rfl rfl rfl rfl rfl rfl rfl (by first | omega | (simp; omega)) rfl ?_) | refine uq rfl ?_)
          refine ⟨⟨k + 1, out ++ [⟨(vk n.tok.text), uW ((l.take k).drop (i + 1)), true, wY m.kids 0⟩], by simp; omega, by omega, by rw [List.append_assoc]; exact heq⟩, by dsimp only; omega, ?_⟩
          dsimp only
          rw [show (out ++ [(⟨(vk n.tok.text), uW ((l.take k).drop (i + 1)), true, wY m.kids 0⟩ : Rl)]).map rlD = out.map rlD ++ [rlD ⟨(vk n.tok.text), uW ((l.take k).drop (i + 1)), true, wY m.kids 0⟩] from List.map_append]
          exact vN (s' := ⟨[.row 0 37 4 (out.map rlD ++ [rlD ⟨(vk n.tok.text), uW ((l.take k).drop (i + 1)), true, wY m.kids 0⟩]), .gone, .gone], [(4, .sl 7 (l.map nF)), (5, .row 0 0), (6, .val (.int .i64 (k + 1 : Nat)))]⟩) (uy byV ⟨vb rfl (Sub.refl _) rfl, xl rfl rfl rfl, vb rfl (Sub.refl _) rfl, trivial⟩) (u2 1 rfl rfl byK)
        | false =>
          have hbl : blI l k = false := by rw [blI, hm, hb, decide_eq_true hkl]; rfl
          have hrl : y6 l i = ⟨(vk n.tok.text), uW ((l.take k).drop (i + 1)), false, []⟩ := by rw [y6, hen, hfr, hn, ha, hbl]; rfl
          have hem : emI l i = [y6 l i] := by rw [emI, hn, ha, hen, hbl]; rfl
          rw [hem, hrl] at heq
          repeat (first | refine ue ?_ | refine uc ?_ | refine uj ?_ | refine uf ?_ | (refine ug ?_; first | refine vm rfl rfl rfl rfl rfl rfl rfl rfl ?_) | refine ur rfl ?_)
          refine ve (s' := ⟨[.row 0 37 4 (out.map rlD), .box 48 [.val (.int .i64 n.tok.kind), .val (.string n.tok.text), .val (.int .i64 n.tok.int), .val (.bool n.tok.whole), .val (.bool n.tok.sign), .val (.bool n.tok.id)], .box 37 [.val (.string (vk n.tok.text)), .sl 7 ((uW ((l.take k).drop (i + 1))).map nF), .val (.bool false), .sl 3 []]], [(4, .sl 7 (l.map nF)), (5, .row 0 0), (8, .val (.bool true)), (9, .ptr 2 0), (10, .val (.int .i64 (k : Nat)))]⟩) (uy byV ⟨vb rfl (Sub.refl _) rfl, xl rfl rfl rfl, vb rfl (Sub.refl _) rfl, wS rfl rfl rfl rfl, vb rfl (Sub.refl _) rfl, trivial⟩) ?_
          repeat (first | refine uc ?_ | refine ud ?_ | refine ut ?_ | refine uf ?_ | (refine ug ?_; first | refine uh tab_ok rfl rfl rfl rfl byE rfl ?_ | refine uJ tab_ok rfl rfl rfl rfl rfl ?_ | refine ux tab_ok rfl rfl rfl rfl rfl rfl byC (by first | exact fun _ => trivial | (intro h; simp at h; omega)) rfl ?_ | refine vd tab_ok rfl rfl rfl rfl rfl rfl byC rfl ?_ | refine vI rfl rfl rfl rfl rfl rfl rfl rfl ?_ | refine u9 tab_ok rfl rfl rfl rfl rfl rfl rfl rfl rfl ?_ | refine u6 tab_ok rfl rfl rfl rfl rfl rfl rfl rfl rfl (by first | omega | (simp; omega)) rfl ?_) | refine uq rfl ?_)
          refine ⟨⟨k + 1, out ++ [⟨(vk n.tok.text), uW ((l.take k).drop (i + 1)), false, []⟩], by simp; omega, by omega, by rw [List.append_assoc]; exact heq⟩, by dsimp only; omega, ?_⟩
          dsimp only
          rw [show (out ++ [(⟨(vk n.tok.text), uW ((l.take k).drop (i + 1)), false, []⟩ : Rl)]).map rlD = out.map rlD ++ [rlD ⟨(vk n.tok.text), uW ((l.take k).drop (i + 1)), false, []⟩] from List.map_append]
          exact vN (s' := ⟨[.row 0 37 4 (out.map rlD ++ [rlD ⟨(vk n.tok.text), uW ((l.take k).drop (i + 1)), false, []⟩]), .gone, .gone], [(4, .sl 7 (l.map nF)), (5, .row 0 0), (6, .val (.int .i64 (k + 1 : Nat)))]⟩) (uy byV ⟨vb rfl (Sub.refl _) rfl, xl rfl rfl rfl, vb rfl (Sub.refl _) rfl, trivial⟩) (u2 1 rfl rfl byK)
    · have he : k = kE := by omega
      subst he
      repeat (first | refine ue ?_ | refine ud ?_ | (refine ug ?_; first | refine uG tab_ok rfl rfl rfl rfl rfl rfl rfl ?_ | refine uh tab_ok rfl rfl rfl rfl byE rfl ?_ | refine va rfl rfl rfl rfl rfl rfl ?_) | refine uD rfl rfl (congrArg (fun b => AV.val (.bool b)) (decide_eq_false (by omega))) rfl rfl rfl rfl ?_ | refine va rfl rfl (congrArg (fun b => AV.val (.bool b)) (decide_eq_false (by omega))) rfl rfl rfl ?_)
      repeat refine y8 rfl rfl rfl rfl rfl rfl ?_
      repeat (first | refine ue ?_ | refine uc ?_ | refine ud ?_ | refine uC ?_ | refine uf ?_ | (refine ug ?_; first | refine uh tab_ok rfl rfl rfl rfl byE rfl ?_ | refine uD rfl rfl rfl rfl rfl rfl rfl ?_ | refine va rfl rfl rfl rfl rfl rfl ?_) | refine ur rfl ?_)
      refine xj tab_ok rfl rfl rfl rfl rfl rfl rfl rfl (by show (0 : Int) ≤ (((i + 1) : Nat) : Int) ∧ (((i + 1) : Nat) : Int) ≤ ((k : Nat) : Int) ∧ ((k : Nat) : Int) ≤ (l.length : Int); omega) rfl ?_
      refine uw (show uI Tryz.prog 32 [.sl 7 (((l.take ((k : Nat) : Int).toNat).drop ((((i + 1) : Nat) : Int)).toNat).map nF)] (.sl 7 ((uW ((l.take k).drop (i + 1))).map nF)) by
          simp only [Int.toNat_natCast]
          exact xb ((l.take k).drop (i + 1)) (by simp only [List.length_drop, List.length_take]; omega)) zd rfl rfl ⟨Sub.refl _, trivial⟩ rfl rfl rfl rfl ?_
      repeat (first | refine ue ?_ | refine uf ?_ | (refine ug ?_; first | refine uh tab_ok rfl rfl rfl rfl byE rfl ?_ | refine uM tab_ok rfl rfl rfl rfl ?_))
      refine ud ?_
      repeat (first | refine ue ?_ | refine uc ?_ | refine uj ?_ | refine uf ?_ | (refine ug ?_; first | refine uG tab_ok rfl rfl rfl rfl rfl rfl rfl ?_ | refine uh tab_ok rfl rfl rfl rfl byE rfl ?_) | refine ur rfl ?_ | refine uD rfl rfl (congrArg (fun b => AV.val (.bool b)) (decide_eq_false (by omega))) rfl rfl rfl rfl ?_ | refine va rfl rfl (congrArg (fun b => AV.val (.bool b)) (decide_eq_false (by omega))) rfl rfl rfl ?_)
      have hbl : blI l k = false := by rw [blI, decide_eq_false (by omega)]; rfl
      have hrl : y6 l i = ⟨(vk n.tok.text), uW ((l.take k).drop (i + 1)), false, []⟩ := by rw [y6, hen, hfr, hn, ha, hbl]; rfl
      have hem : emI l i = [y6 l i] := by rw [emI, hn, ha, hen, hbl]; rfl
      rw [hem, hrl] at heq
      refine ve (s' := ⟨[.row 0 37 4 (out.map rlD), .box 48 [.val (.int .i64 n.tok.kind), .val (.string n.tok.text), .val (.int .i64 n.tok.int), .val (.bool n.tok.whole), .val (.bool n.tok.sign), .val (.bool n.tok.id)], .box 37 [.val (.string (vk n.tok.text)), .sl 7 ((uW ((l.take k).drop (i + 1))).map nF), .val (.bool false), .sl 3 []]], [(4, .sl 7 (l.map nF)), (5, .row 0 0), (8, .val (.bool true)), (9, .ptr 2 0), (10, .val (.int .i64 (k : Nat)))]⟩) (uy byV ⟨vb rfl (Sub.refl _) rfl, xl rfl rfl rfl, vb rfl (Sub.refl _) rfl, wS rfl rfl rfl rfl, vb rfl (Sub.refl _) rfl, trivial⟩) ?_
      repeat (first | refine uc ?_ | refine ud ?_ | refine ut ?_ | refine uf ?_ | (refine ug ?_; first | refine uh tab_ok rfl rfl rfl rfl byE rfl ?_ | refine uJ tab_ok rfl rfl rfl rfl rfl ?_ | refine ux tab_ok rfl rfl rfl rfl rfl rfl byC (by first | exact fun _ => trivial | (intro h; simp at h; omega)) rfl ?_ | refine vd tab_ok rfl rfl rfl rfl rfl rfl byC rfl ?_ | refine vI rfl rfl rfl rfl rfl rfl rfl rfl ?_ | refine u9 tab_ok rfl rfl rfl rfl rfl rfl rfl rfl rfl ?_ | refine u6 tab_ok rfl rfl rfl rfl rfl rfl rfl rfl rfl (by first | omega | (simp; omega)) rfl ?_) | refine uq rfl ?_)
      refine ⟨⟨k + 1, out ++ [⟨(vk n.tok.text), uW ((l.take k).drop (i + 1)), false, []⟩], by simp; omega, by omega, by rw [List.append_assoc]; exact heq⟩, by dsimp only; omega, ?_⟩
      dsimp only
      rw [show (out ++ [(⟨(vk n.tok.text), uW ((l.take k).drop (i + 1)), false, []⟩ : Rl)]).map rlD = out.map rlD ++ [rlD ⟨(vk n.tok.text), uW ((l.take k).drop (i + 1)), false, []⟩] from List.map_append]
      exact vN (s' := ⟨[.row 0 37 4 (out.map rlD ++ [rlD ⟨(vk n.tok.text), uW ((l.take k).drop (i + 1)), false, []⟩]), .gone, .gone], [(4, .sl 7 (l.map nF)), (5, .row 0 0), (6, .val (.int .i64 (k + 1 : Nat)))]⟩) (uy byV ⟨vb rfl (Sub.refl _) rfl, xl rfl rfl rfl, vb rfl (Sub.refl _) rfl, trivial⟩) (u2 1 rfl rfl byK)
  | false =>
    have hfr : frI l i = i := by rw [frI, hn, ha]; rfl
    obtain ⟨kE, hkE⟩ : ∃ kE, kE = wr (goB false) l (i) := ⟨_, rfl⟩
    have hen : enI l i = kE := by rw [enI, hfr, hn, ha, hkE]
    have hfl : i ≤ l.length := by omega
    have hkge : i ≤ kE := by rw [hkE]; exact yP _ _ _
    have hkle : kE ≤ l.length := by rw [hkE]; exact ql hfl
    rw [hen] at heq
    have hat3 : ¬ n.tok.kind = 3 := by simpa [atKB] using ha
    repeat (first | refine ue ?_ | refine uc ?_ | refine ud ?_ | refine uj ?_ | refine uf ?_ | (refine ug ?_; first | refine uh tab_ok rfl rfl rfl rfl byE rfl ?_ | refine uJ tab_ok rfl rfl rfl rfl rfl ?_ | refine vp tab_ok rfl rfl rfl rfl rfl ?_))
    refine uo rfl (fun h => absurd h hat3) (fun _ => ?_)
    repeat (first | refine ue ?_ | refine um ?_ | refine ud ?_ | refine uj ?_ | refine uf ?_ | (refine ug ?_; first | refine uh tab_ok rfl rfl rfl rfl byE rfl ?_))
    refine uV (σ := {k : Nat // i ≤ k ∧ k ≤ kE}) (fun _ => [.row 0 37 4 (out.map rlD), .box 48 [.val (.int .i64 n.tok.kind), .val (.string n.tok.text), .val (.int .i64 n.tok.int), .val (.bool n.tok.whole), .val (.bool n.tok.sign), .val (.bool n.tok.id)], .box 37 [.val (.string ⟨#[]⟩), .val (.slice none 0 0), .val (.bool false), .val (.slice none 0 0)]]) (fun x => [(4, .sl 7 (l.map nF)), (5, .row 0 0), (8, .val (.bool false)), (9, .ptr 2 0), (10, .val (.int .i64 (x.1 : Nat))), (11, .val (.int .i64 (i : Nat)))]) (fun x => l.length - x.1) ⟨i, Nat.le_refl _, hkge⟩ (uy byV ⟨vb rfl (Sub.refl _) rfl, xl rfl rfl rfl, vb rfl (Sub.of_eq (congrArg (fun b => AV.val (.bool b)) (decide_eq_false hat3))) rfl, wS rfl rfl rfl rfl, vb rfl (Sub.refl _) rfl, vb rfl (Sub.refl _) rfl, trivial⟩) ?_
    rintro ⟨k, hik, hk0⟩
    dsimp only
    have hk1 : k ≤ wr (goB false) l (i) := by rw [← hkE]; exact hk0
    rcases Nat.lt_or_ge k l.length with hkl | hkl
    · have hgk := wa hkl
      have hmore := yA (p := goB false) hik hk1 hkl
      have hstop := fun h => zp (p := goB false) hik hk1 (fun _ => h)
      rw [← hkE] at hmore hstop
      obtain ⟨m, hm⟩ : ∃ m, vY l k = m := ⟨_, rfl⟩
      have hmt := hk m (by rw [← hm, ← hgk]; exact List.getElem_mem hkl)
      simp only [hm] at hgk hmore hstop
      repeat (first | refine ue ?_ | refine ud ?_ | (refine ug ?_; first | refine uG tab_ok rfl rfl rfl rfl rfl rfl rfl ?_ | refine uh tab_ok rfl rfl rfl rfl byE rfl ?_ | refine ux tab_ok rfl rfl rfl rfl rfl rfl byC (by first | exact fun _ => trivial | (intro h; simp at h; omega)) rfl ?_ | refine vo tab_ok rfl rfl rfl rfl rfl rfl rfl byC rfl rfl (by exact ⟨by omega, by omega⟩) rfl rfl ?_))
      simp only [Int.toNat_natCast, hgk]
      try simp only [Int.toNat_natCast, hgk]
      refine vt (fun _ => xv m) qD rfl rfl rfl rfl byC ⟨Sub.refl _, trivial⟩ rfl rfl rfl rfl ?_
      repeat (first | refine uc ?_ | refine uf ?_ | (refine ug ?_; first | refine uh tab_ok rfl rfl rfl rfl byE rfl ?_ | refine ux tab_ok rfl rfl rfl rfl rfl rfl byC (by first | exact fun _ => trivial | (intro h; simp at h; omega)) rfl ?_ | refine vo tab_ok rfl rfl rfl rfl rfl rfl rfl byC rfl rfl (by exact ⟨by omega, by omega⟩) rfl rfl ?_ | refine wJ rfl rfl rfl rfl rfl rfl rfl rfl rfl rfl ?_ | refine vm rfl rfl rfl rfl rfl rfl rfl rfl ?_))
      try simp only [Int.toNat_natCast, hgk]
      have hd : decide ((k : Int) < l.length) = true := decide_eq_true (by omega)
      refine uA rfl (fun hc => ?_) (fun hc => ?_)
      · rw [hd, Bool.true_and] at hc
        have hlt2 := hmore hc
        repeat (first | refine uc ?_ | refine um ?_ | refine ud ?_ | refine ut ?_ | refine uj ?_ | refine uf ?_ | (refine ug ?_; first | refine uh tab_ok rfl rfl rfl rfl byE rfl ?_))
        exact ⟨⟨k + 1, by omega, hlt2⟩, by dsimp only; omega, u5 rfl byK⟩
      · rw [hd, Bool.true_and] at hc
        have he := hstop hc
        clear hmore hstop hc
        subst he
        repeat (first | refine ue ?_ | refine ud ?_ | refine uC ?_ | (refine ug ?_; first | refine uh tab_ok rfl rfl rfl rfl byE rfl ?_))
        refine xj tab_ok rfl rfl rfl rfl rfl rfl rfl rfl (by show (0 : Int) ≤ ((i : Nat) : Int) ∧ ((i : Nat) : Int) ≤ ((k : Nat) : Int) ∧ ((k : Nat) : Int) ≤ (l.length : Int); omega) rfl ?_
        refine uw (show uI Tryz.prog 32 [.sl 7 (((l.take ((k : Nat) : Int).toNat).drop (((i : Nat) : Int)).toNat).map nF)] (.sl 7 ((uW ((l.take k).drop i)).map nF)) by
            simp only [Int.toNat_natCast]
            exact xb ((l.take k).drop i) (by simp only [List.length_drop, List.length_take]; omega)) zd rfl rfl ⟨Sub.refl _, trivial⟩ rfl rfl rfl rfl ?_
        repeat (first | refine ue ?_ | refine ud ?_ | refine uf ?_ | (refine ug ?_; first | refine uG tab_ok rfl rfl rfl rfl rfl rfl rfl ?_ | refine uh tab_ok rfl rfl rfl rfl byE rfl ?_ | refine uM tab_ok rfl rfl rfl rfl ?_ | refine ux tab_ok rfl rfl rfl rfl rfl rfl byC (by first | exact fun _ => trivial | (intro h; simp at h; omega)) rfl ?_ | refine vo tab_ok rfl rfl rfl rfl rfl rfl rfl byC rfl rfl (by exact ⟨by omega, by omega⟩) rfl rfl ?_))
        simp only [Int.toNat_natCast, hgk]
        try simp only [Int.toNat_natCast, hgk]
        refine vt (fun _ => xv m) qD rfl rfl rfl rfl byC ⟨Sub.refl _, trivial⟩ rfl rfl rfl rfl ?_
        rw [hd]
        cases hb : kq m with
        | true =>
          have hkl2 := zL hkl
          rw [hgk] at hkl2
          have hkl3 := u7 m.kids
          repeat (first | refine ue ?_ | refine uc ?_ | refine ud ?_ | refine uf ?_ | (refine ug ?_; first | refine uh tab_ok rfl rfl rfl rfl byE rfl ?_ | refine vf tab_ok rfl rfl rfl rfl rfl rfl rfl (by first | exact ⟨by omega, by omega⟩ | (simp; omega)) rfl rfl ?_ | refine uM tab_ok rfl rfl rfl rfl ?_ | refine vm rfl rfl rfl rfl rfl rfl rfl rfl ?_) | refine uq rfl ?_)
          try simp only [Int.toNat_natCast, hgk]
          refine uw (show uI Tryz.prog 36 [.sl 7 (m.kids.map nD)] (.sl 3 ((wY m.kids 0).map dcD)) by rw [nD_fun]; exact kH m.kids (by omega) hmt) call36 rfl rfl ⟨Sub.refl _, trivial⟩ rfl rfl rfl rfl ?_
          have hbl : blI l k = true := by rw [blI, hm, hb, decide_eq_true hkl]; rfl
          have hrl : y6 l i = ⟨⟨#[]⟩, uW ((l.take k).drop i), true, wY m.kids 0⟩ := by rw [y6, hen, hfr, hn, ha, hbl, hm]; rfl
          have hem : emI l i = [y6 l i] := by rw [emI, hn, ha, hen, hbl]; rfl
          rw [hem, hrl] at heq
          repeat (first | refine ue ?_ | refine uc ?_ | refine ud ?_ | refine ut ?_ | refine uf ?_ | (refine ug ?_; first | refine uh tab_ok rfl rfl rfl rfl byE rfl ?_ | refine uJ tab_ok rfl rfl rfl rfl rfl ?_ | refine uM tab_ok rfl rfl rfl rfl ?_ | refine ux tab_ok rfl rfl rfl rfl rfl rfl byC (by first | exact fun _ => trivial | (intro h; simp at h; omega)) rfl ?_ | refine vd tab_ok rfl rfl rfl rfl rfl rfl byC rfl ?_ | refine vI rfl rfl rfl rfl rfl rfl rfl rfl ?_ | refine u9 tab_ok rfl rfl rfl rfl rfl rfl rfl rfl rfl ?_ | refine u6 tab_ok rfl rfl rfl rfl rfl rfl rfl rfl rfl (by first | omega | (simp; omega)) rfl ?_) | refine uq rfl ?_)
          refine ⟨⟨k + 1, out ++ [⟨⟨#[]⟩, uW ((l.take k).drop i), true, wY m.kids 0⟩], by simp; omega, by omega, by rw [List.append_assoc]; exact heq⟩, by dsimp only; omega, ?_⟩
          dsimp only
          rw [show (out ++ [(⟨⟨#[]⟩, uW ((l.take k).drop i), true, wY m.kids 0⟩ : Rl)]).map rlD = out.map rlD ++ [rlD ⟨⟨#[]⟩, uW ((l.take k).drop i), true, wY m.kids 0⟩] from List.map_append]
          exact vN (s' := ⟨[.row 0 37 4 (out.map rlD ++ [rlD ⟨⟨#[]⟩, uW ((l.take k).drop i), true, wY m.kids 0⟩]), .gone, .gone], [(4, .sl 7 (l.map nF)), (5, .row 0 0), (6, .val (.int .i64 (k + 1 : Nat)))]⟩) (uy byV ⟨vb rfl (Sub.refl _) rfl, xl rfl rfl rfl, vb rfl (Sub.refl _) rfl, trivial⟩) (u2 1 rfl rfl byK)
        | false =>
          have hbl : blI l k = false := by rw [blI, hm, hb, decide_eq_true hkl]; rfl
          have hem : emI l i = [] := by rw [emI, hn, ha, hen, hbl]; rfl
          rw [hem, List.nil_append] at heq
          repeat (first | refine ue ?_ | refine uc ?_ | refine ud ?_ | refine ut ?_ | refine uj ?_ | refine uf ?_ | (refine ug ?_; first | refine uh tab_ok rfl rfl rfl rfl byE rfl ?_ | refine ux tab_ok rfl rfl rfl rfl rfl rfl byC (by first | exact fun _ => trivial | (intro h; simp at h; omega)) rfl ?_ | refine vd tab_ok rfl rfl rfl rfl rfl rfl byC rfl ?_ | refine vI rfl rfl rfl rfl rfl rfl rfl rfl ?_ | refine vm rfl rfl rfl rfl rfl rfl rfl rfl ?_) | refine ur rfl ?_)
          exact ⟨⟨k + 1, out, by omega, by omega, heq⟩, by dsimp only; omega, u2 1 rfl rfl byK⟩
    · have he : k = kE := by omega
      subst he
      repeat (first | refine ue ?_ | refine ud ?_ | (refine ug ?_; first | refine uG tab_ok rfl rfl rfl rfl rfl rfl rfl ?_ | refine uh tab_ok rfl rfl rfl rfl byE rfl ?_ | refine va rfl rfl rfl rfl rfl rfl ?_) | refine uD rfl rfl (congrArg (fun b => AV.val (.bool b)) (decide_eq_false (by omega))) rfl rfl rfl rfl ?_ | refine va rfl rfl (congrArg (fun b => AV.val (.bool b)) (decide_eq_false (by omega))) rfl rfl rfl ?_)
      repeat refine y8 rfl rfl rfl rfl rfl rfl ?_
      repeat (first | refine ue ?_ | refine uc ?_ | refine ud ?_ | refine uC ?_ | refine uf ?_ | (refine ug ?_; first | refine uh tab_ok rfl rfl rfl rfl byE rfl ?_ | refine uD rfl rfl rfl rfl rfl rfl rfl ?_ | refine va rfl rfl rfl rfl rfl rfl ?_) | refine ur rfl ?_)
      refine xj tab_ok rfl rfl rfl rfl rfl rfl rfl rfl (by show (0 : Int) ≤ ((i : Nat) : Int) ∧ ((i : Nat) : Int) ≤ ((k : Nat) : Int) ∧ ((k : Nat) : Int) ≤ (l.length : Int); omega) rfl ?_
      refine uw (show uI Tryz.prog 32 [.sl 7 (((l.take ((k : Nat) : Int).toNat).drop (((i : Nat) : Int)).toNat).map nF)] (.sl 7 ((uW ((l.take k).drop i)).map nF)) by
          simp only [Int.toNat_natCast]
          exact xb ((l.take k).drop i) (by simp only [List.length_drop, List.length_take]; omega)) zd rfl rfl ⟨Sub.refl _, trivial⟩ rfl rfl rfl rfl ?_
      repeat (first | refine ue ?_ | refine uc ?_ | refine ud ?_ | refine ut ?_ | refine uj ?_ | refine uf ?_ | (refine ug ?_; first | refine uG tab_ok rfl rfl rfl rfl rfl rfl rfl ?_ | refine uh tab_ok rfl rfl rfl rfl byE rfl ?_ | refine uM tab_ok rfl rfl rfl rfl ?_ | refine uD rfl rfl rfl rfl rfl rfl rfl ?_ | refine uY tab_ok rfl rfl rfl rfl rfl rfl (by first | exact trivial | omega) rfl ?_ | refine wm tab_ok rfl rfl rfl rfl rfl rfl rfl ?_) | refine ur rfl ?_ | refine uD rfl rfl (congrArg (fun b => AV.val (.bool b)) (decide_eq_false (by omega))) rfl rfl rfl rfl ?_ | refine va rfl rfl (congrArg (fun b => AV.val (.bool b)) (decide_eq_false (by omega))) rfl rfl rfl ?_)
      have hbl : blI l k = false := by rw [blI, decide_eq_false (by omega)]; rfl
      have hem : emI l i = [] := by rw [emI, hn, ha, hen, hbl]; rfl
      rw [hem, List.nil_append] at heq
      exact ⟨⟨k + 1, out, by omega, by omega, heq⟩, by dsimp only; omega, u2 1 rfl rfl byK⟩
end Go.Proofs.YtfmafehogfikmaaGreatDoor

/- RulesRead, walked. -/
namespace Go.Proofs.YtfmafehogfikmaaGreatDoor
open Go Go.RowKit
set_option maxRecDepth 20000

theorem nszs_td (l : List Nd) (k : Nat) : u4 (l.take k) ≤ u4 l ∧ u4 (l.drop k) ≤ u4 l := by
  have h := yT (l.take k) (l.drop k)
  rw [List.take_append_drop] at h
  omega
theorem dec_sz : ∀ (f : Nat) (l : List Nd) (i : Nat), (qz f l i).length ≤ f ∧ ∀ d ∈ qz f l i, u4 d.value ≤ u4 l
  | 0, _, _ => ⟨Nat.le_refl _, fun d h => by cases h⟩
  | f + 1, l, i => by
    have h1 : ∀ k, (oneD l i k).length ≤ 1 ∧ ∀ d ∈ oneD l i k, u4 d.value ≤ u4 l := by
      intro k
      have hv : ∀ m : List Nd, u4 (valF m).1 ≤ u4 m := fun m => by
        have a1 := trimF_sz m
        rw [valF]
        split
        · exact a1
        · split
          · exact Nat.le_trans (trimF_sz _) (Nat.le_trans (nszs_take _ _) a1)
          · exact a1
      rw [oneD]
      split
      · split
        · refine ⟨Nat.le_refl _, fun d hd => ?_⟩
          rw [List.mem_singleton] at hd
          rw [hd]
          exact Nat.le_trans (hv _) (Nat.le_trans (nszs_td _ _).2 (nszs_take _ _))
        · exact ⟨Nat.zero_le _, fun d h => by cases h⟩
      · exact ⟨Nat.zero_le _, fun d h => by cases h⟩
    rw [qz]
    split
    · split
      · have := dec_sz f l (i + 1)
        exact ⟨by omega, this.2⟩
      · split
        · have := dec_sz f l (wr (fun n => !xM n && !kq n) l i + 1)
          exact ⟨by omega, this.2⟩
        · have h2 := dec_sz f l (wr (fun n => !xM n) l i)
          have h3 := h1 (wr (fun n => !xM n) l i)
          refine ⟨by rw [List.length_append]; omega, fun d hd => ?_⟩
          rw [List.mem_append] at hd
          rcases hd with hd | hd
          · exact h3.2 d hd
          · exact h2.2 d hd
    · exact ⟨Nat.zero_le _, fun d h => by cases h⟩
theorem decA_sz (l : List Nd) : (wY l 0).length ≤ l.length ∧ ∀ d ∈ wY l 0, u4 d.value ≤ u4 l := by
  have := dec_sz (l.length - 0) l 0
  exact this
theorem sht_sz : ∀ (f : Nat) (l : List Nd) (i : Nat), ∀ r ∈ qV f l i, u4 r.pre ≤ u4 l ∧ r.decls.length ≤ u4 l ∧ ∀ d ∈ r.decls, u4 d.value ≤ u4 l
  | 0, _, _, _, h => by cases h
  | f + 1, l, i, r, h => by
    rw [qV] at h
    split at h
    · split at h
      · exact sht_sz f l _ r h
      · rw [List.mem_append] at h
        rcases h with h | h
        · rw [emI] at h
          split at h
          · rw [List.mem_singleton] at h
            rw [h]
            refine ⟨Nat.le_trans (trimF_sz _) (Nat.le_trans (nszs_td _ _).2 (nszs_take _ _)), ?_⟩
            show (if blI l (enI l i) then wY (vY l (enI l i)).kids 0 else []).length ≤ _ ∧ ∀ d ∈ (if blI l (enI l i) then wY (vY l (enI l i)).kids 0 else []), _
            split
            · rename_i hb
              rw [blI, Bool.and_eq_true, decide_eq_true_eq] at hb
              have h1 := decA_sz (vY l (enI l i)).kids
              have h2 := zL hb.1
              rw [wa hb.1] at h2
              have h3 := u7 (vY l (enI l i)).kids
              exact ⟨by omega, fun d hd => by have := h1.2 d hd; omega⟩
            · exact ⟨Nat.zero_le _, fun d h => by cases h⟩
          · cases h
        · exact sht_sz f l _ r h
    · cases h
theorem shN_sz (l : List Nd) : (shN l).1.length ≤ 500 ∧ ∀ r ∈ (shN l).1, u4 r.pre ≤ u4 l ∧ r.decls.length ≤ u4 l ∧ ∀ d ∈ r.decls, u4 d.value ≤ u4 l := by
  rw [shN]
  split
  · exact ⟨Nat.zero_le _, fun r h => by cases h⟩
  · rename_i h
    exact ⟨show (shtA l 0).length ≤ 500 by omega, sht_sz _ l 0⟩
theorem sheetA (b : List UInt8) (hb : b.length ≤ 3000) : uI Tryz.prog 17 [.sl 1 (b.map bD)] (.tup [.sl 4 ((shN (wc (wj (wk ⟨b.toArray⟩)) 0)).1.map rlD), .val (.int .i64 (shN (wc (wj (wk ⟨b.toArray⟩)) 0)).2)]) := by
  have hz := nodes_sz ⟨b.toArray⟩
  rw [sz_list] at hz
  refine sheetE_ok b (by omega) (fun n hn => ?_) (fun n hn m hm => ?_)
  · have := (hz n hn).1
    omega
  · have := (hz n hn).2 m hm
    omega
end Go.Proofs.YtfmafehogfikmaaGreatDoor
