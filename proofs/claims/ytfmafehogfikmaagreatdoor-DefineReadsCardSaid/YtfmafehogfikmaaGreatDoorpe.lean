/- DefineReads, walked. -/
import Derived.Test.YtfmafehogfikmaaGreatDoorpa
import Derived.Test.YtfmafehogfikmaaGreatDoorpd
import Derived.Test.YtfmafehogfikmaaGreatDoors3
namespace Go.Proofs.YtfmafehogfikmaaGreatDoor
open Go Go.RowKit
set_option maxRecDepth 20000

theorem rg_len : ∀ (l : List (List Nd)) (acc a : List (Int × Int)), xN l acc = some a → a.length ≤ acc.length + l.length
  | [], acc, a, h => by cases h; exact Nat.le_refl _
  | [x, y] :: r, acc, a, h => by
    rw [xN] at h
    split at h
    · have := rg_len r _ a h
      rw [List.length_append, List.length_singleton] at this
      rw [List.length_cons]; omega
    · cases h
  | [] :: _, _, _, h => by cases h
  | [_] :: _, _, _, h => by cases h
  | (_ :: _ :: _ :: _) :: _, _, _, h => by cases h
theorem sum_len2 : ∀ (l : List (List Nd)) (ss : List ByteArray) (ws : List Int) (a : List ByteArray × List Int), zv l ss ws = some a → a.2.length = ws.length + l.length
  | [], ss, ws, a, h => by cases h; rfl
  | p :: r, ss, ws, a, h => by
    rw [zv] at h
    split at h
    · have := sum_len2 r _ _ a h
      rw [List.length_append, List.length_singleton] at this
      rw [this, List.length_cons]; omega
    · cases h
theorem split_len (l : List Nd) : (vO l).length ≤ l.length + 1 := by
  rw [vO, w4]
  have := List.countP_le_length (p := cmB) (l := l)
  simp only [List.length_nil]; omega
/-- How long a style's lists are. -/
def lenS (B : Nat) (S : Sd) : Prop := S.syms.length ≤ B ∧ S.sums.length ≤ B ∧ S.wts.length ≤ B ∧ S.range.length ≤ B ∧ S.weights = []
theorem len_say {B : Nat} (S : Sd) (d : Dc) (h : lenS B S) (hd : d.value.length + 1 ≤ B) : lenS B (sayD S d).1 := by
  have hl : (vc d.value).length + 1 ≤ B := by have := wF d.value; omega
  have hsp := split_len (vc d.value)
  obtain ⟨i1, i2, i3, i4, i5⟩ := h
  rw [sayD, yx]
  split
  · exact ⟨i1, i2, i3, i4, i5⟩
  split
  · unfold zP qG
    repeat' split
    all_goals exact ⟨i1, i2, i3, i4, i5⟩
  split
  · unfold wW
    repeat' split
    all_goals exact ⟨i1, i2, i3, i4, i5⟩
  split
  · unfold xh
    repeat' split
    all_goals exact ⟨i1, i2, i3, i4, i5⟩
  split
  · unfold xh
    repeat' split
    all_goals exact ⟨i1, i2, i3, i4, i5⟩
  split
  · rw [zy]
    split
    · exact ⟨i1, i2, i3, Nat.zero_le _, i5⟩
    · split
      · exact ⟨i1, i2, i3, i4, i5⟩
      · rename_i a ha
        have := rg_len _ _ _ ha
        rw [List.length_nil] at this
        exact ⟨i1, i2, i3, show a.length ≤ B by omega, i5⟩
  split
  · unfold padF
    repeat' split
    all_goals exact ⟨i1, i2, i3, i4, i5⟩
  split
  · unfold falF
    repeat' split
    all_goals exact ⟨i1, i2, i3, i4, i5⟩
  split
  · rw [z7]
    split
    · exact ⟨i1, i2, i3, i4, i5⟩
    · rename_i a ha
      have := symF1_len _ _ _ ha
      rw [List.length_nil] at this
      exact ⟨show a.length ≤ B by omega, i2, i3, i4, i5⟩
  split
  · rw [zH]
    split
    · exact ⟨i1, i2, i3, i4, i5⟩
    · rename_i a ha
      have h1 := sumF1_len _ _ _ _ ha
      have h2 := sum_len2 _ _ _ _ ha
      rw [List.length_nil] at h1 h2
      exact ⟨i1, show a.1.length ≤ B by omega, show a.2.length ≤ B by omega, i4, i5⟩
  · exact ⟨i1, i2, i3, i4, i5⟩
theorem len_all {B : Nat} : ∀ (l : List Dc) (S : Sd), lenS B S → (∀ d ∈ l, d.value.length + 1 ≤ B) → lenS B (v8 S l)
  | [], _, h, _ => h
  | d :: r, S, h, hd => len_all r _ (len_say S d h (hd d (by simp))) (fun x hx => hd x (by simp [hx]))
theorem can_sz (t : ByteArray) : (canF t).size = t.size := by
  rw [canF]
  split
  · exact low_sz t
  · rfl
theorem nm_sz {l : List Nd} {k : Nat} (h : ∀ n ∈ l, n.tok.text.size ≤ k) : (nmF l).1.size ≤ k := by
  rw [nmF]
  have ht : ∀ n ∈ uW l, n.tok.text.size ≤ k := fun n hn => h n (xZ n hn)
  match uW l, ht with
  | [], _ => exact Nat.zero_le _
  | [n], ht =>
    rw [nmF1]
    split
    · split
      · exact Nat.zero_le _
      · rw [can_sz]; exact ht n (by simp)
    · exact Nat.zero_le _
  | _ :: _ :: _, _ => exact Nat.zero_le _
theorem nds_len (s : ByteArray) : u4 (zW s) ≤ s.size + 1 := by
  have h1 := nodesA_sz (wj (wk s))
  have h2 := toks_len s
  have h3 := yB s
  show u4 (wc (wj (wk s)) 0) ≤ _
  rw [toks] at h2
  omega
theorem valF_mem {m : List Nd} {n : Nd} (h : n ∈ (valF m).1) : n ∈ m := by
  rw [valF] at h
  split at h
  · exact xZ n h
  · split at h
    · exact xZ n (List.mem_of_mem_take (xZ n h))
    · exact xZ n h
theorem dec_mem : ∀ (f : Nat) (l : List Nd) (i : Nat), ∀ d ∈ qz f l i, ∀ n ∈ d.value, n ∈ l
  | 0, _, _, d, h => by cases h
  | f + 1, l, i, d, h => by
    rw [qz] at h
    split at h
    · split at h
      · exact dec_mem f l _ d h
      · split at h
        · exact dec_mem f l _ d h
        · rw [List.mem_append] at h
          rcases h with h | h
          · rw [oneD] at h
            split at h
            · split at h
              · rw [List.mem_singleton] at h
                rw [h]
                exact fun n hn => List.mem_of_mem_take (List.mem_of_mem_drop (valF_mem hn))
              · cases h
            · cases h
          · exact dec_mem f l _ d h
    · cases h
theorem sht_mem : ∀ (f : Nat) (l : List Nd) (i : Nat), ∀ r ∈ qV f l i, (∀ n ∈ r.pre, n ∈ l) ∧ ∀ d ∈ r.decls, ∀ n ∈ d.value, ∃ m ∈ l, n ∈ m.kids
  | 0, _, _, _, h => by cases h
  | f + 1, l, i, r, h => by
    rw [qV] at h
    split at h
    · split at h
      · exact sht_mem f l _ r h
      · rw [List.mem_append] at h
        rcases h with h | h
        · rw [emI] at h
          split at h
          · rw [List.mem_singleton] at h
            rw [h]
            refine ⟨fun n hn => List.mem_of_mem_take (List.mem_of_mem_drop (xZ n hn)), ?_⟩
            show ∀ d ∈ (if blI l (enI l i) then wY (vY l (enI l i)).kids 0 else []), _
            split
            · rename_i hb
              rw [blI, Bool.and_eq_true, decide_eq_true_eq] at hb
              intro d hd n hn
              refine ⟨l[enI l i]'hb.1, List.getElem_mem hb.1, ?_⟩
              rw [wa hb.1]
              exact dec_mem _ _ _ d hd n hn
            · exact fun d h => by cases h
          · cases h
        · exact sht_mem f l _ r h
    · cases h
theorem rl_okS (s : ByteArray) (hs : s.size ≤ 3000) : ∀ r ∈ (shN (zW s)).1, RlOk r := by
  intro r hr
  have hz := nds_len s
  obtain ⟨z1, z2, z3⟩ := (shN_sz (zW s)).2 r hr
  have hm : (∀ n ∈ r.pre, n ∈ zW s) ∧ ∀ d ∈ r.decls, ∀ n ∈ d.value, ∃ m ∈ zW s, n ∈ m.kids := by
    rw [shN] at hr
    split at hr
    · cases hr
    · exact sht_mem _ _ _ r hr
  have ht := nodes_sz s
  have hp : ∀ n ∈ r.pre, n.tok.text.size ≤ 1099511627776 := fun n hn => by
    have := (ht n (hm.1 n hn)).1; omega
  have hd : ∀ d ∈ r.decls, ∀ n ∈ d.value, n.tok.text.size ≤ 1099511627776 := fun d hd n hn => by
    obtain ⟨m, h1, h2⟩ := hm.2 d hd n hn
    have := (ht m h1).2 n h2; omega
  have hl := len_all (B := 65536) r.decls (sd0 (nmF r.pre).1) ⟨Nat.zero_le _, Nat.zero_le _, Nat.zero_le _, Nat.zero_le _, rfl⟩ (fun d h => by
    have h1 := z3 d h
    have h2 := u7 d.value
    omega)
  obtain ⟨l1, l2, l3, l4, l5⟩ := hl
  exact ⟨by omega, hp, by omega, fun d h => by have := z3 d h; omega, hd, nm_sz hp, l1, l2, l3, l4, by rw [l5]; exact Nat.zero_le _⟩
theorem rulesA_ok (s : ByteArray) (hs : s.size ≤ 3000) : uI Tryz.prog 5 [.val (.string s)] (.sl 4 ((shN (zW s)).1.map rlD)) := by
  refine uP Tryz.func5 Tryz.ntmps5 rfl rfl rfl fun S w => ?_
  repeat (first | refine ue ?_ | refine ud ?_ | refine uf ?_ | (refine ug ?_; first | refine uh tab_ok rfl rfl rfl rfl byE rfl ?_ | refine qn tab_ok rfl rfl rfl rfl rfl rfl (by omega) rfl rfl rfl ?_))
  refine uw (show uI Tryz.prog 17 [.sl 1 (s.data.toList.map bD)] (.tup [.sl 4 ((shN (zW s)).1.map rlD), .val (.int .i64 (shN (zW s)).2)]) from sheetA s.data.toList hs) call17 rfl rfl ⟨Sub.refl _, trivial⟩ rfl rfl rfl rfl ?_
  repeat (first | refine ue ?_ | refine uc ?_ | refine ud ?_ | refine uk ?_ | refine uf ?_ | (refine ug ?_; first | refine uh tab_ok rfl rfl rfl rfl byE rfl ?_) | refine vB byO rfl rfl rfl ?_)
  exact Sub.refl _
end Go.Proofs.YtfmafehogfikmaaGreatDoor
