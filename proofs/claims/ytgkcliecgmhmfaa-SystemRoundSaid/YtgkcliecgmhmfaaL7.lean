/- slices.Reverse on law9's seat. -/
import Derived.Test.YtgkcliecgmhmfaaL4
namespace Go.Proofs.Ytgkcliecgmhmfaa
open Go Go.RowKit

def RevAt (l : List Nat) (i : Nat) (c : List Nat) : Prop := c.length = l.length ∧ 2 * i ≤ l.length + 1 ∧ ∀ k, k < l.length → c.getD k 0 = if k < i ∨ l.length - 1 - i < k then l.getD (l.length - 1 - k) 0 else l.getD k 0
theorem RevAt.start (l : List Nat) : RevAt l 0 l := ⟨rfl, by omega, fun k hk => by rw [if_neg (by omega)]⟩
theorem getD_set (c : List Nat) (i k x : Nat) : (c.set i x).getD k 0 = if i = k ∧ i < c.length then x else c.getD k 0 := by
  rw [List.getD_eq_getElem?_getD, List.getElem?_set, List.getD_eq_getElem?_getD]
  by_cases h : i = k
  · subst h
    by_cases h2 : i < c.length
    · simp [h2]
    · simp [h2, List.getElem?_eq_none (Nat.le_of_not_lt h2)]
  · simp [h]
theorem getD_at (c : List Nat) {i : Nat} (h : i < c.length) : c[i] = c.getD i 0 := by simp [h]
theorem RevAt.step {l c : List Nat} {i b : Nat} (h : RevAt l i c) (hb : (l.length : Int) - 1 - i = b) (hib : i < b) (h1 : b < c.length) (h2 : i < c.length) : RevAt l (i + 1) ((c.set i c[b]).set b c[i]) := by
  obtain ⟨q1, q2, q3⟩ := h
  refine ⟨by simp [q1], by omega, fun k hk => ?_⟩
  have ei := q3 i (by omega)
  have eb := q3 b (by omega)
  have ek := q3 k hk
  rw [if_neg (by omega)] at ei eb
  rw [getD_set, getD_set, getD_at c h1, getD_at c h2, ei, eb]
  simp only [List.length_set]
  by_cases e1 : b = k
  · subst e1
    rw [if_pos ⟨rfl, h1⟩, if_pos (by omega)]
    congr 1
    omega
  · rw [if_neg (by simp [e1])]
    by_cases e2 : i = k
    · subst e2
      rw [if_pos ⟨rfl, h2⟩, if_pos (by omega)]
      congr 1
      omega
    · rw [if_neg (by simp [e2]), ek]
      by_cases e3 : k < i ∨ l.length - 1 - i < k
      · rw [if_pos e3, if_pos (by omega)]
      · rw [if_neg e3, if_neg (by omega)]
theorem RevAt.done {l c : List Nat} {i : Nat} (h : RevAt l i c) (hi : ¬ (i : Int) < (l.length : Int) - 1 - i) : c = l.reverse := by
  obtain ⟨q1, q2, q3⟩ := h
  apply List.ext_getElem
  · simp [q1]
  · intro k h1 h2
    have := q3 k (by omega)
    rw [getD_at c h1, this, List.getElem_reverse, getD_at l]
    split
    · rfl
    · congr 1
      omega
theorem reverse_ok (l : List Nat) (hl : l.length ≤ 17592186044416) : MCalls Try.prog 36 [.row 0 3 1 (l.map nD)] [.row 0 0] [.row 0 3 1 (l.reverse.map nD)] (.tup []) := by
  refine m_start Try.func36 Try.ntmps36 rfl rfl rfl fun S w β => ?_
  have hlm : (l.map nD).length = l.length := List.length_map _
  repeat (first
    | refine awp_seq ?_
    | refine thenA_normal ?_
    | refine awp_block ?_
    | refine a_region ?_
    | refine r_done ?_
    | (refine r_id ?_; first
      | refine r_ev tab_ok rfl rfl rfl rfl (by first | exact trivial | exact ⟨by omega, by omega⟩ | omega | exact ⟨by omega, by omega, by omega, by omega⟩ | exact Nat.le_of_ble_eq_true rfl) rfl ?_
      | refine r_ld tab_ok rfl rfl rfl rfl rfl ?_))
  refine a_loop (σ := {x : Nat × List Nat // RevAt l x.1 x.2}) (fun x => [.row 0 3 1 (x.1.2.map nD)]) (fun x => [(0, .row 0 0), (2, .val (.int .i64 x.1.1)), (3, .val (.int .i64 ((l.length : Int) - 1 - x.1.1)))]) (fun x => l.length - x.1.1) ⟨(0, l), RevAt.start l⟩
    (fits_convM (by repeat' first | exact trivial | exact rfl | (rw [List.map_append]; first | done | rfl) | exact c_sub rfl (Sub.refl _) rfl | exact c_nil rfl rfl | exact c_thaw rfl rfl rfl | exact c_row rfl rfl rfl | exact c_row rfl rfl (by rw [List.map_append]; first | done | rfl) | exact c_ptr rfl rfl rfl rfl | exact Or.inl ⟨c_sub rfl (Sub.refl _) rfl, c_ptr rfl rfl rfl rfl⟩ | exact c_alt rfl rfl rfl rfl | exact c_ro rfl rfl | exact c_eo rfl rfl | exact c_sub rfl (Sub.altl _ _) rfl | refine ⟨_, _, rfl, ?_, ?_⟩ | apply And.intro) ⟨c_row rfl rfl rfl, c_sub rfl (Sub.refl _) rfl, c_sub rfl (Sub.of_eq (by show AV.val (.int .i64 (((l.map nD).length : Int) - 1)) = AV.val (.int .i64 ((l.length : Int) - 1 - (0 : Nat))); simp)) rfl, trivial⟩ ⟨.inl rfl, trivial⟩) ?_
  rintro ⟨⟨i, c⟩, hc⟩
  dsimp only at hc ⊢
  have hcl := hc.1
  repeat (first
    | refine awp_seq ?_
    | refine thenA_normal ?_
    | refine a_region ?_
    | refine r_done ?_
    | (refine r_id ?_; first
      | refine r_ev tab_ok rfl rfl rfl rfl (by first | exact trivial | exact ⟨by omega, by omega⟩ | omega | exact ⟨by omega, by omega, by omega, by omega⟩ | exact Nat.le_of_ble_eq_true rfl) rfl ?_))
  refine awp_cond_p rfl (fun hlt => ?_) (fun hge => ?_)
  · obtain ⟨b, hb⟩ : ∃ b : Nat, (l.length : Int) - 1 - i = b := ⟨((l.length : Int) - 1 - i).toNat, by omega⟩
    rw [hb]
    have hib : i < b := by omega
    have h1 : b < c.length := by omega
    have h2 : i < c.length := by omega
    repeat (first
      | refine awp_seq ?_
      | refine awp_block ?_
      | refine awp_skip ?_)
    refine a_draw mixed_ok [0, 0, 0, 0, 0, 0, 1, 1, 0, 0, 1, 1, 1, 2, 1, 2] (by kernel_rfl) ?_
    repeat (first
      | (refine r_id ?_; first
        | refine r_ev tab_ok rfl rfl rfl rfl (by first | exact trivial | exact ⟨by omega, by omega⟩ | omega | exact ⟨by omega, by omega, by omega, by omega⟩ | exact Nat.le_of_ble_eq_true rfl) rfl ?_
        | refine r_idxr tab_ok rfl rfl rfl rfl rfl rfl rfl rfl (by first | exact ⟨by omega, by omega⟩ | (simp; omega)) rfl ?_
        | refine r_lde tab_ok rfl rfl rfl rfl rfl (by omega) rfl rfl rfl rfl ?_))
    refine r_ste tab_ok (c[b]) rfl rfl rfl rfl rfl h2 rfl rfl rfl rfl rfl rfl ?_
    repeat (first
      | (refine r_id ?_; first
        | refine r_idxr tab_ok rfl rfl rfl rfl rfl rfl rfl rfl (by first | exact ⟨by omega, by omega⟩ | (simp; omega)) rfl ?_))
    refine r_ste tab_ok (c[i]) rfl rfl rfl rfl rfl (by rw [List.length_set]; exact h1) rfl rfl rfl rfl rfl rfl ?_
    repeat (first
      | refine thenA_normal ?_
      | refine a_region ?_
      | refine r_done ?_
      | refine r_done' ?_
      | (refine r_id ?_; first
        | refine r_ev tab_ok rfl rfl rfl rfl (by first | exact trivial | exact ⟨by omega, by omega⟩ | omega | exact ⟨by omega, by omega, by omega, by omega⟩ | exact Nat.le_of_ble_eq_true rfl) rfl ?_))
    exact ⟨⟨(i + 1, (c.set i c[b]).set b c[i]), hc.step hb hib h1 h2⟩, by dsimp only; omega, fits_convM (by repeat' first | exact trivial | exact rfl | (rw [List.map_append]; first | done | rfl) | exact c_sub rfl (Sub.refl _) rfl | exact c_nil rfl rfl | exact c_thaw rfl rfl rfl | exact c_row rfl rfl rfl | exact c_row rfl rfl (by rw [List.map_append]; first | done | rfl) | exact c_ptr rfl rfl rfl rfl | exact Or.inl ⟨c_sub rfl (Sub.refl _) rfl, c_ptr rfl rfl rfl rfl⟩ | exact c_alt rfl rfl rfl rfl | exact c_ro rfl rfl | exact c_eo rfl rfl | exact c_sub rfl (Sub.altl _ _) rfl | refine ⟨_, _, rfl, ?_, ?_⟩ | apply And.intro) ⟨c_row rfl rfl rfl, c_sub rfl (Sub.refl _) rfl, c_sub rfl (Sub.of_eq (by
      show AV.val (.int .i64 ((b : Int) - 1)) = AV.val (.int .i64 ((l.length : Int) - 1 - ((i + 1 : Nat) : Int)))
      congr 2
      omega)) rfl, trivial⟩ ⟨.inl rfl, trivial⟩⟩
  · have e := hc.done hge
    subst e
    repeat (first
      | refine awp_exit ?_
      | refine thenA_exit ?_
      | refine blockA_hit rfl ?_
      | exact retM0 (by first | exact .inl rfl | exact .inr rfl) rfl rfl rfl)
end Go.Proofs.Ytgkcliecgmhmfaa
