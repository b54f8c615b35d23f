/- The law TokenJoins, walked. -/
import Derived.Test.YtbjinibmkkmhkaaDoorug
namespace Go.Proofs.YtbjinibmkkmhkaaDoor
open Go Go.RowKit
set_option maxRecDepth 20000

theorem joinsB (a b : ByteArray) (hz : (toks (a ++ ⟨#[32]⟩)).length = (toks a).length + 1) (hw : ∀ t r, toks b = t :: r → t.kind ≠ 13) (hb : b.size ≤ 2 ∨ ∀ c r, b.data.toList = c :: r → c.toNat ≠ 239) :
    toks (a ++ ⟨#[32]⟩ ++ b) = toks (a ++ ⟨#[32]⟩) ++ toks b := by
  have ea : a = ⟨a.data.toList.toArray⟩ := rfl
  have eb : b = ⟨b.data.toList.toArray⟩ := rfl
  have e1 : a ++ (⟨#[32]⟩ : ByteArray) = ⟨(a.data.toList ++ [32]).toArray⟩ := by
    rw [show (⟨#[32]⟩ : ByteArray) = ⟨[32].toArray⟩ from rfl]; rw [ea]; exact cat_two _ _
  have e2 : a ++ (⟨#[32]⟩ : ByteArray) ++ b = ⟨(a.data.toList ++ 32 :: b.data.toList).toArray⟩ := by
    rw [e1, eb, cat_two, List.append_assoc]; rfl
  rw [e1] at hz
  rw [e2, e1]
  exact joins a.data.toList b.data.toList hz hw (by rw [str_size]; exact hb)
theorem fin239 {b : ByteArray} {x : Bool} (h : (x || decide (2 < (b.size : Int)) && decide (((b.data.toList.getD (Int.toNat 0) 0).toNat : Int) = 239)) = false) : b.size ≤ 2 ∨ ∀ c r, b.data.toList = c :: r → c.toNat ≠ 239 := by
  rw [Bool.or_eq_false_iff] at h
  by_cases hs : b.size ≤ 2
  · exact .inl hs
  · refine .inr fun c r hc h239 => ?_
    have h2 := h.2
    rw [hc, decide_eq_true (by omega), Bool.true_and, decide_eq_false_iff_not] at h2
    exact h2 (by show ((c.toNat : Nat) : Int) = 239; omega)
theorem sameM (Z Y : List Tk) (hz : Z.length ≤ 501) (hy : Y.length ≤ 500) : MCalls Tryd.prog 14 [.gone, .row 2 33 6 (Z.map tD ++ Y.map tD)] [.sl 6 ((Z ++ Y).map tD), .row 1 2] [.gone, .row 2 33 6 (Z.map tD ++ Y.map tD)] (.val (.bool true)) := by
  have h := mcalls_lendp (M0 := [.gone, .row 2 33 6 (Z.map tD ++ Y.map tD)]) (xs := [.sl 6 ((Z ++ Y).map tD), .row 1 2]) (eqtoks_ok (Z ++ Y) (Z ++ Y) (by rw [List.length_append]; omega) (by rw [List.length_append]; omega)) ⟨.inl ⟨rfl, rfl⟩, .inr (.inl ⟨1, 2, 33, 6, _, rfl, rfl, by rw [List.map_append]; rfl⟩), trivial⟩ rfl
  rw [decide_eq_true rfl] at h
  exact h
set_option maxHeartbeats 16000000 in
theorem lawJoins (a b : ByteArray) (ha : a.size ≤ 9223372036854775807) (hb : b.size ≤ 9223372036854775807) : PCalls Tryd.prog 4 [.val (.string a), .val (.string b)] (.val (.bool true)) := by
  refine p_start Tryd.func4 Tryd.ntmps4 rfl rfl rfl fun S w => ?_
  repeat (first | refine awp_seq ?_ | refine thenA_normal ?_ | refine a_region ?_ | refine r_done ?_ | (refine r_id ?_; first | refine r_ev tab_ok rfl rfl rfl rfl (by first | exact trivial | exact ⟨by omega, by omega⟩ | omega | exact ⟨by omega, by omega, by omega, by omega⟩ | exact Nat.le_of_ble_eq_true rfl) rfl ?_ | refine r_ev_cnd tab_ok rfl rfl rfl rfl rfl rfl (by first | exact fun _ => rfl | exact cs1 | exact cs2 | exact cs3) (by first | exact fun _ => trivial | (intro h; simp at h; first | exact ⟨by omega, by omega⟩ | omega)) rfl ?_ | refine r_or rfl rfl rfl rfl rfl rfl rfl rfl ?_))
  refine awp_cond rfl (fun h => ?_) (fun h => ?_)
  · repeat (first | refine awp_seq ?_ | refine a_region ?_)
    refine r_call awake2_ok call12 rfl rfl trivial rfl rfl rfl rfl ?_
    repeat (first | refine thenA_normal ?_ | refine awp_ret ?_ | refine thenA_ret ?_ | refine r_done ?_ | (refine r_id ?_; first | refine r_ev tab_ok rfl rfl rfl rfl (by first | exact trivial | exact ⟨by omega, by omega⟩ | omega | exact ⟨by omega, by omega, by omega, by omega⟩ | exact Nat.le_of_ble_eq_true rfl) rfl ?_) | refine ret1 (by first | exact .inl rfl | exact .inr rfl) rfl rfl rfl ?_)
    exact Sub.refl _
  have hab : a.size ≤ 500 ∧ b.size ≤ 500 := by
    simp only [Bool.or_eq_false_iff, decide_eq_false_iff_not] at h
    omega
  clear h ha hb
  have hsp : (⟨#[32]⟩ : ByteArray).size = 1 := rfl
  have hcz : (a ++ (⟨#[32]⟩ : ByteArray)).size ≤ 501 := by rw [ByteArray.size_append]; omega
  have hxl := toks_len a
  have hyl := toks_len b
  have hzl := toks_len (a ++ ⟨#[32]⟩)
  repeat (first | refine awp_seq ?_ | refine a_region ?_ | refine awp_skip ?_ | (refine r_id ?_; first | refine r_ev tab_ok rfl rfl rfl rfl (by first | exact trivial | exact ⟨by omega, by omega⟩ | omega | exact ⟨by omega, by omega, by omega, by omega⟩ | exact Nat.le_of_ble_eq_true rfl) rfl ?_))
  refine r_call (all2_ok a (by omega)) call19 rfl rfl ⟨Sub.refl _, trivial⟩ rfl rfl rfl rfl ?_
  repeat (first | (refine r_id ?_; first | refine r_ev tab_ok rfl rfl rfl rfl (by first | exact trivial | exact ⟨by omega, by omega⟩ | omega | exact ⟨by omega, by omega, by omega, by omega⟩ | exact Nat.le_of_ble_eq_true rfl) rfl ?_))
  refine r_call (all2_ok b (by omega)) call19 rfl rfl ⟨Sub.refl _, trivial⟩ rfl rfl rfl rfl ?_
  repeat (first | refine awp_seq ?_ | refine a_region ?_ | refine r_done ?_ | (refine r_id ?_; first | refine r_ev tab_ok rfl rfl rfl rfl (by first | exact trivial | exact ⟨by omega, by omega⟩ | omega | exact ⟨by omega, by omega, by omega, by omega⟩ | exact Nat.le_of_ble_eq_true rfl) rfl ?_))
  refine r_rcall (out := .row 1 0) (allM_ok (a ++ ⟨#[32]⟩) (by omega)) call19 rfl rfl ⟨Sub.refl _, trivial⟩ rfl rfl rfl rfl rfl rfl ?_
  have hJ := joinsB a b
  generalize toks (a ++ ⟨#[32]⟩) = Z at hzl hJ ⊢
  generalize toks a = X at hxl hJ ⊢
  have hZm : (Z.map tD).length = Z.length := List.length_map _
  have hXm : (X.map tD).length = X.length := List.length_map _
  generalize toks b = Y at hyl hJ ⊢
  have hYm : (Y.map tD).length = Y.length := List.length_map _
  by_cases h1 : (((Z.map tD).length : Nat) : Int) = (X.length : Int) + 1
  rotate_left
  · repeat (first | refine awp_seq ?_ | refine thenA_normal ?_ | refine a_region ?_ | refine r_done ?_ | (refine r_id ?_; first | refine r_len tab_ok rfl rfl rfl rfl rfl rfl rfl ?_ | refine r_ev tab_ok rfl rfl rfl rfl (by first | exact trivial | exact ⟨by omega, by omega⟩ | omega | exact ⟨by omega, by omega, by omega, by omega⟩ | exact Nat.le_of_ble_eq_true rfl) rfl ?_ | refine r_ld tab_ok rfl rfl rfl rfl rfl ?_ | refine r_pick_t rfl rfl rfl rfl rfl rfl rfl ?_ | refine r_off rfl rfl rfl rfl rfl rfl ?_) | refine awp_cond_t rfl ?_ | refine r_pick_t rfl rfl (congrArg (fun b => AV.val (.bool b)) (bnot_f (by omega))) rfl rfl rfl rfl ?_ | refine r_off rfl rfl (congrArg (fun b => AV.val (.bool b)) (bnot_f (by omega))) rfl rfl rfl ?_ | refine r_offu rfl rfl rfl rfl rfl rfl ?_)
    refine r_call awake2_ok call12 rfl rfl trivial rfl rfl rfl rfl ?_
    repeat (first | refine thenA_normal ?_ | refine awp_ret ?_ | refine thenA_ret ?_ | refine r_done ?_ | (refine r_id ?_; first | refine r_ev tab_ok rfl rfl rfl rfl (by first | exact trivial | exact ⟨by omega, by omega⟩ | omega | exact ⟨by omega, by omega, by omega, by omega⟩ | exact Nat.le_of_ble_eq_true rfl) rfl ?_) | refine ret1 (by first | exact .inl rfl | exact .inr rfl) rfl rfl rfl ?_)
    exact Sub.refl _
  have hlt : ((((Z.map tD).length : Nat) : Int) - 1).toNat < Z.length := by omega
  by_cases h2 : (Z[((((Z.map tD).length : Nat) : Int) - 1).toNat]'hlt).kind = 13
  rotate_left
  · repeat (first | refine awp_seq ?_ | refine thenA_normal ?_ | refine a_region ?_ | refine r_done ?_ | (refine r_id ?_; first | refine r_len tab_ok rfl rfl rfl rfl rfl rfl rfl ?_ | refine r_ev tab_ok rfl rfl rfl rfl (by first | exact trivial | exact ⟨by omega, by omega⟩ | omega | exact ⟨by omega, by omega, by omega, by omega⟩ | exact Nat.le_of_ble_eq_true rfl) rfl ?_ | refine r_ld tab_ok rfl rfl rfl rfl rfl ?_ | refine r_pick_t rfl rfl rfl rfl rfl rfl rfl ?_ | refine r_off rfl rfl rfl rfl rfl rfl ?_ | refine r_idxr tab_ok rfl rfl rfl rfl rfl rfl rfl rfl (by first | exact ⟨by omega, by omega⟩ | (simp; omega)) rfl ?_ | refine r_fielde tab_ok rfl rfl rfl rfl rfl rfl rfl rfl ?_ | refine r_lde tab_ok rfl rfl rfl rfl rfl (by omega) rfl rfl rfl rfl ?_) | refine awp_cond_t rfl ?_ | refine r_g rfl rfl (congrArg (fun b => AV.val (.bool b)) (bnot_t (by omega))) ?_ | refine r_pick_t rfl rfl (congrArg (fun b => AV.val (.bool b)) (bnot_f (by omega))) rfl rfl rfl rfl ?_ | refine r_pick_f rfl rfl (congrArg (fun b => AV.val (.bool b)) (bnot_t (by omega))) rfl rfl rfl rfl ?_ | refine r_off rfl rfl (congrArg (fun b => AV.val (.bool b)) (bnot_f (by omega))) rfl rfl rfl ?_ | refine r_offu rfl rfl rfl rfl rfl rfl ?_)
    refine r_call awake2_ok call12 rfl rfl trivial rfl rfl rfl rfl ?_
    repeat (first | refine thenA_normal ?_ | refine awp_ret ?_ | refine thenA_ret ?_ | refine r_done ?_ | (refine r_id ?_; first | refine r_ev tab_ok rfl rfl rfl rfl (by first | exact trivial | exact ⟨by omega, by omega⟩ | omega | exact ⟨by omega, by omega, by omega, by omega⟩ | exact Nat.le_of_ble_eq_true rfl) rfl ?_) | refine ret1 (by first | exact .inl rfl | exact .inr rfl) rfl rfl rfl ?_)
    exact Sub.refl _
  have hne : Z.map tD ≠ [] := by intro h; rw [h] at hZm; simp at hZm; omega
  have hE : MCalls Tryd.prog 14 [.gone, .row 0 33 6 (Z.map tD)] [.vw 1 0 (pfxV X.length), .sl 6 (X.map tD)] [.gone, .row 0 33 6 (Z.map tD)] (.val (.bool (decide (Z.take X.length = X)))) :=
    mcalls_lendp (eqtoks_ok (Z.take X.length) X (by rw [List.length_take]; omega) (by omega)) ⟨.inr (.inr ⟨1, 0, 33, 6, Z.map tD, X.length, rfl, by rw [List.map_take], by omega, hne, rfl⟩), .inl ⟨rfl, rfl⟩, trivial⟩ rfl
  by_cases h3 : Z.take X.length = X
  rotate_left
  · repeat (first | refine awp_seq ?_ | refine a_region ?_ | refine r_done ?_ | (refine r_id ?_; first | refine r_len tab_ok rfl rfl rfl rfl rfl rfl rfl ?_ | refine r_ev tab_ok rfl rfl rfl rfl (by first | exact trivial | exact ⟨by omega, by omega⟩ | omega | exact ⟨by omega, by omega, by omega, by omega⟩ | exact Nat.le_of_ble_eq_true rfl) rfl ?_ | refine r_ld tab_ok rfl rfl rfl rfl rfl ?_ | refine r_idxr tab_ok rfl rfl rfl rfl rfl rfl rfl rfl (by first | exact ⟨by omega, by omega⟩ | (simp; omega)) rfl ?_ | refine r_fielde tab_ok rfl rfl rfl rfl rfl rfl rfl rfl ?_ | refine r_lde tab_ok rfl rfl rfl rfl rfl (by omega) rfl rfl rfl rfl ?_) | refine r_g rfl rfl (congrArg (fun b => AV.val (.bool b)) (bnot_t (by omega))) ?_ | refine r_pick_f rfl rfl (congrArg (fun b => AV.val (.bool b)) (bnot_t (by omega))) rfl rfl rfl rfl ?_)
    refine r_by1 (astep_pfx tab_ok rfl rfl rfl rfl hne rfl ⟨by omega, by omega⟩) rfl rfl rfl rfl rfl ?_
    repeat (first | (refine r_id ?_; first | refine r_ev tab_ok rfl rfl rfl rfl (by first | exact trivial | exact ⟨by omega, by omega⟩ | omega | exact ⟨by omega, by omega, by omega, by omega⟩ | exact Nat.le_of_ble_eq_true rfl) rfl ?_) | refine r_g rfl rfl (congrArg (fun b => AV.val (.bool b)) (bnot_t (by omega))) ?_)
    refine r_mcall_all hE call14 rfl rfl ⟨Sub.refl _, Sub.refl _, trivial⟩ rfl rfl rfl rfl ?_
    repeat (first | refine awp_seq ?_ | refine thenA_normal ?_ | refine a_region ?_ | refine r_done ?_ | (refine r_id ?_; first | refine r_ev tab_ok rfl rfl rfl rfl (by first | exact trivial | exact ⟨by omega, by omega⟩ | omega | exact ⟨by omega, by omega, by omega, by omega⟩ | exact Nat.le_of_ble_eq_true rfl) rfl ?_ | refine r_pick_t rfl rfl rfl rfl rfl rfl rfl ?_ | refine r_off rfl rfl rfl rfl rfl rfl ?_) | refine awp_cond_t rfl ?_ | refine r_g rfl rfl (congrArg (fun b => AV.val (.bool b)) (bnot_t (by omega))) ?_ | refine r_pick_t rfl rfl (congrArg (fun b => AV.val (.bool b)) (bnot_f (by omega))) rfl rfl rfl rfl ?_ | refine r_pick_f rfl rfl (congrArg (fun b => AV.val (.bool b)) (bnot_t (by omega))) rfl rfl rfl rfl ?_ | refine r_off rfl rfl (congrArg (fun b => AV.val (.bool b)) (bnot_f (by omega))) rfl rfl rfl ?_ | refine r_offu rfl rfl rfl rfl rfl rfl ?_)
    refine r_call awake2_ok call12 rfl rfl trivial rfl rfl rfl rfl ?_
    repeat (first | refine thenA_normal ?_ | refine awp_ret ?_ | refine thenA_ret ?_ | refine r_done ?_ | (refine r_id ?_; first | refine r_ev tab_ok rfl rfl rfl rfl (by first | exact trivial | exact ⟨by omega, by omega⟩ | omega | exact ⟨by omega, by omega, by omega, by omega⟩ | exact Nat.le_of_ble_eq_true rfl) rfl ?_) | refine ret1 (by first | exact .inl rfl | exact .inr rfl) rfl rfl rfl ?_)
    exact Sub.refl _
  rw [decide_eq_true h3] at hE
  repeat (first | refine awp_seq ?_ | refine a_region ?_ | refine r_done ?_ | (refine r_id ?_; first | refine r_len tab_ok rfl rfl rfl rfl rfl rfl rfl ?_ | refine r_ev tab_ok rfl rfl rfl rfl (by first | exact trivial | exact ⟨by omega, by omega⟩ | omega | exact ⟨by omega, by omega, by omega, by omega⟩ | exact Nat.le_of_ble_eq_true rfl) rfl ?_ | refine r_ld tab_ok rfl rfl rfl rfl rfl ?_ | refine r_idxr tab_ok rfl rfl rfl rfl rfl rfl rfl rfl (by first | exact ⟨by omega, by omega⟩ | (simp; omega)) rfl ?_ | refine r_fielde tab_ok rfl rfl rfl rfl rfl rfl rfl rfl ?_ | refine r_lde tab_ok rfl rfl rfl rfl rfl (by omega) rfl rfl rfl rfl ?_) | refine r_g rfl rfl (congrArg (fun b => AV.val (.bool b)) (bnot_t (by omega))) ?_ | refine r_pick_f rfl rfl (congrArg (fun b => AV.val (.bool b)) (bnot_t (by omega))) rfl rfl rfl rfl ?_)
  refine r_by1 (astep_pfx tab_ok rfl rfl rfl rfl hne rfl ⟨by omega, by omega⟩) rfl rfl rfl rfl rfl ?_
  repeat (first | (refine r_id ?_; first | refine r_ev tab_ok rfl rfl rfl rfl (by first | exact trivial | exact ⟨by omega, by omega⟩ | omega | exact ⟨by omega, by omega, by omega, by omega⟩ | exact Nat.le_of_ble_eq_true rfl) rfl ?_) | refine r_g rfl rfl (congrArg (fun b => AV.val (.bool b)) (bnot_t (by omega))) ?_)
  refine r_mcall_all hE call14 rfl rfl ⟨Sub.refl _, Sub.refl _, trivial⟩ rfl rfl rfl rfl ?_
  repeat (first | (refine r_id ?_; first | refine r_ev tab_ok rfl rfl rfl rfl (by first | exact trivial | exact ⟨by omega, by omega⟩ | omega | exact ⟨by omega, by omega, by omega, by omega⟩ | exact Nat.le_of_ble_eq_true rfl) rfl ?_ | refine r_len_on tab_ok rfl rfl rfl rfl rfl rfl rfl rfl rfl ?_ | refine r_ev_on tab_ok rfl rfl rfl rfl rfl rfl (by first | exact trivial | exact ⟨by omega, by omega⟩ | omega) rfl ?_) | refine r_g rfl rfl (congrArg (fun b => AV.val (.bool b)) (bnot_t (by omega))) ?_ | refine r_pick_f rfl rfl (congrArg (fun b => AV.val (.bool b)) (bnot_t (by omega))) rfl rfl rfl rfl ?_)
  rcases Y with _ | ⟨t, r⟩
  · repeat (first | refine thenA_normal ?_ | refine r_done ?_ | (refine r_id ?_; first | refine r_ev tab_ok rfl rfl rfl rfl (by first | exact trivial | exact ⟨by omega, by omega⟩ | omega | exact ⟨by omega, by omega, by omega, by omega⟩ | exact Nat.le_of_ble_eq_true rfl) rfl ?_ | refine r_ev_cnd tab_ok rfl rfl rfl rfl rfl rfl (by first | exact fun _ => rfl | exact cs1 | exact cs2 | exact cs3) (by first | exact fun _ => trivial | (intro h; simp at h; first | exact ⟨by omega, by omega⟩ | omega)) rfl ?_ | refine r_and_cnd rfl rfl rfl rfl rfl rfl rfl rfl rfl rfl ?_ | refine r_or_cnd rfl rfl rfl rfl rfl rfl rfl rfl rfl rfl ?_ | refine r_or rfl rfl rfl rfl rfl rfl rfl rfl ?_ | refine r_pick_f rfl rfl rfl rfl rfl rfl rfl ?_ | refine r_off rfl rfl rfl rfl rfl rfl ?_) | refine r_g rfl rfl rfl ?_)
    refine awp_cond rfl (fun h => ?_) (fun h => ?_)
    · repeat (first | refine awp_seq ?_ | refine a_region ?_)
      refine r_call awake2_ok call12 rfl rfl trivial rfl rfl rfl rfl ?_
      repeat (first | refine thenA_normal ?_ | refine awp_ret ?_ | refine thenA_ret ?_ | refine r_done ?_ | (refine r_id ?_; first | refine r_ev tab_ok rfl rfl rfl rfl (by first | exact trivial | exact ⟨by omega, by omega⟩ | omega | exact ⟨by omega, by omega, by omega, by omega⟩ | exact Nat.le_of_ble_eq_true rfl) rfl ?_) | refine ret1 (by first | exact .inl rfl | exact .inr rfl) rfl rfl rfl ?_)
      exact Sub.refl _
    have hres : toks (a ++ ⟨#[32]⟩ ++ b) = Z ++ [] := hJ (by omega) (fun _ _ h => nomatch h) (fin239 h)
    have hS := sameM Z [] (by omega) (Nat.zero_le _)
    repeat (first | refine awp_seq ?_ | refine a_region ?_ | refine awp_skip ?_ | (refine r_id ?_; first | refine r_ev tab_ok rfl rfl rfl rfl (by first | exact trivial | exact ⟨by omega, by omega⟩ | omega | exact ⟨by omega, by omega, by omega, by omega⟩ | exact Nat.le_of_ble_eq_true rfl) rfl ?_))
    refine r_call (show PCalls Tryd.prog 19 [.val (.string (a ++ ⟨#[32]⟩ ++ b))] (.sl 6 ((Z ++ []).map tD)) by rw [← hres]; exact all2_ok _ (by rw [ByteArray.size_append]; omega)) call19 rfl rfl ⟨Sub.refl _, trivial⟩ rfl rfl rfl rfl ?_
    repeat (first | (refine r_id ?_; first | refine r_ev tab_ok rfl rfl rfl rfl (by first | exact trivial | exact ⟨by omega, by omega⟩ | omega | exact ⟨by omega, by omega, by omega, by omega⟩ | exact Nat.le_of_ble_eq_true rfl) rfl ?_ | refine r_append tab_ok rfl rfl rfl rfl rfl rfl rfl rfl rfl (by first | omega | (simp; omega)) rfl ?_))
    refine r_mcall_all hS call14 rfl rfl ⟨Sub.refl _, Sub.refl _, trivial⟩ rfl rfl rfl rfl ?_
    repeat (first | (refine r_id ?_; first | refine r_ev tab_ok rfl rfl rfl rfl (by first | exact trivial | exact ⟨by omega, by omega⟩ | omega | exact ⟨by omega, by omega, by omega, by omega⟩ | exact Nat.le_of_ble_eq_true rfl) rfl ?_) | refine r_g rfl rfl rfl ?_)
    refine r_call awake2_ok call12 rfl rfl trivial rfl rfl rfl rfl ?_
    repeat (first | refine thenA_normal ?_ | refine awp_ret ?_ | refine r_done ?_ | (refine r_id ?_; first | refine r_ev tab_ok rfl rfl rfl rfl (by first | exact trivial | exact ⟨by omega, by omega⟩ | omega | exact ⟨by omega, by omega, by omega, by omega⟩ | exact Nat.le_of_ble_eq_true rfl) rfl ?_ | refine r_pick_t rfl rfl rfl rfl rfl rfl rfl ?_) | refine ret1 (by first | exact .inl rfl | exact .inr rfl) rfl rfl rfl ?_)
    exact Sub.refl _
  have hcl : (t :: r).length = r.length + 1 := List.length_cons
  by_cases h4 : ((t :: r)[(0 : Int).toNat]'(Nat.succ_pos _)).kind = 13
  · repeat (first | refine awp_seq ?_ | refine thenA_normal ?_ | refine a_region ?_ | refine r_done ?_ | (refine r_id ?_; first | refine r_ev tab_ok rfl rfl rfl rfl (by first | exact trivial | exact ⟨by omega, by omega⟩ | omega | exact ⟨by omega, by omega, by omega, by omega⟩ | exact Nat.le_of_ble_eq_true rfl) rfl ?_ | refine r_idx tab_ok rfl rfl rfl rfl rfl rfl rfl (by first | exact ⟨by omega, by omega⟩ | (simp; omega)) rfl rfl ?_ | refine r_pick_t rfl rfl rfl rfl rfl rfl rfl ?_ | refine r_pick_f rfl rfl rfl rfl rfl rfl rfl ?_ | refine r_off rfl rfl rfl rfl rfl rfl ?_) | refine awp_cond_t rfl ?_ | refine r_g rfl rfl rfl ?_ | refine r_g rfl rfl (congrArg (fun b => AV.val (.bool b)) (decide_eq_true (by omega))) ?_ | refine r_pick_t rfl rfl (congrArg (fun b => AV.val (.bool b)) (decide_eq_true (by omega))) rfl rfl rfl rfl ?_ | refine r_off rfl rfl (congrArg (fun b => AV.val (.bool b)) (decide_eq_true (by omega))) rfl rfl rfl ?_ | refine r_offu rfl rfl rfl rfl rfl rfl ?_)
    refine r_call awake2_ok call12 rfl rfl trivial rfl rfl rfl rfl ?_
    repeat (first | refine thenA_normal ?_ | refine awp_ret ?_ | refine thenA_ret ?_ | refine r_done ?_ | (refine r_id ?_; first | refine r_ev tab_ok rfl rfl rfl rfl (by first | exact trivial | exact ⟨by omega, by omega⟩ | omega | exact ⟨by omega, by omega, by omega, by omega⟩ | exact Nat.le_of_ble_eq_true rfl) rfl ?_) | refine ret1 (by first | exact .inl rfl | exact .inr rfl) rfl rfl rfl ?_)
    exact Sub.refl _
  have hyl2 : (t :: r).length ≤ 500 := by omega
  clear hyl
  repeat (first | (refine r_id ?_; first | refine r_ev tab_ok rfl rfl rfl rfl (by first | exact trivial | exact ⟨by omega, by omega⟩ | omega | exact ⟨by omega, by omega, by omega, by omega⟩ | exact Nat.le_of_ble_eq_true rfl) rfl ?_ | refine r_idx tab_ok rfl rfl rfl rfl rfl rfl rfl (by first | exact ⟨by omega, by omega⟩ | (simp; omega)) rfl rfl ?_ | refine r_pick_f rfl rfl rfl rfl rfl rfl rfl ?_) | refine r_g rfl rfl rfl ?_ | refine r_g rfl rfl (congrArg (fun b => AV.val (.bool b)) (decide_eq_true (by omega))) ?_ | refine r_g rfl rfl (congrArg (fun b => AV.val (.bool b)) (decide_eq_false (by omega))) ?_ | refine r_pick_t rfl rfl (congrArg (fun b => AV.val (.bool b)) (decide_eq_true (by omega))) rfl rfl rfl rfl ?_)
  repeat (first | (refine r_id ?_; first | refine r_ev_cnd tab_ok rfl rfl rfl rfl rfl rfl (by first | exact fun _ => rfl | exact cs1 | exact cs2 | exact cs3) (by first | exact fun _ => trivial | (intro h; simp at h; first | exact ⟨by omega, by omega⟩ | omega)) rfl ?_ | refine r_or_cnd rfl rfl rfl rfl rfl rfl rfl rfl rfl rfl ?_))
  repeat (first | (refine r_id ?_; first | refine r_ev tab_ok rfl rfl rfl rfl (by first | exact trivial | exact ⟨by omega, by omega⟩ | omega | exact ⟨by omega, by omega, by omega, by omega⟩ | exact Nat.le_of_ble_eq_true rfl) rfl ?_ | refine r_and rfl rfl rfl rfl rfl rfl rfl rfl ?_) | refine r_g rfl rfl (congrArg (fun b => AV.val (.bool b)) (decide_eq_false (by omega))) ?_ | refine r_pick_f rfl rfl (congrArg (fun b => AV.val (.bool b)) (decide_eq_false (by omega))) rfl rfl rfl rfl ?_)
  repeat (first | refine thenA_normal ?_ | refine r_done ?_ | (refine r_id ?_; first | refine r_ev_cnd tab_ok rfl rfl rfl rfl rfl rfl (by first | exact fun _ => rfl | exact cs1 | exact cs2 | exact cs3) (by first | exact fun _ => trivial | (intro h; simp at h; first | exact ⟨by omega, by omega⟩ | omega)) rfl ?_ | refine r_and_cnd rfl rfl rfl rfl rfl rfl rfl rfl rfl rfl ?_ | refine r_or rfl rfl rfl rfl rfl rfl rfl rfl ?_))
  refine awp_cond rfl (fun h => ?_) (fun h => ?_)
  · repeat (first | refine awp_seq ?_ | refine a_region ?_)
    refine r_call awake2_ok call12 rfl rfl trivial rfl rfl rfl rfl ?_
    repeat (first | refine thenA_normal ?_ | refine awp_ret ?_ | refine thenA_ret ?_ | refine r_done ?_ | (refine r_id ?_; first | refine r_ev tab_ok rfl rfl rfl rfl (by first | exact trivial | exact ⟨by omega, by omega⟩ | omega | exact ⟨by omega, by omega, by omega, by omega⟩ | exact Nat.le_of_ble_eq_true rfl) rfl ?_) | refine ret1 (by first | exact .inl rfl | exact .inr rfl) rfl rfl rfl ?_)
    exact Sub.refl _
  have hres : toks (a ++ ⟨#[32]⟩ ++ b) = Z ++ (t :: r) := hJ (by omega) (fun _ _ e => by cases e; exact fun hk => h4 hk) (fin239 h)
  have hS := sameM Z (t :: r) (by omega) hyl2
  repeat (first | refine awp_seq ?_ | refine a_region ?_ | refine awp_skip ?_ | (refine r_id ?_; first | refine r_ev tab_ok rfl rfl rfl rfl (by first | exact trivial | exact ⟨by omega, by omega⟩ | omega | exact ⟨by omega, by omega, by omega, by omega⟩ | exact Nat.le_of_ble_eq_true rfl) rfl ?_))
  refine r_call (show PCalls Tryd.prog 19 [.val (.string (a ++ ⟨#[32]⟩ ++ b))] (.sl 6 ((Z ++ (t :: r)).map tD)) by rw [← hres]; exact all2_ok _ (by rw [ByteArray.size_append]; omega)) call19 rfl rfl ⟨Sub.refl _, trivial⟩ rfl rfl rfl rfl ?_
  repeat (first | (refine r_id ?_; first | refine r_ev tab_ok rfl rfl rfl rfl (by first | exact trivial | exact ⟨by omega, by omega⟩ | omega | exact ⟨by omega, by omega, by omega, by omega⟩ | exact Nat.le_of_ble_eq_true rfl) rfl ?_ | refine r_append tab_ok rfl rfl rfl rfl rfl rfl rfl rfl rfl (by first | omega | (simp; omega)) rfl ?_))
  refine r_mcall_all hS call14 rfl rfl ⟨Sub.refl _, Sub.refl _, trivial⟩ rfl rfl rfl rfl ?_
  repeat (first | (refine r_id ?_; first | refine r_ev tab_ok rfl rfl rfl rfl (by first | exact trivial | exact ⟨by omega, by omega⟩ | omega | exact ⟨by omega, by omega, by omega, by omega⟩ | exact Nat.le_of_ble_eq_true rfl) rfl ?_) | refine r_g rfl rfl rfl ?_)
  refine r_call awake2_ok call12 rfl rfl trivial rfl rfl rfl rfl ?_
  repeat (first | refine thenA_normal ?_ | refine awp_ret ?_ | refine r_done ?_ | (refine r_id ?_; first | refine r_ev tab_ok rfl rfl rfl rfl (by first | exact trivial | exact ⟨by omega, by omega⟩ | omega | exact ⟨by omega, by omega, by omega, by omega⟩ | exact Nat.le_of_ble_eq_true rfl) rfl ?_ | refine r_pick_t rfl rfl rfl rfl rfl rfl rfl ?_) | refine ret1 (by first | exact .inl rfl | exact .inr rfl) rfl rfl rfl ?_)
  exact Sub.refl _
end Go.Proofs.YtbjinibmkkmhkaaDoor
