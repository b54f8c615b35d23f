import Derived.Test.YtiolnmfaeenlmaaGreatDoort6
import Derived.Test.YtiolnmfaeenlmaaGreatDoorr9
/- The program's reader: urls, words, single signs. -/
namespace Go.Proofs.YtiolnmfaeenlmaaGreatDoor
open Go Go.RowKit
set_option maxRecDepth 20000

theorem sg_len {L : List Int} (hN : ∀ x ∈ L, 0 ≤ x) {i : Nat} (hi : i ≤ L.length) (h : sg L i < 0) : i = L.length := by
  rcases Nat.lt_or_ge i L.length with h2 | h2
  · rw [sg, dif_pos ⟨by omega, by simpa using h2⟩] at h
    have := hN _ (List.getElem_mem (by simpa using h2 : (i : Int).toNat < L.length))
    omega
  · omega
theorem badF_white {c : Int} (h : whiteF c = true) : c = 10 ∨ c = 9 ∨ c = 32 := by
  simpa only [whiteF, Bool.or_eq_true, decide_eq_true_eq, or_assoc] using h
set_option maxHeartbeats 8000000 in
theorem purl_ok (L : List Int) (i0 : Nat) (hL : L.length ≤ 1099511627776) (hN : ∀ x ∈ L, 0 ≤ x) (hi : i0 ≤ L.length) : MCalls Tryz.prog 105 [rdP L i0] [.ptr 0 0] [rdP L (urlF L i0).2] (tA (urlF L i0).1) := by
  refine m_start Tryz.func105 Tryz.ntmps105 rfl rfl rfl fun S w β => ?_
  have hwe := wEnd_le L hi
  repeat (first | refine awp_seq ?_ | refine a_region ?_ | refine r_done ?_ | (refine r_id ?_; first | refine r_ev tab_ok rfl rfl rfl rfl byE rfl ?_ | refine r_wr tab_ok rfl rfl rfl rfl rfl ?_))
  refine r_mcall [0] (pwhite_ok L i0 hL hi) call67 rfl rfl ⟨rfl, trivial⟩ (by decide) ⟨Sub.refl _, trivial⟩ rfl rfl rfl rfl rfl rfl rfl ?_
  repeat (first | refine awp_seq ?_ | refine thenA_normal ?_ | refine awp_block ?_ | refine a_region ?_ | refine r_done ?_ | (refine r_id ?_; first | refine r_wr tab_ok rfl rfl rfl rfl rfl ?_))
  rw [urlF, urlE]
  generalize hj : wEnd L i0 = j0 at hwe ⊢
  refine a_loop (σ := GS L.length (uStep L) j0) (fun x => [rdP L x.i, tB tk0, .box 89 [.alt (.val (.pointer none)) (.ptr 2 0), .row 3 0], .row 0 5 1 ((rbL x.out).map bD)]) (fun x => [(0, .ptr 0 0), (2, .ptr 1 0), (3, .ptr 2 0)]) (fun x => L.length - x.i) (GS.start hwe.2.1) (fits_convM byV byV ⟨trivial, trivial⟩) ?_
  intro x
  have hle := x.le
  have hlen := x.len
  have hsz := runesBytes_size_le x.out
  have hwx := wEnd_le L hle
  have hs1 := runesBytes_size_le [sg L (wEnd L x.i)]
  have hs1' : [sg L (wEnd L x.i)].length = 1 := rfl
  have hs2 := runesBytes_size_le [(escE L (wEnd L x.i + 1)).1]
  have hs2' : [(escE L (wEnd L x.i + 1)).1].length = 1 := rfl
  have hrl := rb_len x.out
  have hng := sg_neg hN ((wEnd L x.i : Nat) : Int)
  have hlm : (L.map rD).length = L.length := List.length_map _
  have hw0 : whiteF (sg L x.i) = decide (x.i < wEnd L x.i) := by
    cases hw : whiteF (sg L x.i) with
    | true => exact (decide_eq_true (wEnd_gt L hle hw)).symm
    | false =>
      have hst : wStep L x.i = .inr x.i := if_neg (by rw [hw]; decide)
      have : wEnd L x.i = x.i := by rw [wEnd, goAt_stop hle hst]; rfl
      rw [this]
      exact (decide_eq_false (by omega)).symm
  have hwn : whiteF (sg L x.i) = false → wEnd L x.i = x.i := fun h => by
    rw [h] at hw0
    have := of_decide_eq_false hw0.symm
    omega
  repeat (first | refine awp_seq ?_ | refine awp_block ?_ | refine a_region ?_ | (refine r_id ?_; first | refine r_ev tab_ok rfl rfl rfl rfl byE rfl ?_))
  refine r_mcall [0] (pwhite_ok L x.i hL hle) call67 rfl rfl ⟨rfl, trivial⟩ (by decide) ⟨Sub.refl _, trivial⟩ rfl rfl rfl rfl rfl rfl rfl ?_
  rw [← hw0]
  repeat (first | refine awp_seq ?_ | refine thenA_normal ?_ | refine awp_block ?_ | refine a_region ?_ | refine r_done ?_ | (refine r_id ?_; first | refine r_ev tab_ok rfl rfl rfl rfl byE rfl ?_ | refine r_ev_cnd tab_ok rfl rfl rfl rfl rfl rfl byC (by first | exact fun _ => trivial | (intro h; simp at h; first | exact ⟨by omega, by omega⟩ | omega)) rfl ?_ | refine r_or rfl rfl rfl rfl rfl rfl rfl rfl ?_) | refine r_mro [0] (see_ok _ _ _ hL (by omega) (by omega)) call66 rfl rfl ⟨rfl, trivial⟩ (by decide) ⟨Sub.refl _, Sub.refl _, trivial⟩ rfl rfl rfl rfl rfl rfl ?_)
  rw [Int.add_zero]
  refine awp_cond rfl (fun h => ?_) (fun h => ?_)
  · rw [Bool.or_eq_true, decide_eq_true_eq, decide_eq_true_eq] at h
    have hend : sg L (wEnd L x.i) < 0 ∨ sg L (wEnd L x.i) = 41 := by omega
    obtain ⟨e, he⟩ : ∃ e, e = if sg L (wEnd L x.i) = 41 then wEnd L x.i + 1 else wEnd L x.i := ⟨_, rfl⟩
    have hstop : goAt L.length (uStep L) j0 = (x.out, some (e, true)) := by
      cases hw : whiteF (sg L x.i) with
      | true =>
        have hne : ¬ (sg L x.i < 0 ∨ sg L x.i = 41) := by
          have := badF_white hw
          omega
        have hst : uStep L x.i = .inl ([], wEnd L x.i) := by rw [uStep, if_neg hne, if_pos hw, if_pos hend]
        have hst2 : uStep L (x.next (uStep_goes L) hst).i = .inr (e, true) := by
          show uStep L (wEnd L x.i) = _
          rw [uStep, if_pos hend, he]
        have := (x.next (uStep_goes L) hst).stop hst2
        rw [this]
        show (x.out ++ [], _) = _
        rw [List.append_nil]
      | false =>
        have e0 := hwn hw
        rw [e0] at hend he
        have hst : uStep L x.i = .inr (e, true) := by rw [uStep, if_pos hend, he]
        exact x.stop hst
    rw [hstop]
    have hmin : (min (((wEnd L x.i : Nat) : Int) + 1) (L.length : Int)) = ((e : Nat) : Int) := by
      rw [he]
      split
      · rename_i h41
        have := sg_ge (L := L) (i := wEnd L x.i) (by omega)
        omega
      · rename_i h41
        have := sg_len hN hwx.2.1 (by omega)
        omega
    repeat (first | refine awp_seq ?_)
    refine a_draw mixed_ok (List.replicate 14 1 ++ [2]) (by kernel_rfl) ?_
    repeat (first | refine awp_seq ?_ | refine a_region ?_ | refine r_done' ?_ | (refine r_id ?_; first | refine r_len tab_ok rfl rfl rfl rfl rfl rfl rfl ?_ | refine r_ev tab_ok rfl rfl rfl rfl byE rfl ?_ | refine r_ld tab_ok rfl rfl rfl rfl rfl ?_ | refine r_st tab_ok rfl rfl rfl rfl ?_ | refine r_nilck rfl rfl rfl rfl rfl rfl rfl ?_))
    rw [hmin]
    refine r_mcall [2, 3] (string_ok 0 (rbL x.out) (by omega)) call59 rfl rfl ⟨rfl, rfl, trivial⟩ (by decide) ⟨Sub.refl _, trivial⟩ rfl rfl rfl rfl rfl rfl rfl ?_
    repeat (first | refine thenA_normal ?_ | refine awp_ret ?_ | refine thenA_ret ?_ | refine blockA_ret ?_ | refine r_done ?_ | (refine r_id ?_; first | refine r_st tab_ok rfl rfl rfl rfl ?_ | refine r_build tab_ok rfl rfl rfl rfl rfl rfl ?_))
    exact retM1c tab_ok byO rfl rfl rfl rfl rfl rfl rfl rfl (Sub.refl _)
  rw [Bool.or_eq_false_iff, decide_eq_false_iff_not, decide_eq_false_iff_not] at h
  have hend : ¬ (sg L (wEnd L x.i) < 0 ∨ sg L (wEnd L x.i) = 41) := by omega
  have hin := sg_ge (L := L) (i := wEnd L x.i) (by omega)
  repeat (first | refine awp_seq ?_ | refine thenA_normal ?_ | refine a_region ?_ | refine r_done ?_ | (refine r_id ?_; first | refine r_ev tab_ok rfl rfl rfl rfl byE rfl ?_ | refine r_ev_cnd tab_ok rfl rfl rfl rfl rfl rfl byC (by first | exact fun _ => trivial | (intro h; simp at h; first | exact ⟨by omega, by omega⟩ | omega)) rfl ?_ | refine r_and_cnd rfl rfl rfl rfl rfl rfl rfl rfl rfl rfl ?_ | refine r_or rfl rfl rfl rfl rfl rfl rfl rfl ?_) | refine r_mro_cnd [0] (fun _ => pescaped_ok _ _ _ hL (by omega) (by omega)) call103 rfl rfl rfl rfl byC ⟨rfl, trivial⟩ (by decide) ⟨Sub.refl _, Sub.refl _, trivial⟩ rfl rfl rfl rfl rfl rfl ?_ | refine r_call_cnd (fun _ => podd _) call114 rfl rfl rfl rfl byC ⟨Sub.refl _, trivial⟩ rfl rfl rfl rfl ?_)
  rw [Int.add_zero]
  refine awp_cond rfl (fun h2 => ?_) (fun h2 => ?_)
  · have hstop : goAt L.length (uStep L) j0 = (x.out, some (bEnd L (wEnd L x.i), false)) := by
      cases hw : whiteF (sg L x.i) with
      | true =>
        have hne : ¬ (sg L x.i < 0 ∨ sg L x.i = 41) := by
          have := badF_white hw
          omega
        have hst : uStep L x.i = .inr (bEnd L (wEnd L x.i), false) := by rw [uStep, if_neg hne, if_pos hw, if_neg hend]
        exact x.stop hst
      | false =>
        have e0 := hwn hw
        rw [e0] at hend h2 ⊢
        rw [hw, Bool.false_or] at h2
        have hst : uStep L x.i = .inr (bEnd L x.i, false) := by rw [uStep, if_neg hend, if_neg (by rw [hw]; decide), if_pos h2]
        exact x.stop hst
    rw [hstop]
    repeat (first | refine awp_seq ?_ | refine a_region ?_ | (refine r_id ?_; first | refine r_ev tab_ok rfl rfl rfl rfl byE rfl ?_))
    refine r_mcall [0] (pbad_ok L (wEnd L x.i) hL hN hwx.2.1) call115 rfl rfl ⟨rfl, trivial⟩ (by decide) ⟨Sub.refl _, trivial⟩ rfl rfl rfl rfl rfl rfl rfl ?_
    repeat (first | refine thenA_normal ?_ | refine awp_ret ?_ | refine thenA_ret ?_ | refine blockA_ret ?_ | refine r_done ?_ | (refine r_id ?_; first | refine r_st tab_ok rfl rfl rfl rfl ?_))
    exact retM1c tab_ok byO rfl rfl rfl rfl rfl rfl rfl rfl (Sub.refl _)
  rw [Bool.or_eq_false_iff, Bool.or_eq_false_iff] at h2
  have hw := h2.1.1
  have e0 := hwn hw
  have hb : ¬ (badF (sg L x.i) || (decide (sg L x.i = 92) && !escF L x.i)) = true := by
    rw [e0] at h2
    rw [h2.1.2, h2.2]; decide
  rw [e0] at hend hin hs1 hs1' hs2 hs2' ⊢
  repeat (first | refine awp_seq ?_ | refine thenA_normal ?_ | refine a_region ?_ | refine r_done ?_ | (refine r_id ?_; first | refine r_ev tab_ok rfl rfl rfl rfl byE rfl ?_))
  refine awp_cond_p rfl (fun h3 => ?_) (fun h3 => ?_)
  · have hst : uStep L x.i = .inl ([(escE L (x.i + 1)).1], (escE L (x.i + 1)).2) := by rw [uStep, if_neg hend, if_neg (by rw [hw]; decide), if_neg hb, if_pos h3]
    have hg := uStep_goes L _ _ _ hle hst
    repeat (first | refine a_region ?_ | (refine r_id ?_; first | refine r_ev tab_ok rfl rfl rfl rfl byE rfl ?_))
    refine r_mcall [0] (pescape_ok L x.i hL hN hin) call96 rfl rfl ⟨rfl, trivial⟩ (by decide) ⟨Sub.refl _, trivial⟩ rfl rfl rfl rfl rfl rfl rfl ?_
    refine r_mcall [2, 3] (writeS_ok 0 (rbL x.out) (runesBytes [(escE L (x.i + 1)).1]) (by omega)) call94 rfl rfl ⟨rfl, rfl, trivial⟩ (by decide) ⟨Sub.refl _, Sub.refl _, trivial⟩ rfl rfl rfl rfl rfl rfl rfl ?_
    repeat (first | refine thenA_normal ?_ | refine blockA_normal ?_ | refine r_done ?_)
    refine ⟨x.next (uStep_goes L) hst, by dsimp only [GS.next]; omega, ?_⟩
    dsimp only [GS.next]
    rw [rb_app]
    exact fits_convM byV byV ⟨trivial, trivial⟩
  · have hst : uStep L x.i = .inl ([sg L x.i], x.i + 1) := by rw [uStep, if_neg hend, if_neg (by rw [hw]; decide), if_neg hb, if_neg h3]
    repeat (first | refine awp_seq ?_ | refine a_region ?_ | (refine r_id ?_; first | refine r_ev tab_ok rfl rfl rfl rfl byE rfl ?_) | refine r_call (pPut _) call95 rfl rfl ⟨Sub.refl _, trivial⟩ rfl rfl rfl rfl ?_)
    refine r_mcall [2, 3] (writeS_ok 0 (rbL x.out) (runesBytes [sg L x.i]) (by omega)) call94 rfl rfl ⟨rfl, rfl, trivial⟩ (by decide) ⟨Sub.refl _, Sub.refl _, trivial⟩ rfl rfl rfl rfl rfl rfl rfl ?_
    repeat (first | refine thenA_normal ?_ | refine a_region ?_ | refine blockA_normal ?_ | refine r_done ?_ | (refine r_id ?_; first | refine r_ev tab_ok rfl rfl rfl rfl byE rfl ?_ | refine r_ld tab_ok rfl rfl rfl rfl rfl ?_ | refine r_st tab_ok rfl rfl rfl rfl ?_ | refine r_nilck rfl rfl rfl rfl rfl rfl rfl ?_))
    refine ⟨x.next (uStep_goes L) hst, by dsimp only [GS.next]; omega, ?_⟩
    dsimp only [GS.next]
    rw [rb_app]
    exact fits_convM byV byV ⟨trivial, trivial⟩
set_option maxHeartbeats 8000000 in
theorem pident_ok (L : List Int) (i : Nat) (hL : L.length ≤ 1099511627776) (hN : ∀ x ∈ L, 0 ≤ x) (hi : i ≤ L.length) : MCalls Tryz.prog 73 [rdP L i] [.ptr 0 0] [rdP L (idtF L i).2] (tA (idtF L i).1) := by
  refine m_start Tryz.func73 Tryz.ntmps73 rfl rfl rfl fun S w β => ?_
  have hn := nameEnd_le L hi
  have hnl := nameAt_len L hi
  have hsz := runesBytes_size_le (nameAt L i)
  unfold idtF
  repeat (first | refine awp_seq ?_ | refine a_region ?_ | refine r_done ?_ | (refine r_id ?_; first | refine r_ev tab_ok rfl rfl rfl rfl byE rfl ?_ | refine r_wr tab_ok rfl rfl rfl rfl rfl ?_))
  refine r_mcall [0] (pname_ok L i hL hN hi) call101 rfl rfl ⟨rfl, trivial⟩ (by decide) ⟨Sub.refl _, trivial⟩ rfl rfl rfl rfl rfl rfl rfl ?_
  generalize nameEnd L i = j at hn ⊢
  generalize runesBytes (nameAt L i) = n at hsz ⊢
  repeat (first | refine awp_seq ?_ | refine thenA_normal ?_ | refine a_region ?_ | refine r_done ?_ | (refine r_id ?_; first | refine r_ev tab_ok rfl rfl rfl rfl byE rfl ?_) | refine r_mro [0] (see_ok _ _ _ hL (by omega) (by omega)) call66 rfl rfl ⟨rfl, trivial⟩ (by decide) ⟨Sub.refl _, Sub.refl _, trivial⟩ rfl rfl rfl rfl rfl rfl ?_)
  rw [Int.add_zero]
  refine awp_cond rfl (fun h => ?_) (fun h => ?_)
  · rw [if_neg (by simpa using h)]
    repeat (first | refine awp_seq ?_ | refine thenA_normal ?_ | refine a_region ?_ | refine awp_ret ?_ | refine thenA_ret ?_ | refine r_done ?_ | (refine r_id ?_; first | refine r_ev tab_ok rfl rfl rfl rfl byE rfl ?_ | refine r_st tab_ok rfl rfl rfl rfl ?_ | refine r_build tab_ok rfl rfl rfl rfl rfl rfl ?_))
    exact retM1c tab_ok byO rfl rfl rfl rfl rfl rfl rfl rfl (Sub.refl _)
  have h40 : sg L j = 40 := by simpa using h
  have hin : j < L.length := sg_in (by rw [h40]; decide)
  have hw := wEnd_le L (i := j + 1) hin
  rw [if_pos h40]
  repeat (first | refine awp_seq ?_ | refine a_region ?_ | refine awp_skip ?_ | refine r_done ?_ | (refine r_id ?_; first | refine r_ev tab_ok rfl rfl rfl rfl byE rfl ?_ | refine r_ld tab_ok rfl rfl rfl rfl rfl ?_ | refine r_st tab_ok rfl rfl rfl rfl ?_ | refine r_nilck rfl rfl rfl rfl rfl rfl rfl ?_))
  refine r_call (plower_ok n (by omega)) call39 rfl rfl ⟨Sub.refl _, trivial⟩ rfl rfl rfl rfl ?_
  repeat (first | refine thenA_normal ?_ | refine r_done ?_ | (refine r_id ?_; first | refine r_ev tab_ok rfl rfl rfl rfl byE rfl ?_))
  refine awp_cond rfl (fun h => ?_) (fun h => ?_)
  · rw [if_neg (show ¬ lowS n = urlS by simpa [urlS] using h)]
    repeat (first | refine awp_seq ?_ | refine thenA_normal ?_ | refine a_region ?_ | refine awp_ret ?_ | refine thenA_ret ?_ | refine r_done ?_ | (refine r_id ?_; first | refine r_ev tab_ok rfl rfl rfl rfl byE rfl ?_ | refine r_st tab_ok rfl rfl rfl rfl ?_ | refine r_build tab_ok rfl rfl rfl rfl rfl rfl ?_))
    exact retM1c tab_ok byO rfl rfl rfl rfl rfl rfl rfl rfl (Sub.refl _)
  rw [if_pos (show lowS n = urlS by simpa [urlS] using h)]
  repeat (first | refine awp_seq ?_ | refine a_region ?_ | refine awp_skip ?_ | refine r_done ?_ | (refine r_id ?_; first | refine r_ev tab_ok rfl rfl rfl rfl byE rfl ?_ | refine r_ld tab_ok rfl rfl rfl rfl rfl ?_ | refine r_nilck rfl rfl rfl rfl rfl rfl rfl ?_))
  refine r_mcall [0] (pwhite_ok L (j + 1) hL hin) call67 rfl rfl ⟨rfl, trivial⟩ (by decide) ⟨Sub.refl _, trivial⟩ rfl rfl rfl rfl rfl rfl rfl ?_
  repeat (first | refine awp_seq ?_ | refine thenA_normal ?_ | refine a_region ?_ | refine r_done ?_ | (refine r_id ?_; first | refine r_ev tab_ok rfl rfl rfl rfl byE rfl ?_ | refine r_ev_cnd tab_ok rfl rfl rfl rfl rfl rfl byC (by first | exact fun _ => trivial | (intro h; simp at h; first | exact ⟨by omega, by omega⟩ | omega)) rfl ?_ | refine r_or rfl rfl rfl rfl rfl rfl rfl rfl ?_) | refine r_mro [0] (see_ok _ _ _ hL (by omega) (by omega)) call66 rfl rfl ⟨rfl, trivial⟩ (by decide) ⟨Sub.refl _, Sub.refl _, trivial⟩ rfl rfl rfl rfl rfl rfl ?_ | refine r_mro_cnd [0] (fun _ => see_ok _ _ _ hL (by omega) (by omega)) call66 rfl rfl rfl rfl byC ⟨rfl, trivial⟩ (by decide) ⟨Sub.refl _, Sub.refl _, trivial⟩ rfl rfl rfl rfl rfl rfl ?_)
  rw [Int.add_zero]
  refine awp_cond rfl (fun h3 => ?_) (fun h3 => ?_)
  · rw [if_pos (show sg L (wEnd L (j + 1)) = 34 ∨ sg L (wEnd L (j + 1)) = 39 by simpa using h3)]
    repeat (first | refine awp_seq ?_ | refine thenA_normal ?_ | refine a_region ?_ | refine r_done ?_ | (refine r_id ?_; first | refine r_ev tab_ok rfl rfl rfl rfl byE rfl ?_))
    refine awp_cond_p rfl (fun h4 => ?_) (fun h4 => ?_)
    · have e3 : ((wEnd L (j + 1) : Nat) : Int) - 1 = ((j + 1 + (wEnd L (j + 1) - (j + 1) - 1) : Nat) : Int) := by omega
      repeat (first | refine awp_seq ?_ | refine thenA_normal ?_ | refine a_region ?_ | refine awp_ret ?_ | refine thenA_ret ?_ | refine r_done ?_ | (refine r_id ?_; first | refine r_ev tab_ok rfl rfl rfl rfl byE rfl ?_ | refine r_ld tab_ok rfl rfl rfl rfl rfl ?_ | refine r_st tab_ok rfl rfl rfl rfl ?_ | refine r_build tab_ok rfl rfl rfl rfl rfl rfl ?_ | refine r_nilck rfl rfl rfl rfl rfl rfl rfl ?_))
      rw [e3]
      exact retM1c tab_ok byO rfl rfl rfl rfl rfl rfl rfl rfl (Sub.refl _)
    · have e3 : wEnd L (j + 1) = j + 1 + (wEnd L (j + 1) - (j + 1) - 1) := by omega
      rw [← e3]
      repeat (first | refine awp_seq ?_ | refine thenA_normal ?_ | refine a_region ?_ | refine awp_ret ?_ | refine thenA_ret ?_ | refine awp_skip ?_ | refine r_done ?_ | (refine r_id ?_; first | refine r_ev tab_ok rfl rfl rfl rfl byE rfl ?_ | refine r_st tab_ok rfl rfl rfl rfl ?_ | refine r_build tab_ok rfl rfl rfl rfl rfl rfl ?_))
      exact retM1c tab_ok byO rfl rfl rfl rfl rfl rfl rfl rfl (Sub.refl _)
  · rw [if_neg (show ¬ (sg L (wEnd L (j + 1)) = 34 ∨ sg L (wEnd L (j + 1)) = 39) by simpa using h3)]
    repeat (first | refine awp_seq ?_ | refine a_region ?_ | refine awp_skip ?_ | refine r_done ?_ | (refine r_id ?_; first | refine r_ev tab_ok rfl rfl rfl rfl byE rfl ?_ | refine r_st tab_ok rfl rfl rfl rfl ?_ | refine r_nilck rfl rfl rfl rfl rfl rfl rfl ?_))
    refine r_mcall [0] (purl_ok L (j + 1) hL hN hin) call105 rfl rfl ⟨rfl, trivial⟩ (by decide) ⟨Sub.refl _, trivial⟩ rfl rfl rfl rfl rfl rfl rfl ?_
    repeat (first | refine thenA_normal ?_ | refine awp_ret ?_ | refine r_done ?_ | (refine r_id ?_; first | refine r_st tab_ok rfl rfl rfl rfl ?_))
    exact retM1c tab_ok byO rfl rfl rfl rfl rfl rfl rfl rfl (Sub.refl _)
theorem pdelim_ok (L : List Int) (i : Nat) (hL : L.length ≤ 1099511627776) (hi : i < L.length) : MCalls Tryz.prog 74 [rdP L i] [.ptr 0 0] [rdP L (i + 1 : Nat)] (tA (tkK 9 (runesBytes [sg L i]))) := by
  refine m_start Tryz.func74 Tryz.ntmps74 rfl rfl rfl fun S w β => ?_
  have hsg : sg L i = L[i] := by rw [sg, dif_pos ⟨by omega, by simpa using hi⟩]; rfl
  have e : ((i : Int) + 1 - 1).toNat = i := by omega
  rw [hsg]
  repeat (first | refine awp_seq ?_ | refine a_region ?_ | refine r_done ?_ | (refine r_id ?_; first | refine r_ev tab_ok rfl rfl rfl rfl byE rfl ?_ | refine r_ld tab_ok rfl rfl rfl rfl rfl ?_ | refine r_wr tab_ok rfl rfl rfl rfl rfl ?_ | refine r_st tab_ok rfl rfl rfl rfl ?_ | refine r_nilck rfl rfl rfl rfl rfl rfl rfl ?_))
  refine a_draw mixed_ok (List.replicate 13 1 ++ [2]) (by kernel_rfl) ?_
  repeat (first | refine thenA_normal ?_ | refine awp_ret ?_ | refine r_done' ?_ | (refine r_id ?_; first | refine r_ev tab_ok rfl rfl rfl rfl byE rfl ?_ | refine r_ld tab_ok rfl rfl rfl rfl rfl ?_ | refine r_idx tab_ok rfl rfl rfl rfl rfl rfl rfl (by first | exact ⟨by omega, by omega⟩ | (simp; omega)) rfl rfl ?_ | refine r_st tab_ok rfl rfl rfl rfl ?_ | refine r_build tab_ok rfl rfl rfl rfl rfl rfl ?_ | refine r_nilck rfl rfl rfl rfl rfl rfl rfl ?_) | refine r_call (pPut _) call95 rfl rfl ⟨Sub.refl _, trivial⟩ rfl rfl rfl rfl ?_)
  simp only [e]
  exact retM1c tab_ok byO rfl rfl rfl rfl rfl rfl rfl rfl (Sub.refl _)
def plF (r : Int) : Int := if r = 44 then 18 else if r = 58 then 16 else if r = 59 then 17 else if r = 40 ∨ r = 91 ∨ r = 123 then 19 else if r = 41 ∨ r = 93 ∨ r = 125 then 20 else 0
theorem pplain_ok (r : Int) : PCalls Tryz.prog 75 [iA r] (.val (.int .i64 (plF r))) := by
  refine p_start Tryz.func75 Tryz.ntmps75 rfl rfl rfl fun S w => ?_
  repeat (first | refine awp_seq ?_ | refine thenA_normal ?_ | refine awp_block ?_ | refine a_region ?_ | refine r_done ?_ | (refine r_id ?_; first | refine r_ev tab_ok rfl rfl rfl rfl byE rfl ?_))
  refine awp_cond_p rfl (fun a1 => ?_) (fun a1 => ?_)
  · rw [plF, if_pos a1]
    repeat (first | refine awp_seq ?_ | refine thenA_normal ?_ | refine a_region ?_ | refine awp_ret ?_ | refine thenA_ret ?_ | refine blockA_ret ?_ | refine r_done ?_ | (refine r_id ?_; first | refine r_ev tab_ok rfl rfl rfl rfl byE rfl ?_) | refine ret1 byO rfl rfl rfl ?_)
    exact Sub.refl _
  repeat (first | refine awp_seq ?_ | refine thenA_normal ?_ | refine a_region ?_ | refine r_done ?_ | (refine r_id ?_; first | refine r_ev tab_ok rfl rfl rfl rfl byE rfl ?_))
  refine awp_cond_p rfl (fun a2 => ?_) (fun a2 => ?_)
  · rw [plF, if_neg a1, if_pos a2]
    repeat (first | refine awp_seq ?_ | refine thenA_normal ?_ | refine a_region ?_ | refine awp_ret ?_ | refine thenA_ret ?_ | refine blockA_ret ?_ | refine r_done ?_ | (refine r_id ?_; first | refine r_ev tab_ok rfl rfl rfl rfl byE rfl ?_) | refine ret1 byO rfl rfl rfl ?_)
    exact Sub.refl _
  repeat (first | refine awp_seq ?_ | refine thenA_normal ?_ | refine a_region ?_ | refine r_done ?_ | (refine r_id ?_; first | refine r_ev tab_ok rfl rfl rfl rfl byE rfl ?_))
  refine awp_cond_p rfl (fun a3 => ?_) (fun a3 => ?_)
  · rw [plF, if_neg a1, if_neg a2, if_pos a3]
    repeat (first | refine awp_seq ?_ | refine thenA_normal ?_ | refine a_region ?_ | refine awp_ret ?_ | refine thenA_ret ?_ | refine blockA_ret ?_ | refine r_done ?_ | (refine r_id ?_; first | refine r_ev tab_ok rfl rfl rfl rfl byE rfl ?_) | refine ret1 byO rfl rfl rfl ?_)
    exact Sub.refl _
  repeat (first | refine awp_seq ?_ | refine thenA_normal ?_ | refine a_region ?_ | refine r_done ?_ | (refine r_id ?_; first | refine r_ev tab_ok rfl rfl rfl rfl byE rfl ?_))
  refine awp_cut ⟨[], [(3, .val (.int .i32 r)), (10, .val (.bool (decide (r = 40 ∨ r = 91 ∨ r = 123))))]⟩ ?_ ?_
  · refine awp_cond_p rfl (fun b1 => ?_) (fun b1 => ?_)
    · repeat (first | refine awp_skip ?_)
      exact ⟨rfl, fits_conv byV ⟨c_sub rfl (Sub.refl _) rfl, c_sub rfl (Sub.of_eq (show AV.val (.bool (decide (r = 40))) = AV.val (.bool (decide (r = 40 ∨ r = 91 ∨ r = 123))) by simp [b1])) rfl, trivial⟩⟩
    repeat (first | refine awp_seq ?_ | refine thenA_normal ?_ | refine a_region ?_ | refine r_done ?_ | (refine r_id ?_; first | refine r_ev tab_ok rfl rfl rfl rfl byE rfl ?_))
    refine awp_cond_p rfl (fun b2 => ?_) (fun b2 => ?_)
    · repeat (first | refine awp_skip ?_)
      exact ⟨rfl, fits_conv byV ⟨c_sub rfl (Sub.refl _) rfl, c_sub rfl (Sub.of_eq (show AV.val (.bool (decide (r = 91))) = AV.val (.bool (decide (r = 40 ∨ r = 91 ∨ r = 123))) by simp [b2])) rfl, trivial⟩⟩
    repeat (first | refine a_region ?_ | refine r_done ?_ | (refine r_id ?_; first | refine r_ev tab_ok rfl rfl rfl rfl byE rfl ?_))
    exact ⟨rfl, fits_conv byV ⟨c_sub rfl (Sub.refl _) rfl, c_sub rfl (Sub.of_eq (show AV.val (.bool (decide (r = 123))) = AV.val (.bool (decide (r = 40 ∨ r = 91 ∨ r = 123))) by congr 2; rw [decide_eq_decide]; omega)) rfl, trivial⟩⟩
  refine awp_cond_p rfl (fun a4 => ?_) (fun a4 => ?_)
  · rw [plF, if_neg a1, if_neg a2, if_neg a3, if_pos a4]
    repeat (first | refine awp_seq ?_ | refine thenA_normal ?_ | refine a_region ?_ | refine awp_ret ?_ | refine thenA_ret ?_ | refine blockA_ret ?_ | refine r_done ?_ | (refine r_id ?_; first | refine r_ev tab_ok rfl rfl rfl rfl byE rfl ?_) | refine ret1 byO rfl rfl rfl ?_)
    exact Sub.refl _
  repeat (first | refine awp_seq ?_ | refine thenA_normal ?_ | refine a_region ?_ | refine r_done ?_ | (refine r_id ?_; first | refine r_ev tab_ok rfl rfl rfl rfl byE rfl ?_))
  refine awp_cut ⟨[], [(14, .val (.bool (decide (r = 41 ∨ r = 93 ∨ r = 125))))]⟩ ?_ ?_
  · refine awp_cond_p rfl (fun b1 => ?_) (fun b1 => ?_)
    · repeat (first | refine awp_skip ?_)
      exact ⟨rfl, fits_conv byV ⟨c_sub rfl (Sub.of_eq (show AV.val (.bool (decide (r = 41))) = AV.val (.bool (decide (r = 41 ∨ r = 93 ∨ r = 125))) by simp [b1])) rfl, trivial⟩⟩
    repeat (first | refine awp_seq ?_ | refine thenA_normal ?_ | refine a_region ?_ | refine r_done ?_ | (refine r_id ?_; first | refine r_ev tab_ok rfl rfl rfl rfl byE rfl ?_))
    refine awp_cond_p rfl (fun b2 => ?_) (fun b2 => ?_)
    · repeat (first | refine awp_skip ?_)
      exact ⟨rfl, fits_conv byV ⟨c_sub rfl (Sub.of_eq (show AV.val (.bool (decide (r = 93))) = AV.val (.bool (decide (r = 41 ∨ r = 93 ∨ r = 125))) by simp [b2])) rfl, trivial⟩⟩
    repeat (first | refine a_region ?_ | refine r_done ?_ | (refine r_id ?_; first | refine r_ev tab_ok rfl rfl rfl rfl byE rfl ?_))
    exact ⟨rfl, fits_conv byV ⟨c_sub rfl (Sub.of_eq (show AV.val (.bool (decide (r = 125))) = AV.val (.bool (decide (r = 41 ∨ r = 93 ∨ r = 125))) by congr 2; rw [decide_eq_decide]; omega)) rfl, trivial⟩⟩
  refine awp_cond_p rfl (fun a5 => ?_) (fun a5 => ?_)
  · rw [plF, if_neg a1, if_neg a2, if_neg a3, if_neg a4, if_pos a5]
    repeat (first | refine awp_seq ?_ | refine thenA_normal ?_ | refine a_region ?_ | refine awp_ret ?_ | refine thenA_ret ?_ | refine blockA_ret ?_ | refine r_done ?_ | (refine r_id ?_; first | refine r_ev tab_ok rfl rfl rfl rfl byE rfl ?_) | refine ret1 byO rfl rfl rfl ?_)
    exact Sub.refl _
  · rw [plF, if_neg a1, if_neg a2, if_neg a3, if_neg a4, if_neg a5]
    repeat (first | refine awp_seq ?_ | refine thenA_normal ?_ | refine a_region ?_ | refine awp_ret ?_ | refine awp_skip ?_ | refine r_done ?_ | (refine r_id ?_; first | refine r_ev tab_ok rfl rfl rfl rfl byE rfl ?_) | refine ret1 byO rfl rfl rfl ?_)
    exact Sub.refl _
end Go.Proofs.YtiolnmfaeenlmaaGreatDoor

/- The program's reader: comments; marked tokens; the next token. -/
namespace Go.Proofs.YtiolnmfaeenlmaaGreatDoor
open Go Go.RowKit
set_option maxRecDepth 20000

theorem retM2ct {P : Program} {fn : Func} {n : Nat} {r1 r2 x y : AV} {e : Exit} {M M1 : List AB} {F : List (Nat × AV)} {t u : Tmp} {ty : TypeId} {te : TE} {i off e' : Nat} {cells : List AV} {tab : List (Nat × TE)} (ht : TyTab P tab) (he : e = .normal ∨ e = .ret) (hr : fn.results.toList = [.cell t ty, .tmp u]) (hte : tget tab ty = some te)
    (hp : look F t = .ptr i off) (hMi : M[i]? = some (.box e' cells)) (hx : loadAV te (cells.drop off) = some x) (hy : nf (look F u) = some y) (hf : (x.under n && y.under n) = true) (hM : M.take n = M1) (hu : M1.all (AB.under n) = true) (h : Sub x r1) (k : Sub y r2) : retM P fn n M1 (.tup [r1, r2]) e ⟨M, F⟩ := by
  rw [Bool.and_eq_true] at hf
  refine ⟨he, hM, hu, [x, y], by rw [hr]; exact .cons (.cell (ht.get hte) hp hMi hx hf.1) (.cons (.tmp (by rw [nf_eq hy]; exact Sub.refl _) (by rw [nf_eq hy]; exact hf.2)) .nil), ?_⟩
  rintro M β w imm v ⟨cs, h1, ⟨v1, r, e1, s1, v2, r', e2, s2, s3⟩⟩
  exact ⟨cs, h1, v1, r, e1, h _ _ _ _ _ s1, v2, r', e2, k _ _ _ _ _ s2, s3⟩
def slS : ByteArray := ⟨#[47, 42]⟩
def stS : ByteArray := ⟨#[42, 47]⟩
def cdcS : ByteArray := ⟨#[45, 45, 62]⟩
def cdoS : ByteArray := ⟨#[60, 33, 45, 45]⟩
theorem asc_sl : ∀ j (h : j < slS.size), (slS[j]'h).toNat < 128 := by decide
theorem asc_st : ∀ j (h : j < stS.size), (stS[j]'h).toNat < 128 := by decide
theorem asc_cdc : ∀ j (h : j < cdcS.size), (cdcS[j]'h).toNat < 128 := by decide
theorem asc_cdo : ∀ j (h : j < cdoS.size), (cdoS[j]'h).toNat < 128 := by decide
theorem is_sl (L : List Int) (i : Nat) : isF L i slS.data.toList = (decide (sg L i = 47) && decide (sg L ((i : Int) + 1) = 42)) := by
  show (decide (sg L i = 47) && (decide (sg L ((i + 1 : Nat) : Int) = 42) && true)) = _
  rw [Bool.and_true]; rfl
theorem is_st (L : List Int) (i : Nat) : isF L i stS.data.toList = (decide (sg L i = 42) && decide (sg L ((i : Int) + 1) = 47)) := by
  show (decide (sg L i = 42) && (decide (sg L ((i + 1 : Nat) : Int) = 47) && true)) = _
  rw [Bool.and_true]; rfl
theorem is_cdc (L : List Int) (i : Nat) : isF L i cdcS.data.toList = cdcB L i := by
  show (decide (sg L i = 45) && (decide (sg L ((i + 1 : Nat) : Int) = 45) && (decide (sg L ((i + 1 + 1 : Nat) : Int) = 62) && true))) = _
  rw [Bool.and_true, cdcB, Bool.and_assoc]; rfl
theorem is_cdo (L : List Int) (i : Nat) : isF L i cdoS.data.toList = cdoB L i := by
  show (decide (sg L i = 60) && (decide (sg L ((i + 1 : Nat) : Int) = 33) && (decide (sg L ((i + 1 + 1 : Nat) : Int) = 45) && (decide (sg L ((i + 1 + 1 + 1 : Nat) : Int) = 45) && true)))) = _
  rw [Bool.and_true, cdoB, Bool.and_assoc, Bool.and_assoc]; rfl
theorem pis_sl (L : List Int) (i : Nat) (hL : L.length ≤ 1099511627776) (hi : i ≤ L.length) : MCalls Tryz.prog 92 [rdP L i] [.ptr 0 0, .val (.string ⟨#[47, 42]⟩)] [rdP L i] (.val (.bool (decide (sg L i = 47) && decide (sg L ((i : Int) + 1) = 42)))) := by
  rw [← is_sl]; exact pis_ok L i slS hL hi (by decide) asc_sl
theorem pis_st (L : List Int) (i : Nat) (hL : L.length ≤ 1099511627776) (hi : i ≤ L.length) : MCalls Tryz.prog 92 [rdP L i] [.ptr 0 0, .val (.string ⟨#[42, 47]⟩)] [rdP L i] (.val (.bool (decide (sg L i = 42) && decide (sg L ((i : Int) + 1) = 47)))) := by
  rw [← is_st]; exact pis_ok L i stS hL hi (by decide) asc_st
theorem pis_cdc (L : List Int) (i : Nat) (hL : L.length ≤ 1099511627776) (hi : i ≤ L.length) : MCalls Tryz.prog 92 [rdP L i] [.ptr 0 0, .val (.string ⟨#[45, 45, 62]⟩)] [rdP L i] (.val (.bool (cdcB L i))) := by
  rw [← is_cdc]; exact pis_ok L i cdcS hL hi (by decide) asc_cdc
theorem pis_cdo (L : List Int) (i : Nat) (hL : L.length ≤ 1099511627776) (hi : i ≤ L.length) : MCalls Tryz.prog 92 [rdP L i] [.ptr 0 0, .val (.string ⟨#[60, 33, 45, 45]⟩)] [rdP L i] (.val (.bool (cdoB L i))) := by
  rw [← is_cdo]; exact pis_ok L i cdoS hL hi (by decide) asc_cdo
set_option maxHeartbeats 8000000 in
theorem pcomments_ok (L : List Int) (i0 : Nat) (hL : L.length ≤ 1099511627776) (hN : ∀ x ∈ L, 0 ≤ x) (hi : i0 ≤ L.length) : MCalls Tryz.prog 65 [rdP L i0] [.ptr 0 0] [rdP L (cEnd L i0)] (.tup []) := by
  refine m_start Tryz.func65 Tryz.ntmps65 rfl rfl rfl fun S w β => ?_
  have hlm : (L.map rD).length = L.length := List.length_map _
  repeat (first | refine awp_block ?_)
  refine a_loop (σ := GS L.length (cStep L) i0) (fun y => [rdP L y.i]) (fun y => [(0, .ptr 0 0)]) (fun y => L.length - y.i) (GS.start hi) (fits_convM byV byV ⟨trivial, trivial⟩) ?_
  intro y
  have hyle := y.le
  repeat (first | refine awp_seq ?_ | refine a_region ?_ | (refine r_id ?_; first | refine r_ev tab_ok rfl rfl rfl rfl byE rfl ?_))
  refine r_mro [0] (pis_sl L y.i hL hyle) call92 rfl rfl ⟨rfl, trivial⟩ (by decide) ⟨Sub.refl _, Sub.refl _, trivial⟩ rfl rfl rfl rfl rfl rfl ?_
  repeat (first | refine thenA_normal ?_ | refine r_done ?_)
  refine awp_cond rfl (fun h => ?_) (fun h => ?_)
  · have hc : sg L y.i = 47 ∧ sg L (y.i + 1) = 42 := by simpa using h
    have hin := sg_at (L := L) (i := y.i) (k := 1) (c := 42) (by rw [decide_eq_true_eq]; exact hc.2) (by decide)
    have hst : cStep L y.i = .inl ([], min (eEnd L (y.i + 2) + 2) L.length) := if_pos hc
    have hg := cStep_goes L _ _ _ hyle hst
    repeat (first | refine awp_seq ?_ | refine thenA_normal ?_ | refine awp_block ?_ | refine a_region ?_ | refine awp_skip ?_ | refine r_done ?_ | (refine r_id ?_; first | refine r_ev tab_ok rfl rfl rfl rfl byE rfl ?_ | refine r_ld tab_ok rfl rfl rfl rfl rfl ?_ | refine r_st tab_ok rfl rfl rfl rfl ?_ | refine r_nilck rfl rfl rfl rfl rfl rfl rfl ?_))
    refine a_loop (σ := GS L.length (eStep L) (y.i + 2)) (fun z => [rdP L z.i]) (fun y => [(0, .ptr 0 0)]) (fun z => L.length - z.i) (GS.start (by omega)) (fits_convM byV byV ⟨trivial, trivial⟩) ?_
    intro z
    have hzle := z.le
    have hng := sg_neg hN (z.i : Int)
    repeat (first | refine awp_seq ?_ | refine a_region ?_ | (refine r_id ?_; first | refine r_ev tab_ok rfl rfl rfl rfl byE rfl ?_ | refine r_ev_cnd tab_ok rfl rfl rfl rfl rfl rfl byC (by first | exact fun _ => trivial | (intro h; simp at h; first | exact ⟨by omega, by omega⟩ | omega)) rfl ?_) | refine r_mro [0] (see_ok _ _ _ hL (by omega) (by omega)) call66 rfl rfl ⟨rfl, trivial⟩ (by decide) ⟨Sub.refl _, Sub.refl _, trivial⟩ rfl rfl rfl rfl rfl rfl ?_)
    rw [Int.add_zero]
    refine r_mro_cnd [0] (fun _ => pis_st L z.i hL hzle) call92 rfl rfl rfl rfl byC ⟨rfl, trivial⟩ (by decide) ⟨Sub.refl _, Sub.refl _, trivial⟩ rfl rfl rfl rfl rfl rfl ?_
    repeat (first | refine thenA_normal ?_ | refine r_done ?_ | (refine r_id ?_; first | refine r_ev_cnd tab_ok rfl rfl rfl rfl rfl rfl byC (by first | exact fun _ => trivial | (intro h; simp at h; first | exact ⟨by omega, by omega⟩ | omega)) rfl ?_ | refine r_and rfl rfl rfl rfl rfl rfl rfl rfl ?_))
    refine awp_cond rfl (fun h2 => ?_) (fun h2 => ?_)
    · have he : 0 ≤ sg L z.i ∧ (sg L z.i ≠ 42 ∨ sg L (z.i + 1) ≠ 47) := by
        simp only [Bool.and_eq_true, Bool.not_eq_true', decide_eq_false_iff_not, Bool.and_eq_false_iff] at h2
        omega
      have hst : eStep L z.i = .inl ([], z.i + 1) := if_pos he
      have hg := eStep_goes L _ _ _ hzle hst
      repeat (first | refine thenA_normal ?_ | refine awp_block ?_ | refine a_region ?_ | refine blockA_normal ?_ | refine awp_skip ?_ | refine r_done ?_ | (refine r_id ?_; first | refine r_ev tab_ok rfl rfl rfl rfl byE rfl ?_ | refine r_ld tab_ok rfl rfl rfl rfl rfl ?_ | refine r_st tab_ok rfl rfl rfl rfl ?_ | refine r_nilck rfl rfl rfl rfl rfl rfl rfl ?_))
      exact ⟨z.next (eStep_goes L) hst, by dsimp only [GS.next]; omega, fits_convM byV byV ⟨trivial, trivial⟩⟩
    have he : ¬ (0 ≤ sg L z.i ∧ (sg L z.i ≠ 42 ∨ sg L (z.i + 1) ≠ 47)) := by
      simp only [Bool.and_eq_false_iff, Bool.not_eq_false', decide_eq_true_eq, Bool.and_eq_true] at h2
      omega
    have hst2 : eStep L z.i = .inr z.i := if_neg he
    have hz0 : eEnd L (y.i + 2) = z.i := by rw [eEnd, z.stop hst2]; rfl
    rw [hz0] at hst hg
    repeat (first | refine thenA_normal ?_ | refine awp_exit ?_ | refine thenA_exit ?_ | refine blockA_hit rfl ?_)
    refine a_draw mixed_ok (List.replicate 14 1 ++ [2]) (by kernel_rfl) ?_
    have em : (min ((z.i : Int) + 2) (L.length : Int)) = ((min (z.i + 2) L.length : Nat) : Int) := by omega
    repeat (first | refine thenA_normal ?_ | refine blockA_normal ?_ | refine r_done' ?_ | (refine r_id ?_; first | refine r_len tab_ok rfl rfl rfl rfl rfl rfl rfl ?_ | refine r_ev tab_ok rfl rfl rfl rfl byE rfl ?_ | refine r_ld tab_ok rfl rfl rfl rfl rfl ?_ | refine r_st tab_ok rfl rfl rfl rfl ?_ | refine r_nilck rfl rfl rfl rfl rfl rfl rfl ?_))
    rw [em]
    exact ⟨y.next (cStep_goes L) hst, by dsimp only [GS.next]; omega, fits_convM byV byV ⟨trivial, trivial⟩⟩
  have hc : ¬ (sg L y.i = 47 ∧ sg L (y.i + 1) = 42) := by simpa using h
  have hst : cStep L y.i = .inr y.i := if_neg hc
  have hy0 : cEnd L i0 = y.i := by rw [cEnd, y.stop hst]; rfl
  rw [hy0]
  repeat (first | refine awp_exit ?_ | refine thenA_exit ?_ | refine blockA_hit rfl ?_ | exact retM0 byO rfl rfl rfl)
def markF (L : List Int) (i : Nat) : (Tk × Bool) × Nat :=
  if hashB L i = true then ((⟨4, runesBytes (nameAt L (i + 1)), 0, false, false, namesF L (i + 1)⟩, true), nameEnd L (i + 1))
  else if atB L i = true then ((tkK 3 (runesBytes (nameAt L (i + 1))), true), nameEnd L (i + 1))
  else if cdcB L i = true then ((tkK 15 ⟨#[]⟩, true), i + 3)
  else if cdoB L i = true then ((tkK 14 ⟨#[]⟩, true), i + 4) else ((tk0, false), i)
set_option maxHeartbeats 8000000 in
theorem pmarked_ok (L : List Int) (i : Nat) (hL : L.length ≤ 1099511627776) (hN : ∀ x ∈ L, 0 ≤ x) (hi : i < L.length) : MCalls Tryz.prog 71 [rdP L i] [.ptr 0 0] [rdP L (markF L i).2] (.tup [tA (markF L i).1.1, .val (.bool (markF L i).1.2)]) := by
  refine m_start Tryz.func71 Tryz.ntmps71 rfl rfl rfl fun S w β => ?_
  repeat (first | refine awp_seq ?_ | refine thenA_normal ?_ | refine awp_block ?_ | refine a_region ?_ | refine r_done ?_ | (refine r_id ?_; first | refine r_ev tab_ok rfl rfl rfl rfl byE rfl ?_ | refine r_wr tab_ok rfl rfl rfl rfl rfl ?_ | refine r_ev_cnd tab_ok rfl rfl rfl rfl rfl rfl byC (by first | exact fun _ => trivial | (intro h; simp at h; first | exact ⟨by omega, by omega⟩ | omega)) rfl ?_ | refine r_or_cnd rfl rfl rfl rfl rfl rfl rfl rfl rfl rfl ?_ | refine r_and rfl rfl rfl rfl rfl rfl rfl rfl ?_) | refine r_mro [0] (see_ok _ _ _ hL (by omega) (by omega)) call66 rfl rfl ⟨rfl, trivial⟩ (by decide) ⟨Sub.refl _, Sub.refl _, trivial⟩ rfl rfl rfl rfl rfl rfl ?_ | refine r_mro_cnd [0] (fun _ => see_ok _ _ _ hL (by omega) (by omega)) call66 rfl rfl rfl rfl byC ⟨rfl, trivial⟩ (by decide) ⟨Sub.refl _, Sub.refl _, trivial⟩ rfl rfl rfl rfl rfl rfl ?_ | refine r_mro_cnd [0] (fun _ => pescaped_ok _ _ _ hL (by omega) (by omega)) call103 rfl rfl rfl rfl byC ⟨rfl, trivial⟩ (by decide) ⟨Sub.refl _, Sub.refl _, trivial⟩ rfl rfl rfl rfl rfl rfl ?_ | refine r_call_cnd (fun _ => pName _) call102 rfl rfl rfl rfl byC ⟨Sub.refl _, trivial⟩ rfl rfl rfl rfl ?_)
  rw [Int.add_zero]
  refine awp_cond rfl (fun a1 => ?_) (fun a1 => ?_)
  · rw [markF, if_pos (show hashB L i = true from a1)]
    repeat (first | refine awp_seq ?_ | refine a_region ?_ | refine r_done ?_ | (refine r_id ?_; first | refine r_ev tab_ok rfl rfl rfl rfl byE rfl ?_ | refine r_ld tab_ok rfl rfl rfl rfl rfl ?_ | refine r_st tab_ok rfl rfl rfl rfl ?_ | refine r_nilck rfl rfl rfl rfl rfl rfl rfl ?_) | refine r_mro [0] (pbegins_ok _ _ _ hL (by omega) (by omega)) call72 rfl rfl ⟨rfl, trivial⟩ (by decide) ⟨Sub.refl _, Sub.refl _, trivial⟩ rfl rfl rfl rfl rfl rfl ?_)
    refine r_mcall [0] (pname_ok L (i + 1) hL hN hi) call101 rfl rfl ⟨rfl, trivial⟩ (by decide) ⟨Sub.refl _, trivial⟩ rfl rfl rfl rfl rfl rfl rfl ?_
    repeat (first | refine thenA_normal ?_ | refine awp_ret ?_ | refine thenA_ret ?_ | refine blockA_ret ?_ | refine r_done ?_ | (refine r_id ?_; first | refine r_ev tab_ok rfl rfl rfl rfl byE rfl ?_ | refine r_st tab_ok rfl rfl rfl rfl ?_ | refine r_build tab_ok rfl rfl rfl rfl rfl rfl ?_))
    exact retM2ct tab_ok byO rfl rfl rfl rfl rfl rfl rfl rfl rfl (Sub.refl _) (Sub.refl _)
  rw [markF, if_neg (show ¬ hashB L i = true by rw [show hashB L i = false from a1]; decide)]
  repeat (first | refine awp_seq ?_ | refine thenA_normal ?_ | refine a_region ?_ | refine r_done ?_ | (refine r_id ?_; first | refine r_ev tab_ok rfl rfl rfl rfl byE rfl ?_ | refine r_ev_cnd tab_ok rfl rfl rfl rfl rfl rfl byC (by first | exact fun _ => trivial | (intro h; simp at h; first | exact ⟨by omega, by omega⟩ | omega)) rfl ?_ | refine r_and rfl rfl rfl rfl rfl rfl rfl rfl ?_) | refine r_mro_cnd [0] (fun _ => pbegins_ok _ _ _ hL (by omega) (by omega)) call72 rfl rfl rfl rfl byC ⟨rfl, trivial⟩ (by decide) ⟨Sub.refl _, Sub.refl _, trivial⟩ rfl rfl rfl rfl rfl rfl ?_)
  refine awp_cond rfl (fun a2 => ?_) (fun a2 => ?_)
  · rw [if_pos (show atB L i = true from a2)]
    repeat (first | refine awp_seq ?_ | refine a_region ?_ | refine r_done ?_ | (refine r_id ?_; first | refine r_ev tab_ok rfl rfl rfl rfl byE rfl ?_ | refine r_ld tab_ok rfl rfl rfl rfl rfl ?_ | refine r_st tab_ok rfl rfl rfl rfl ?_ | refine r_nilck rfl rfl rfl rfl rfl rfl rfl ?_))
    refine r_mcall [0] (pname_ok L (i + 1) hL hN hi) call101 rfl rfl ⟨rfl, trivial⟩ (by decide) ⟨Sub.refl _, trivial⟩ rfl rfl rfl rfl rfl rfl rfl ?_
    repeat (first | refine thenA_normal ?_ | refine awp_ret ?_ | refine thenA_ret ?_ | refine blockA_ret ?_ | refine r_done ?_ | (refine r_id ?_; first | refine r_ev tab_ok rfl rfl rfl rfl byE rfl ?_ | refine r_st tab_ok rfl rfl rfl rfl ?_ | refine r_build tab_ok rfl rfl rfl rfl rfl rfl ?_))
    exact retM2ct tab_ok byO rfl rfl rfl rfl rfl rfl rfl rfl rfl (Sub.refl _) (Sub.refl _)
  rw [if_neg (show ¬ atB L i = true by rw [show atB L i = false from a2]; decide)]
  repeat (first | refine awp_seq ?_ | refine a_region ?_ | (refine r_id ?_; first | refine r_ev tab_ok rfl rfl rfl rfl byE rfl ?_))
  refine r_mro [0] (pis_cdc L i hL (by omega)) call92 rfl rfl ⟨rfl, trivial⟩ (by decide) ⟨Sub.refl _, Sub.refl _, trivial⟩ rfl rfl rfl rfl rfl rfl ?_
  repeat (first | refine thenA_normal ?_ | refine r_done ?_ | (refine r_id ?_; first | refine r_ev tab_ok rfl rfl rfl rfl byE rfl ?_))
  refine awp_cond rfl (fun a3 => ?_) (fun a3 => ?_)
  · rw [if_pos a3]
    repeat (first | refine awp_seq ?_ | refine thenA_normal ?_ | refine a_region ?_ | refine awp_ret ?_ | refine thenA_ret ?_ | refine blockA_ret ?_ | refine r_done ?_ | (refine r_id ?_; first | refine r_ev tab_ok rfl rfl rfl rfl byE rfl ?_ | refine r_ld tab_ok rfl rfl rfl rfl rfl ?_ | refine r_st tab_ok rfl rfl rfl rfl ?_ | refine r_build tab_ok rfl rfl rfl rfl rfl rfl ?_ | refine r_nilck rfl rfl rfl rfl rfl rfl rfl ?_))
    exact retM2ct tab_ok byO rfl rfl rfl rfl rfl rfl rfl rfl rfl (Sub.refl _) (Sub.refl _)
  rw [if_neg (by rw [a3]; decide)]
  repeat (first | refine awp_seq ?_ | refine a_region ?_ | (refine r_id ?_; first | refine r_ev tab_ok rfl rfl rfl rfl byE rfl ?_))
  refine r_mro [0] (pis_cdo L i hL (by omega)) call92 rfl rfl ⟨rfl, trivial⟩ (by decide) ⟨Sub.refl _, Sub.refl _, trivial⟩ rfl rfl rfl rfl rfl rfl ?_
  repeat (first | refine thenA_normal ?_ | refine r_done ?_ | (refine r_id ?_; first | refine r_ev tab_ok rfl rfl rfl rfl byE rfl ?_))
  refine awp_cond rfl (fun a4 => ?_) (fun a4 => ?_)
  · rw [if_pos a4]
    repeat (first | refine awp_seq ?_ | refine thenA_normal ?_ | refine a_region ?_ | refine awp_ret ?_ | refine thenA_ret ?_ | refine blockA_ret ?_ | refine r_done ?_ | (refine r_id ?_; first | refine r_ev tab_ok rfl rfl rfl rfl byE rfl ?_ | refine r_ld tab_ok rfl rfl rfl rfl rfl ?_ | refine r_st tab_ok rfl rfl rfl rfl ?_ | refine r_build tab_ok rfl rfl rfl rfl rfl rfl ?_ | refine r_nilck rfl rfl rfl rfl rfl rfl rfl ?_))
    exact retM2ct tab_ok byO rfl rfl rfl rfl rfl rfl rfl rfl rfl (Sub.refl _) (Sub.refl _)
  rw [if_neg (by rw [a4]; decide)]
  repeat (first | refine awp_seq ?_ | refine thenA_normal ?_ | refine a_region ?_ | refine awp_ret ?_ | refine awp_skip ?_ | refine r_done ?_ | (refine r_id ?_; first | refine r_ev tab_ok rfl rfl rfl rfl byE rfl ?_ | refine r_st tab_ok rfl rfl rfl rfl ?_ | refine r_build tab_ok rfl rfl rfl rfl rfl rfl ?_))
  exact retM2ct tab_ok byO rfl rfl rfl rfl rfl rfl rfl rfl rfl (Sub.refl _) (Sub.refl _)
end Go.Proofs.YtiolnmfaeenlmaaGreatDoor

/- The program's reader: the next token; all tokens are the document's. -/
namespace Go.Proofs.YtiolnmfaeenlmaaGreatDoor
open Go Go.RowKit
set_option maxRecDepth 20000

theorem tokF_white {L : List Int} {i : Nat} (h : whiteF (sg L i) = true) : tokF L i = (tkK 13 ⟨#[]⟩, wEnd L i) := by
  have h1 := badF_white h
  rw [tokF, if_neg (plI_no (by omega)), if_pos h]
theorem tokF_quote {L : List Int} {i : Nat} (h : sg L i = 34 ∨ sg L i = 39) : tokF L i = quoF (sg L i) L (i + 1) := by
  have hw : ¬ whiteF (sg L i) = true := fun hw => by have := badF_white hw; omega
  rw [tokF, if_neg (plI_no (by omega)), if_neg hw, if_pos h]
theorem nums_head {L : List Int} {i : Nat} (h : numsF L i = true) : sg L i = 43 ∨ sg L i = 45 ∨ sg L i = 46 ∨ (48 ≤ sg L i ∧ sg L i ≤ 57) := by
  rw [numsF] at h
  by_cases hs : sg L i = 43 ∨ sg L i = 45
  · omega
  · rw [if_neg hs, Int.add_zero] at h
    simp only [digF, Bool.or_eq_true, Bool.and_eq_true, decide_eq_true_eq] at h
    omega
theorem tokF_num {L : List Int} {i : Nat} (h : numsF L i = true) : tokF L i = numF L i := by
  have h1 := nums_head h
  have hw : ¬ whiteF (sg L i) = true := fun hw => by have := badF_white hw; omega
  have hh : ¬ hashB L i = true := by simp only [hashB, Bool.and_eq_true, decide_eq_true_eq]; omega
  have hn : numB L i = true := by
    rw [numB, h, Bool.and_true]
    simp only [digF, Bool.or_eq_true, Bool.and_eq_true, decide_eq_true_eq]
    omega
  rw [tokF, if_neg (plI_no (by omega)), if_neg hw, if_neg (by omega), if_neg hh, if_pos hn]
theorem mark_tok {L : List Int} {i : Nat} (hn : numsF L i = false) (h : (markF L i).1.2 = true) : tokF L i = ((markF L i).1.1, (markF L i).2) := by
  have hnb : ¬ numB L i = true := by rw [numB, hn, Bool.and_false]; decide
  rw [markF] at h ⊢
  by_cases a1 : hashB L i = true
  · have h1 : sg L i = 35 := by rw [hashB, Bool.and_eq_true, decide_eq_true_eq] at a1; exact a1.1
    have hw : ¬ whiteF (sg L i) = true := fun hw => by have := badF_white hw; omega
    rw [if_pos a1, tokF, if_neg (plI_no (by omega)), if_neg hw, if_neg (by omega), if_pos a1]
  rw [if_neg a1] at h ⊢
  by_cases a2 : atB L i = true
  · have h1 : sg L i = 64 := by rw [atB, Bool.and_eq_true, decide_eq_true_eq] at a2; exact a2.1
    have hw : ¬ whiteF (sg L i) = true := fun hw => by have := badF_white hw; omega
    have h3 : ¬ cdcB L i = true := by simp only [cdcB, Bool.and_eq_true, decide_eq_true_eq]; omega
    have h4 : ¬ cdoB L i = true := by simp only [cdoB, Bool.and_eq_true, decide_eq_true_eq]; omega
    rw [if_pos a2, tokF, if_neg (plI_no (by omega)), if_neg hw, if_neg (by omega), if_neg a1, if_neg hnb, if_neg h3, if_neg h4, if_pos a2]
  rw [if_neg a2] at h ⊢
  by_cases a3 : cdcB L i = true
  · have h1 : sg L i = 45 := by simp only [cdcB, Bool.and_eq_true, decide_eq_true_eq] at a3; exact a3.1.1
    have hw : ¬ whiteF (sg L i) = true := fun hw => by have := badF_white hw; omega
    rw [if_pos a3, tokF, if_neg (plI_no (by omega)), if_neg hw, if_neg (by omega), if_neg a1, if_neg hnb, if_pos a3]
  rw [if_neg a3] at h ⊢
  by_cases a4 : cdoB L i = true
  · have h1 : sg L i = 60 := by simp only [cdoB, Bool.and_eq_true, decide_eq_true_eq] at a4; exact a4.1.1.1
    have hw : ¬ whiteF (sg L i) = true := fun hw => by have := badF_white hw; omega
    rw [if_pos a4, tokF, if_neg (plI_no (by omega)), if_neg hw, if_neg (by omega), if_neg a1, if_neg hnb, if_neg a3, if_pos a4]
  rw [if_neg a4] at h
  cases h
theorem mark_no {L : List Int} {i : Nat} (h : (markF L i).1.2 = false) : markF L i = ((tk0, false), i) ∧ ¬ hashB L i = true ∧ ¬ atB L i = true ∧ ¬ cdcB L i = true ∧ ¬ cdoB L i = true := by
  rw [markF] at h ⊢
  by_cases a1 : hashB L i = true
  · rw [if_pos a1] at h; cases h
  rw [if_neg a1] at h ⊢
  by_cases a2 : atB L i = true
  · rw [if_pos a2] at h; cases h
  rw [if_neg a2] at h ⊢
  by_cases a3 : cdcB L i = true
  · rw [if_pos a3] at h; cases h
  rw [if_neg a3] at h ⊢
  by_cases a4 : cdoB L i = true
  · rw [if_pos a4] at h; cases h
  rw [if_neg a4]
  exact ⟨rfl, a1, a2, a3, a4⟩
theorem names_head {L : List Int} {i : Nat} (h : namesF L i = true) : sg L i = 45 ∨ sg L i = 92 ∨ letF (sg L i) = true := by
  rw [namesF] at h
  by_cases hs : sg L i = 45
  · exact .inl hs
  · rw [if_neg hs, Bool.or_eq_true] at h
    rcases h with h | h
    · exact .inr (.inr h)
    · rw [escF, Bool.and_eq_true, decide_eq_true_eq] at h
      exact .inr (.inl h.1)
theorem tokF_names {L : List Int} {i : Nat} (hn : numsF L i = false) (hm : ¬ hashB L i = true ∧ ¬ atB L i = true ∧ ¬ cdcB L i = true ∧ ¬ cdoB L i = true) (h : namesF L i = true) : tokF L i = idtF L i := by
  have hnb : ¬ numB L i = true := by rw [numB, hn, Bool.and_false]; decide
  have h1 : sg L i = 45 ∨ sg L i = 92 ∨ ((97 ≤ sg L i ∧ sg L i ≤ 122) ∨ (65 ≤ sg L i ∧ sg L i ≤ 90) ∨ sg L i = 95 ∨ 128 ≤ sg L i) := by
    rcases names_head h with h | h | h
    · exact .inl h
    · exact .inr (.inl h)
    · exact .inr (.inr (let_facts h))
  have hw : ¬ whiteF (sg L i) = true := fun hw => by have := badF_white hw; omega
  rw [tokF, if_neg (plI_no (by omega)), if_neg hw, if_neg (by omega), if_neg hm.1, if_neg hnb, if_neg hm.2.2.1, if_neg hm.2.2.2, if_neg hm.2.1, if_pos h]
theorem pl_facts (r : Int) : (plI r < 9 ∧ plF r = kindsL.getD (plI r) 0 ∧ plF r ≠ 0 ∧ (plI r < 6 ↔ (plF r = 19 ∨ plF r = 20))) ∨ (¬ plI r < 9 ∧ plF r = 0) := by
  by_cases h : r = 40 ∨ r = 91 ∨ r = 123 ∨ r = 41 ∨ r = 93 ∨ r = 125 ∨ r = 44 ∨ r = 58 ∨ r = 59
  · left
    rcases h with rfl | rfl | rfl | rfl | rfl | rfl | rfl | rfl | rfl <;> decide
  · right
    refine ⟨plI_no (by omega), ?_⟩
    rw [plF, if_neg (by omega), if_neg (by omega), if_neg (by omega), if_neg (by omega), if_neg (by omega)]
def delF (r : Int) : Tk := if plI r < 9 then tkK (kindsL.getD (plI r) 0) (if plI r < 6 then runesBytes [r] else ⟨#[]⟩) else tkK 9 (runesBytes [r])
theorem tokF_del {L : List Int} {i : Nat} (hw : whiteF (sg L i) = false) (hq : ¬ (sg L i = 34 ∨ sg L i = 39)) (hn : numsF L i = false) (hm : ¬ hashB L i = true ∧ ¬ atB L i = true ∧ ¬ cdcB L i = true ∧ ¬ cdoB L i = true) (h : namesF L i = false) : tokF L i = (delF (sg L i), i + 1) := by
  have hnb : ¬ numB L i = true := by rw [numB, hn, Bool.and_false]; decide
  rw [tokF, delF]
  by_cases hp : plI (sg L i) < 9
  · rw [if_pos hp, if_pos hp]
  · rw [if_neg hp, if_neg (by rw [hw]; decide), if_neg hq, if_neg hm.1, if_neg hnb, if_neg hm.2.2.1, if_neg hm.2.2.2, if_neg hm.2.1, if_neg (by rw [h]; decide), if_neg hp]
def nxF (L : List Int) (c : Nat) : (Tk × Bool) × Nat := if sg L c < 0 then ((tk0, false), c) else (((tokF L c).1, true), (tokF L c).2)
set_option maxHeartbeats 8000000 in
theorem pnext_ok (L : List Int) (i0 : Nat) (hL : L.length ≤ 1099511627776) (hN : ∀ x ∈ L, 0 ≤ x) (hi : i0 ≤ L.length) : MCalls Tryz.prog 52 [rdP L i0] [.ptr 0 0] [rdP L (nxF L (cEnd L i0)).2] (.tup [tA (nxF L (cEnd L i0)).1.1, .val (.bool (nxF L (cEnd L i0)).1.2)]) := by
  refine m_start Tryz.func52 Tryz.ntmps52 rfl rfl rfl fun S w β => ?_
  have hce := cEnd_le L hi
  repeat (first | refine awp_seq ?_ | refine a_region ?_ | refine r_done ?_ | (refine r_id ?_; first | refine r_ev tab_ok rfl rfl rfl rfl byE rfl ?_ | refine r_wr tab_ok rfl rfl rfl rfl rfl ?_))
  refine r_mcall [0] (pcomments_ok L i0 hL hN hi) call65 rfl rfl ⟨rfl, trivial⟩ (by decide) ⟨Sub.refl _, trivial⟩ rfl rfl rfl rfl rfl rfl rfl ?_
  generalize cEnd L i0 = c at hce ⊢
  have hng := sg_neg hN (c : Int)
  have hlc := sg_len hN hce.2
  rw [nxF]
  repeat (first | refine awp_seq ?_ | refine thenA_normal ?_ | refine awp_block ?_ | refine a_region ?_ | refine r_done ?_ | (refine r_id ?_; first | refine r_ev tab_ok rfl rfl rfl rfl byE rfl ?_) | refine r_mro [0] (see_ok _ _ _ hL (by omega) (by omega)) call66 rfl rfl ⟨rfl, trivial⟩ (by decide) ⟨Sub.refl _, Sub.refl _, trivial⟩ rfl rfl rfl rfl rfl rfl ?_)
  rw [Int.add_zero]
  refine awp_cond_p rfl (fun a0 => ?_) (fun a0 => ?_)
  · rw [if_pos (by omega)]
    repeat (first | refine awp_seq ?_ | refine thenA_normal ?_ | refine a_region ?_ | refine awp_ret ?_ | refine thenA_ret ?_ | refine blockA_ret ?_ | refine r_done ?_ | (refine r_id ?_; first | refine r_ev tab_ok rfl rfl rfl rfl byE rfl ?_ | refine r_st tab_ok rfl rfl rfl rfl ?_ | refine r_build tab_ok rfl rfl rfl rfl rfl rfl ?_))
    exact retM2ct tab_ok byO rfl rfl rfl rfl rfl rfl rfl rfl rfl (Sub.refl _) (Sub.refl _)
  rw [if_neg (by omega)]
  have hin : c < L.length := sg_in a0
  have hw0 : whiteF (sg L c) = decide (c < wEnd L c) := by
    cases hw : whiteF (sg L c) with
    | true => exact (decide_eq_true (wEnd_gt L hce.2 hw)).symm
    | false =>
      have hst : wStep L c = .inr c := if_neg (by rw [hw]; decide)
      have : wEnd L c = c := by rw [wEnd, goAt_stop hce.2 hst]; rfl
      rw [this]
      exact (decide_eq_false (by omega)).symm
  have hwn : whiteF (sg L c) = false → wEnd L c = c := fun h => by
    have hst : wStep L c = .inr c := if_neg (by rw [h]; decide)
    rw [wEnd, goAt_stop hce.2 hst]; rfl
  repeat (first | refine awp_seq ?_ | refine a_region ?_ | (refine r_id ?_; first | refine r_ev tab_ok rfl rfl rfl rfl byE rfl ?_))
  refine r_mcall [0] (pwhite_ok L c hL hce.2) call67 rfl rfl ⟨rfl, trivial⟩ (by decide) ⟨Sub.refl _, trivial⟩ rfl rfl rfl rfl rfl rfl rfl ?_
  rw [← hw0]
  repeat (first | refine thenA_normal ?_ | refine r_done ?_ | (refine r_id ?_; first | refine r_ev tab_ok rfl rfl rfl rfl byE rfl ?_))
  refine awp_cond rfl (fun a1 => ?_) (fun a1 => ?_)
  · rw [tokF_white a1]
    repeat (first | refine awp_seq ?_ | refine thenA_normal ?_ | refine a_region ?_ | refine awp_ret ?_ | refine thenA_ret ?_ | refine blockA_ret ?_ | refine r_done ?_ | (refine r_id ?_; first | refine r_ev tab_ok rfl rfl rfl rfl byE rfl ?_ | refine r_st tab_ok rfl rfl rfl rfl ?_ | refine r_build tab_ok rfl rfl rfl rfl rfl rfl ?_))
    exact retM2ct tab_ok byO rfl rfl rfl rfl rfl rfl rfl rfl rfl (Sub.refl _) (Sub.refl _)
  rw [hwn a1]
  repeat (first | refine awp_seq ?_ | refine thenA_normal ?_ | refine a_region ?_ | refine r_done ?_ | (refine r_id ?_; first | refine r_ev tab_ok rfl rfl rfl rfl byE rfl ?_ | refine r_ev_cnd tab_ok rfl rfl rfl rfl rfl rfl byC (by first | exact fun _ => trivial | (intro h; simp at h; first | exact ⟨by omega, by omega⟩ | omega)) rfl ?_ | refine r_or rfl rfl rfl rfl rfl rfl rfl rfl ?_))
  refine awp_cond rfl (fun a2 => ?_) (fun a2 => ?_)
  · rw [tokF_quote (show sg L c = 34 ∨ sg L c = 39 by simpa using a2)]
    repeat (first | refine awp_seq ?_ | refine a_region ?_ | (refine r_id ?_; first | refine r_ev tab_ok rfl rfl rfl rfl byE rfl ?_))
    refine r_mcall [0] (ptext_ok L c hL hN hin) call68 rfl rfl ⟨rfl, trivial⟩ (by decide) ⟨Sub.refl _, trivial⟩ rfl rfl rfl rfl rfl rfl rfl ?_
    repeat (first | refine thenA_normal ?_ | refine awp_ret ?_ | refine thenA_ret ?_ | refine blockA_ret ?_ | refine r_done ?_ | (refine r_id ?_; first | refine r_ev tab_ok rfl rfl rfl rfl byE rfl ?_ | refine r_st tab_ok rfl rfl rfl rfl ?_))
    exact retM2ct tab_ok byO rfl rfl rfl rfl rfl rfl rfl rfl rfl (Sub.refl _) (Sub.refl _)
  have a2' : ¬ (sg L c = 34 ∨ sg L c = 39) := by simpa using a2
  repeat (first | refine awp_seq ?_ | refine thenA_normal ?_ | refine a_region ?_ | refine r_done ?_ | (refine r_id ?_; first | refine r_ev tab_ok rfl rfl rfl rfl byE rfl ?_) | refine r_mro [0] (pnumber_ok _ _ hL (by omega)) call69 rfl rfl ⟨rfl, trivial⟩ (by decide) ⟨Sub.refl _, trivial⟩ rfl rfl rfl rfl rfl rfl ?_)
  refine awp_cond rfl (fun a3 => ?_) (fun a3 => ?_)
  · rw [tokF_num a3]
    repeat (first | refine awp_seq ?_ | refine a_region ?_ | (refine r_id ?_; first | refine r_ev tab_ok rfl rfl rfl rfl byE rfl ?_))
    refine r_mcall [0] (pnumeric_ok L c hL hN hce.2) call70 rfl rfl ⟨rfl, trivial⟩ (by decide) ⟨Sub.refl _, trivial⟩ rfl rfl rfl rfl rfl rfl rfl ?_
    repeat (first | refine thenA_normal ?_ | refine awp_ret ?_ | refine thenA_ret ?_ | refine blockA_ret ?_ | refine r_done ?_ | (refine r_id ?_; first | refine r_ev tab_ok rfl rfl rfl rfl byE rfl ?_ | refine r_st tab_ok rfl rfl rfl rfl ?_))
    exact retM2ct tab_ok byO rfl rfl rfl rfl rfl rfl rfl rfl rfl (Sub.refl _) (Sub.refl _)
  repeat (first | refine awp_seq ?_ | refine a_region ?_ | refine awp_skip ?_ | (refine r_id ?_; first | refine r_ev tab_ok rfl rfl rfl rfl byE rfl ?_))
  refine r_mcall [0] (pmarked_ok L c hL hN hin) call71 rfl rfl ⟨rfl, trivial⟩ (by decide) ⟨Sub.refl _, trivial⟩ rfl rfl rfl rfl rfl rfl rfl ?_
  repeat (first | refine awp_seq ?_ | refine thenA_normal ?_ | refine a_region ?_ | refine r_done ?_ | (refine r_id ?_; first | refine r_ev tab_ok rfl rfl rfl rfl byE rfl ?_ | refine r_wr tab_ok rfl rfl rfl rfl rfl ?_ | refine r_st tab_ok rfl rfl rfl rfl ?_))
  refine awp_cond rfl (fun a4 => ?_) (fun a4 => ?_)
  · rw [mark_tok a3 a4]
    repeat (first | refine awp_seq ?_ | refine thenA_normal ?_ | refine a_region ?_ | refine awp_ret ?_ | refine thenA_ret ?_ | refine r_done ?_ | (refine r_id ?_; first | refine r_ev tab_ok rfl rfl rfl rfl byE rfl ?_ | refine r_ld tab_ok rfl rfl rfl rfl rfl ?_ | refine r_st tab_ok rfl rfl rfl rfl ?_))
    exact retM2ct tab_ok byO rfl rfl rfl rfl rfl rfl rfl rfl rfl (Sub.refl _) (Sub.refl _)
  obtain ⟨e4, hm⟩ := mark_no a4
  rw [e4]
  dsimp only
  repeat (first | refine awp_seq ?_ | refine thenA_normal ?_ | refine a_region ?_ | refine awp_skip ?_ | refine r_done ?_ | (refine r_id ?_; first | refine r_ev tab_ok rfl rfl rfl rfl byE rfl ?_) | refine r_mro [0] (pbegins_ok _ _ _ hL (by omega) (by omega)) call72 rfl rfl ⟨rfl, trivial⟩ (by decide) ⟨Sub.refl _, Sub.refl _, trivial⟩ rfl rfl rfl rfl rfl rfl ?_)
  rw [Int.add_zero]
  refine awp_cond rfl (fun a5 => ?_) (fun a5 => ?_)
  · rw [tokF_names a3 hm a5]
    repeat (first | refine awp_seq ?_ | refine a_region ?_ | (refine r_id ?_; first | refine r_ev tab_ok rfl rfl rfl rfl byE rfl ?_))
    refine r_mcall [0] (pident_ok L c hL hN hce.2) call73 rfl rfl ⟨rfl, trivial⟩ (by decide) ⟨Sub.refl _, trivial⟩ rfl rfl rfl rfl rfl rfl rfl ?_
    repeat (first | refine thenA_normal ?_ | refine awp_ret ?_ | refine thenA_ret ?_ | refine r_done ?_ | (refine r_id ?_; first | refine r_ev tab_ok rfl rfl rfl rfl byE rfl ?_ | refine r_st tab_ok rfl rfl rfl rfl ?_))
    exact retM2ct tab_ok byO rfl rfl rfl rfl rfl rfl rfl rfl rfl (Sub.refl _) (Sub.refl _)
  rw [tokF_del a1 a2' a3 hm a5]
  repeat (first | refine awp_seq ?_ | refine a_region ?_ | refine awp_skip ?_ | (refine r_id ?_; first | refine r_ev tab_ok rfl rfl rfl rfl byE rfl ?_))
  refine r_mcall [0] (pdelim_ok L c hL hin) call74 rfl rfl ⟨rfl, trivial⟩ (by decide) ⟨Sub.refl _, trivial⟩ rfl rfl rfl rfl rfl rfl rfl ?_
  repeat (first | refine awp_seq ?_ | refine a_region ?_ | refine r_done ?_ | (refine r_id ?_; first | refine r_ev tab_ok rfl rfl rfl rfl byE rfl ?_ | refine r_wr tab_ok rfl rfl rfl rfl rfl ?_ | refine r_st tab_ok rfl rfl rfl rfl ?_))
  refine r_call (pplain_ok (sg L c)) call75 rfl rfl ⟨Sub.refl _, trivial⟩ rfl rfl rfl rfl ?_
  have hpf := pl_facts (sg L c)
  rw [delF]
  generalize plF (sg L c) = pk at hpf ⊢
  generalize sg L c = r at hpf ⊢
  repeat (first | refine awp_seq ?_ | refine thenA_normal ?_ | refine a_region ?_ | refine r_done ?_ | (refine r_id ?_; first | refine r_ev tab_ok rfl rfl rfl rfl byE rfl ?_))
  refine awp_cond rfl (fun a6 => ?_) (fun a6 => ?_)
  · have a6' : pk ≠ 0 := by simpa using a6
    rcases hpf with ⟨h1, h2, h3, h4⟩ | ⟨_, h2⟩
    · rw [if_pos h1, ← h2]
      repeat (first | refine awp_seq ?_ | refine thenA_normal ?_ | refine a_region ?_ | refine r_done ?_ | (refine r_id ?_; first | refine r_ev tab_ok rfl rfl rfl rfl byE rfl ?_ | refine r_st tab_ok rfl rfl rfl rfl ?_ | refine r_ev_cnd tab_ok rfl rfl rfl rfl rfl rfl byC (by first | exact fun _ => trivial | (intro h; simp at h; first | exact ⟨by omega, by omega⟩ | omega)) rfl ?_ | refine r_and rfl rfl rfl rfl rfl rfl rfl rfl ?_))
      refine awp_cond rfl (fun a7 => ?_) (fun a7 => ?_)
      · have a7' : ¬ (pk = 19 ∨ pk = 20) := by simpa using a7
        rw [if_neg (fun h => a7' (h4.1 h))]
        repeat (first | refine awp_seq ?_ | refine thenA_normal ?_ | refine a_region ?_ | refine awp_ret ?_ | refine r_done ?_ | (refine r_id ?_; first | refine r_ev tab_ok rfl rfl rfl rfl byE rfl ?_ | refine r_ld tab_ok rfl rfl rfl rfl rfl ?_ | refine r_st tab_ok rfl rfl rfl rfl ?_))
        exact retM2ct tab_ok byO rfl rfl rfl rfl rfl rfl rfl rfl rfl (Sub.refl _) (Sub.refl _)
      · have a7' : pk = 19 ∨ pk = 20 := by
          simp only [Bool.and_eq_false_iff, Bool.not_eq_false', decide_eq_true_eq] at a7
          exact a7
        rw [if_pos (h4.2 a7')]
        repeat (first | refine awp_seq ?_ | refine thenA_normal ?_ | refine a_region ?_ | refine awp_ret ?_ | refine awp_skip ?_ | refine r_done ?_ | (refine r_id ?_; first | refine r_ev tab_ok rfl rfl rfl rfl byE rfl ?_ | refine r_ld tab_ok rfl rfl rfl rfl rfl ?_ | refine r_st tab_ok rfl rfl rfl rfl ?_))
        exact retM2ct tab_ok byO rfl rfl rfl rfl rfl rfl rfl rfl rfl (Sub.refl _) (Sub.refl _)
    · exact absurd h2 a6'
  · have a6' : pk = 0 := by simpa using a6
    rcases hpf with ⟨h1, h2, h3, h4⟩ | ⟨h1, h2⟩
    · exact absurd a6' h3
    · rw [if_neg h1]
      repeat (first | refine awp_seq ?_ | refine thenA_normal ?_ | refine a_region ?_ | refine awp_ret ?_ | refine awp_skip ?_ | refine r_done ?_ | (refine r_id ?_; first | refine r_ev tab_ok rfl rfl rfl rfl byE rfl ?_ | refine r_ld tab_ok rfl rfl rfl rfl rfl ?_ | refine r_st tab_ok rfl rfl rfl rfl ?_))
      exact retM2ct tab_ok byO rfl rfl rfl rfl rfl rfl rfl rfl rfl (Sub.refl _) (Sub.refl _)
set_option maxHeartbeats 8000000 in
theorem pall_ok (L : List Int) (hL : L.length ≤ 1099511627776) (hN : ∀ x ∈ L, 0 ≤ x) : PCalls Tryz.prog 27 [.sl 1 (L.map rD)] (.sl 6 ((toksF L).map tD)) := by
  refine p_start Tryz.func27 Tryz.ntmps27 rfl rfl rfl fun S w => ?_
  repeat (first | refine awp_seq ?_ | refine thenA_normal ?_ | refine awp_block ?_ | refine a_region ?_ | refine r_done ?_ | (refine r_id ?_; first | refine r_ev tab_ok rfl rfl rfl rfl byE rfl ?_ | refine r_wr tab_ok rfl rfl rfl rfl rfl ?_ | refine r_build tab_ok rfl rfl rfl rfl rfl rfl ?_))
  refine a_loop (σ := GS L.length (tStep L) 0) (fun x => [rdP L x.i, .row 0 47 6 (x.out.map tD)]) (fun x => [(3, .ptr 0 0), (2, .row 1 0)]) (fun x => L.length - x.i) (GS.start (Nat.zero_le _)) (fits_conv byV byV) ?_
  intro x
  have hle := x.le
  have hlen := x.len
  have hml : (x.out.map tD).length = x.out.length := List.length_map _
  have hce := cEnd_le L hle
  have hlc := sg_len hN hce.2
  repeat (first | refine awp_seq ?_ | refine awp_block ?_ | refine a_region ?_ | (refine r_id ?_; first | refine r_ev tab_ok rfl rfl rfl rfl byE rfl ?_))
  refine r_mcall [0] (pnext_ok L x.i hL hN hle) call52 rfl rfl ⟨rfl, trivial⟩ (by decide) ⟨Sub.refl _, trivial⟩ rfl rfl rfl rfl rfl rfl rfl ?_
  by_cases h0 : sg L (cEnd L x.i) < 0
  · have ht : tStep L x.i = .inr () := by rw [tStep, if_pos (.inl h0)]
    rw [toksF, x.stop ht, nxF, if_pos h0]
    dsimp only
    repeat (first | refine awp_seq ?_ | refine thenA_normal ?_ | refine a_region ?_ | refine awp_ret ?_ | refine thenA_ret ?_ | refine blockA_ret ?_ | refine r_done ?_ | (refine r_id ?_; first | refine r_ev tab_ok rfl rfl rfl rfl byE rfl ?_ | refine r_wr tab_ok rfl rfl rfl rfl rfl ?_ | refine r_st tab_ok rfl rfl rfl rfl ?_) | refine ret1_row byO rfl rfl rfl ?_ | refine awp_cond_t rfl ?_)
    exact Sub.refl _
  · have hin := sg_ge (L := L) (i := cEnd L x.i) (by omega)
    have ht : tStep L x.i = .inl ([(tokF L (cEnd L x.i)).1], (tokF L (cEnd L x.i)).2) := by rw [tStep, if_neg (by omega)]
    have hg := tStep_goes L _ _ _ hle ht
    rw [nxF, if_neg h0]
    dsimp only
    repeat (first | refine awp_seq ?_ | refine thenA_normal ?_ | refine a_region ?_ | refine blockA_normal ?_ | refine awp_skip ?_ | refine r_done ?_ | (refine r_id ?_; first | refine r_ev tab_ok rfl rfl rfl rfl byE rfl ?_ | refine r_ld tab_ok rfl rfl rfl rfl rfl ?_ | refine r_wr tab_ok rfl rfl rfl rfl rfl ?_ | refine r_st tab_ok rfl rfl rfl rfl ?_ | refine r_built tab_ok rfl rfl rfl rfl rfl rfl rfl rfl rfl ?_ | refine r_append tab_ok rfl rfl rfl rfl rfl rfl rfl rfl rfl (by first | omega | (simp; omega)) rfl ?_) | refine awp_cond_f rfl ?_)
    refine ⟨x.next (tStep_goes L) ht, by dsimp only [GS.next]; omega, ?_⟩
    dsimp only [GS.next]
    rw [List.map_append]
    exact fits_tr (s' := ⟨[rdP L (tokF L (cEnd L x.i)).2, .row 0 47 6 (x.out.map tD ++ [tD (tokF L (cEnd L x.i)).1]), .gone], [(3, .ptr 0 0), (2, .row 1 0)]⟩) (fits_conv byV byV) (fits_drop 2 rfl rfl byK)
end Go.Proofs.YtiolnmfaeenlmaaGreatDoor
