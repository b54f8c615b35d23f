/- nest.Trim handed back as own rows. -/
import Derived.Test.YtiolnmfaeenlmaaGreatDoorRl
namespace Go.Proofs.YtiolnmfaeenlmaaGreatDoor
open Go Go.RowKit
set_option maxRecDepth 20000

set_option maxHeartbeats 1000000 in
theorem copyM_ok (l : List Nd) (hn : nszs l < 1099511627776) : MCalls Tryz.prog 57 [] [.sl 7 (l.map nF)] [.row 0 49 7 (l.map nF)] (.row 0 0) := by
  refine mcalls_ofn Tryz.func57 Tryz.ntmps57 rfl rfl rfl 1 (by decide) fun S w β => ?_
  have hll := nszs_len l
  have hlm : (l.map nF).length = l.length := List.length_map _
  repeat (first | refine awp_seq ?_ | refine a_region ?_ | refine r_done ?_ | (refine r_id ?_; first | refine r_ev tab_ok rfl rfl rfl rfl byE rfl ?_))
  refine r_rcall (cloneN_ok l (by omega)) call89 rfl rfl ⟨Sub.refl _, trivial⟩ rfl rfl rfl rfl rfl rfl ?_
  repeat (first | refine awp_seq ?_ | refine thenA_normal ?_ | refine awp_block ?_ | refine a_region ?_ | refine r_done ?_ | (refine r_id ?_; first | refine r_ev tab_ok rfl rfl rfl rfl byE rfl ?_ | refine r_ld tab_ok rfl rfl rfl rfl rfl ?_))
  refine a_loop (σ := {i : Nat // i ≤ l.length}) (fun x => [.row 0 49 7 (l.map nF)]) (fun x => [(3, .row 0 0), (7, .row 0 0), (8, .val (.int .i64 l.length)), (9, .val (.int .i64 x.1))]) (fun x => l.length - x.1) ⟨0, Nat.zero_le _⟩ (fits_conv byV ⟨c_row rfl rfl rfl, c_row rfl rfl rfl, c_sub rfl (Sub.of_eq (by rw [← hlm]; rfl)) rfl, c_sub rfl (Sub.refl _) rfl, trivial⟩) ?_
  rintro ⟨i, hi⟩
  dsimp only
  repeat (first | refine awp_seq ?_ | refine a_region ?_ | refine r_done ?_ | (refine r_id ?_; first | refine r_ev tab_ok rfl rfl rfl rfl byE rfl ?_))
  refine awp_cond_p rfl (fun hlt => ?_) (fun hge => ?_)
  · have hlt' : i < l.length := by omega
    have hi' : ((i : Nat) : Int).toNat < l.length := by simp only [Int.toNat_natCast]; exact hlt'
    have hk := nszs_at hlt'
    have ih' : PCalls Tryz.prog 57 [.sl 7 ((l[((i : Nat) : Int).toNat]'hi').kids.map nD)] (.sl 7 ((l[((i : Nat) : Int).toNat]'hi').kids.map nD)) := by
      rw [nD_fun]
      refine copy_ok 1099511627776 _ ?_ (by omega)
      simp only [Int.toNat_natCast]
      omega
    repeat (first | refine awp_seq ?_ | refine thenA_normal ?_ | refine awp_block ?_ | refine a_region ?_ | refine awp_skip ?_ | refine r_done ?_ | (refine r_id ?_; first | refine r_ev tab_ok rfl rfl rfl rfl byE rfl ?_ | refine r_idxr tab_ok rfl rfl rfl rfl rfl rfl rfl rfl (by first | exact ⟨by omega, by omega⟩ | (simp; omega)) rfl ?_ | refine r_fielde tab_ok rfl rfl rfl rfl rfl rfl rfl rfl ?_ | refine r_lde tab_ok rfl rfl rfl rfl rfl (by omega) rfl rfl rfl rfl ?_))
    refine r_call ih' call57 rfl rfl ⟨Sub.refl _, trivial⟩ rfl rfl rfl rfl ?_
    repeat (first | (refine r_id ?_; first | refine r_idxr tab_ok rfl rfl rfl rfl rfl rfl rfl rfl (by first | exact ⟨by omega, by omega⟩ | (simp; omega)) rfl ?_ | refine r_fielde tab_ok rfl rfl rfl rfl rfl rfl rfl rfl ?_))
    refine r_ste tab_ok (l[((i : Nat) : Int).toNat]'hi') rfl rfl rfl rfl rfl hi' rfl rfl rfl rfl rfl rfl ?_
    rw [List.set_getElem_self]
    repeat (first | refine thenA_normal ?_ | refine a_region ?_ | refine r_done ?_ | (refine r_id ?_; first | refine r_ev tab_ok rfl rfl rfl rfl byE rfl ?_))
    exact ⟨⟨i + 1, hlt'⟩, by dsimp only; omega, fits_conv byV byV⟩
  · repeat (first | refine awp_seq ?_ | refine thenA_normal ?_ | refine a_region ?_ | refine awp_exit ?_ | refine r_done ?_ | (refine r_id ?_; first | refine r_ev tab_ok rfl rfl rfl rfl byE rfl ?_))
    refine awp_fits (s' := ⟨[.row 0 49 7 (l.map nF)], [(2, .row 0 0)]⟩) (fits_conv byV ⟨c_row rfl rfl rfl, trivial⟩) ?_
    repeat (first | refine awp_ret ?_ | refine retM1 byO rfl rfl rfl rfl rfl ?_)
    exact Sub.refl _

set_option maxHeartbeats 2000000 in
theorem trimM_ok (l : List Nd) (hn : nszs l < 549755813888) : MCalls Tryz.prog 37 [] [.sl 7 (l.map nF)] [.row 0 49 7 ((trimF l).map nF)] (.row 0 0) := by
  refine mcalls_ofn Tryz.func37 Tryz.ntmps37 rfl rfl rfl 1 (by decide) fun S w β => ?_
  repeat (first | refine awp_seq ?_ | refine awp_block ?_ | refine a_region ?_ | refine r_done ?_ | (refine r_id ?_; first | refine r_ev tab_ok rfl rfl rfl rfl byE rfl ?_))
  refine a_loop (σ := {m : List Nd // nszs m ≤ nszs l ∧ m.dropWhile whN = l.dropWhile whN}) (fun _ => []) (fun x => [(0, .sl 7 (x.1.map nF))]) (fun x => x.1.length) ⟨l, Nat.le_refl _, rfl⟩ (fits_conv byV byV) ?_
  rintro ⟨m, hm, hd⟩
  dsimp only
  have hml := nszs_len m
  have hmm : (m.map nF).length = m.length := List.length_map _
  rcases m with _ | ⟨a, r⟩
  · have hr : trimB [] = trimF l := by rw [trimF, ← hd]; rfl
    repeat (first | refine awp_seq ?_ | refine thenA_normal ?_ | refine awp_block ?_ | refine a_region ?_ | refine awp_exit ?_ | refine r_done ?_ | (refine r_id ?_; first | refine r_len tab_ok rfl rfl rfl rfl rfl rfl rfl ?_ | refine r_ev tab_ok rfl rfl rfl rfl byE rfl ?_ | refine r_ev_cnd tab_ok rfl rfl rfl rfl rfl rfl byC (by first | exact fun _ => trivial | (intro h; simp at h; first | exact ⟨by omega, by omega⟩ | omega)) rfl ?_ | refine r_idx_cnd' tab_ok rfl rfl rfl rfl rfl rfl rfl byC rfl rfl (by first | (intro h; simp at h; exact ⟨by omega, by omega⟩) | (intro h; simp only [Bool.and_eq_true, Bool.or_eq_false_iff, beq_iff_eq, decide_eq_false_iff_not, decide_eq_true_eq] at h; exact ⟨by omega, by omega⟩)) rfl rfl ?_ | refine r_pick_f rfl rfl rfl rfl rfl rfl rfl ?_ | refine r_off rfl rfl rfl rfl rfl rfl ?_) | refine awp_cond_f rfl ?_)
    refine a_loop (σ := {k : List Nd // nszs k ≤ nszs l ∧ trimB k = trimF l}) (fun _ => []) (fun x => [(0, .sl 7 (x.1.map nF))]) (fun x => x.1.length) ⟨[], Nat.zero_le _, hr⟩ (fits_conv byV byV) ?_
    rintro ⟨k, hk, hkt⟩
    dsimp only
    have hkl := nszs_len k
    have hkm : (k.map nF).length = k.length := List.length_map _
    rcases snoc_or k with rfl | ⟨q, z, rfl⟩
    · repeat (first | refine awp_seq ?_ | refine thenA_normal ?_ | refine a_region ?_ | refine awp_exit ?_ | refine r_done ?_ | (refine r_id ?_; first | refine r_len tab_ok rfl rfl rfl rfl rfl rfl rfl ?_ | refine r_ev tab_ok rfl rfl rfl rfl byE rfl ?_ | refine r_len_cnd tab_ok rfl rfl rfl rfl rfl rfl (by first | exact fun _ => rfl | exact cs1) rfl rfl rfl ?_ | refine r_ev_cnd tab_ok rfl rfl rfl rfl rfl rfl byC (by first | exact fun _ => trivial | (intro h; simp at h; first | exact ⟨by omega, by omega⟩ | omega)) rfl ?_ | refine r_pick_f rfl rfl rfl rfl rfl rfl rfl ?_ | refine r_off rfl rfl rfl rfl rfl rfl ?_) | refine awp_cond_f rfl ?_)
      rw [← hkt]
      refine r_rcall (copyM_ok [] (by rw [nszs]; decide)) call57 rfl rfl ⟨Sub.refl _, trivial⟩ rfl rfl rfl rfl rfl rfl ?_
      repeat (first | refine thenA_normal ?_ | refine awp_ret ?_ | refine r_done ?_ | (refine r_id ?_; first | refine r_ev tab_ok rfl rfl rfl rfl byE rfl ?_) | refine retM1 byO rfl rfl rfl rfl rfl ?_)
      exact Sub.refl _
    · have hql : (q ++ [z]).length = q.length + 1 := by rw [List.length_append, List.length_singleton]
      have hlt : ((((q ++ [z]).length : Nat) : Int) - 1).toNat < (q ++ [z]).length := by omega
      have hz : (q ++ [z])[((((q ++ [z]).length : Nat) : Int) - 1).toNat]'hlt = z := by
        have e : ((((q ++ [z]).length : Nat) : Int) - 1).toNat = q.length := by omega
        simp only [e]
        simp
      have hqs := nszs_append q [z]
      repeat (first | refine awp_seq ?_ | refine a_region ?_ | (refine r_id ?_; first | refine r_len tab_ok rfl rfl rfl rfl rfl rfl rfl ?_ | refine r_ev tab_ok rfl rfl rfl rfl byE rfl ?_ | refine r_len_cnd tab_ok rfl rfl rfl rfl rfl rfl (by first | exact fun _ => rfl | exact cs1) rfl rfl rfl ?_ | refine r_ev_cnd tab_ok rfl rfl rfl rfl rfl rfl byC (by first | exact fun _ => trivial | (intro h; simp at h; first | exact ⟨by omega, by omega⟩ | omega)) rfl ?_ | refine r_idx_cnd tab_ok rfl rfl rfl rfl rfl rfl rfl byC rfl rfl (by exact ⟨by omega, by omega⟩) rfl rfl ?_))
      refine r_call_cnd (fun _ => White_ok ((q ++ [z])[((((q ++ [z]).length : Nat) : Int) - 1).toNat]'hlt)) call40 rfl rfl rfl rfl byC (by exact ⟨Sub.refl _, trivial⟩) rfl rfl rfl rfl ?_
      repeat (first | refine thenA_normal ?_ | refine r_done ?_ | (refine r_id ?_; first | refine r_and rfl rfl rfl rfl rfl rfl rfl rfl ?_))
      rw [hz]
      refine awp_cond rfl (fun h2 => ?_) (fun h2 => ?_)
      · have hwz : whN z = true := by
          rw [Bool.and_eq_true] at h2
          exact h2.2
        have eq1 : ((q ++ [z]).take ((((q ++ [z]).length : Nat) : Int) - 1).toNat).drop 0 = q := by
          have e : ((((q ++ [z]).length : Nat) : Int) - 1).toNat = q.length := by omega
          rw [e, List.drop_zero, List.take_left]
        repeat (first | refine thenA_normal ?_ | refine awp_block ?_ | refine a_region ?_ | refine blockA_normal ?_ | refine awp_skip ?_ | refine r_done ?_ | (refine r_id ?_; first | refine r_len tab_ok rfl rfl rfl rfl rfl rfl rfl ?_ | refine r_ev tab_ok rfl rfl rfl rfl byE rfl ?_ | refine r_cut tab_ok rfl rfl rfl rfl rfl rfl rfl rfl (by first | exact ⟨by simp, by simp; omega, by simp⟩ | (simp; omega)) rfl ?_))
        refine ⟨⟨q, by omega, by rw [← hkt, trimB_go hwz]⟩, by dsimp only; omega, fits_conv byV ⟨c_sub rfl (Sub.of_eq (by rw [← congrArg (List.map nF) eq1]; rfl)) rfl, trivial⟩⟩
      · have hwz : whN z = false := by
          have hp : decide (0 < (((q ++ [z]).length : Nat) : Int)) = true := by rw [decide_eq_true_eq]; omega
          rw [hp, Bool.true_and] at h2
          exact h2
        rw [trimB_no hwz] at hkt
        repeat (first | refine awp_seq ?_ | refine a_region ?_ | refine awp_exit ?_ | (refine r_id ?_; first | refine r_ev tab_ok rfl rfl rfl rfl byE rfl ?_))
        rw [← hkt]
        refine r_rcall (copyM_ok (q ++ [z]) (by omega)) call57 rfl rfl ⟨Sub.refl _, trivial⟩ rfl rfl rfl rfl rfl rfl ?_
        repeat (first | refine thenA_normal ?_ | refine awp_ret ?_ | refine r_done ?_ | (refine r_id ?_; first | refine r_ev tab_ok rfl rfl rfl rfl byE rfl ?_) | refine retM1 byO rfl rfl rfl rfl rfl ?_)
        exact Sub.refl _
  · have hpos : 0 < (a :: r).length := Nat.succ_pos _
    repeat (first | refine awp_seq ?_ | refine a_region ?_ | (refine r_id ?_; first | refine r_len tab_ok rfl rfl rfl rfl rfl rfl rfl ?_ | refine r_ev tab_ok rfl rfl rfl rfl byE rfl ?_ | refine r_ev_cnd tab_ok rfl rfl rfl rfl rfl rfl byC (by first | exact fun _ => trivial | (intro h; simp at h; first | exact ⟨by omega, by omega⟩ | omega)) rfl ?_ | refine r_idx_cnd tab_ok rfl rfl rfl rfl rfl rfl rfl byC rfl rfl (by exact ⟨by omega, by omega⟩) rfl rfl ?_))
    refine r_call_cnd (fun _ => White_ok a) call40 rfl rfl rfl rfl byC ⟨Sub.refl _, trivial⟩ rfl rfl rfl rfl ?_
    repeat (first | refine thenA_normal ?_ | refine r_done ?_ | (refine r_id ?_; first | refine r_and rfl rfl rfl rfl rfl rfl rfl rfl ?_))
    refine awp_cond rfl (fun h => ?_) (fun h => ?_)
    · have hwa : whN a = true := by
        rw [Bool.and_eq_true] at h
        exact h.2
      have eq1 : ((a :: r).take ((((a :: r).length : Nat) : Int)).toNat).drop 1 = r := by
        rw [Int.toNat_natCast, List.take_length]
        rfl
      have hns : nszs (a :: r) = nsz a + nszs r := rfl
      repeat (first | refine thenA_normal ?_ | refine awp_block ?_ | refine a_region ?_ | refine blockA_normal ?_ | refine awp_skip ?_ | refine r_done ?_ | (refine r_id ?_; first | refine r_ev tab_ok rfl rfl rfl rfl byE rfl ?_ | refine r_cut tab_ok rfl rfl rfl rfl rfl rfl rfl rfl (by first | exact ⟨by simp, by simp; omega, by simp⟩ | (simp; omega)) rfl ?_))
      refine ⟨⟨r, by omega, by rw [← hd, List.dropWhile_cons_of_pos hwa]⟩, by dsimp only; rw [List.length_cons]; omega, fits_conv byV ⟨c_sub rfl (Sub.of_eq (by rw [← congrArg (List.map nF) eq1]; rfl)) rfl, trivial⟩⟩
    · have hwa : whN a = false := by
        have hp : decide (0 < (((a :: r).length : Nat) : Int)) = true := by rw [decide_eq_true_eq]; omega
        rw [hp, Bool.true_and] at h
        exact h
      have hr : trimB (a :: r) = trimF l := by rw [trimF, ← hd, List.dropWhile_cons_of_neg (by rw [hwa]; decide)]
      repeat (first | refine awp_seq ?_ | refine awp_block ?_ | refine awp_exit ?_)
      refine a_loop (σ := {k : List Nd // nszs k ≤ nszs l ∧ trimB k = trimF l}) (fun _ => []) (fun x => [(0, .sl 7 (x.1.map nF))]) (fun x => x.1.length) ⟨a :: r, hm, hr⟩ (fits_conv byV byV) ?_
      rintro ⟨k, hk, hkt⟩
      dsimp only
      have hkl := nszs_len k
      have hkm : (k.map nF).length = k.length := List.length_map _
      rcases snoc_or k with rfl | ⟨q, z, rfl⟩
      · repeat (first | refine awp_seq ?_ | refine thenA_normal ?_ | refine a_region ?_ | refine awp_exit ?_ | refine r_done ?_ | (refine r_id ?_; first | refine r_len tab_ok rfl rfl rfl rfl rfl rfl rfl ?_ | refine r_ev tab_ok rfl rfl rfl rfl byE rfl ?_ | refine r_len_cnd tab_ok rfl rfl rfl rfl rfl rfl (by first | exact fun _ => rfl | exact cs1) rfl rfl rfl ?_ | refine r_ev_cnd tab_ok rfl rfl rfl rfl rfl rfl byC (by first | exact fun _ => trivial | (intro h; simp at h; first | exact ⟨by omega, by omega⟩ | omega)) rfl ?_ | refine r_pick_f rfl rfl rfl rfl rfl rfl rfl ?_ | refine r_off rfl rfl rfl rfl rfl rfl ?_) | refine awp_cond_f rfl ?_)
        rw [← hkt]
        refine r_rcall (copyM_ok [] (by rw [nszs]; decide)) call57 rfl rfl ⟨Sub.refl _, trivial⟩ rfl rfl rfl rfl rfl rfl ?_
        repeat (first | refine thenA_normal ?_ | refine awp_ret ?_ | refine r_done ?_ | (refine r_id ?_; first | refine r_ev tab_ok rfl rfl rfl rfl byE rfl ?_) | refine retM1 byO rfl rfl rfl rfl rfl ?_)
        exact Sub.refl _
      · have hql : (q ++ [z]).length = q.length + 1 := by rw [List.length_append, List.length_singleton]
        have hlt : ((((q ++ [z]).length : Nat) : Int) - 1).toNat < (q ++ [z]).length := by omega
        have hz : (q ++ [z])[((((q ++ [z]).length : Nat) : Int) - 1).toNat]'hlt = z := by
          have e : ((((q ++ [z]).length : Nat) : Int) - 1).toNat = q.length := by omega
          simp only [e]
          simp
        have hqs := nszs_append q [z]
        repeat (first | refine awp_seq ?_ | refine a_region ?_ | (refine r_id ?_; first | refine r_len tab_ok rfl rfl rfl rfl rfl rfl rfl ?_ | refine r_ev tab_ok rfl rfl rfl rfl byE rfl ?_ | refine r_len_cnd tab_ok rfl rfl rfl rfl rfl rfl (by first | exact fun _ => rfl | exact cs1) rfl rfl rfl ?_ | refine r_ev_cnd tab_ok rfl rfl rfl rfl rfl rfl byC (by first | exact fun _ => trivial | (intro h; simp at h; first | exact ⟨by omega, by omega⟩ | omega)) rfl ?_ | refine r_idx_cnd tab_ok rfl rfl rfl rfl rfl rfl rfl byC rfl rfl (by exact ⟨by omega, by omega⟩) rfl rfl ?_))
        refine r_call_cnd (fun _ => White_ok ((q ++ [z])[((((q ++ [z]).length : Nat) : Int) - 1).toNat]'hlt)) call40 rfl rfl rfl rfl byC (by exact ⟨Sub.refl _, trivial⟩) rfl rfl rfl rfl ?_
        repeat (first | refine thenA_normal ?_ | refine r_done ?_ | (refine r_id ?_; first | refine r_and rfl rfl rfl rfl rfl rfl rfl rfl ?_))
        rw [hz]
        refine awp_cond rfl (fun h2 => ?_) (fun h2 => ?_)
        · have hwz : whN z = true := by
            rw [Bool.and_eq_true] at h2
            exact h2.2
          have eq1 : ((q ++ [z]).take ((((q ++ [z]).length : Nat) : Int) - 1).toNat).drop 0 = q := by
            have e : ((((q ++ [z]).length : Nat) : Int) - 1).toNat = q.length := by omega
            rw [e, List.drop_zero, List.take_left]
          repeat (first | refine thenA_normal ?_ | refine awp_block ?_ | refine a_region ?_ | refine blockA_normal ?_ | refine awp_skip ?_ | refine r_done ?_ | (refine r_id ?_; first | refine r_len tab_ok rfl rfl rfl rfl rfl rfl rfl ?_ | refine r_ev tab_ok rfl rfl rfl rfl byE rfl ?_ | refine r_cut tab_ok rfl rfl rfl rfl rfl rfl rfl rfl (by first | exact ⟨by simp, by simp; omega, by simp⟩ | (simp; omega)) rfl ?_))
          refine ⟨⟨q, by omega, by rw [← hkt, trimB_go hwz]⟩, by dsimp only; omega, fits_conv byV ⟨c_sub rfl (Sub.of_eq (by rw [← congrArg (List.map nF) eq1]; rfl)) rfl, trivial⟩⟩
        · have hwz : whN z = false := by
            have hp : decide (0 < (((q ++ [z]).length : Nat) : Int)) = true := by rw [decide_eq_true_eq]; omega
            rw [hp, Bool.true_and] at h2
            exact h2
          rw [trimB_no hwz] at hkt
          repeat (first | refine awp_seq ?_ | refine a_region ?_ | refine awp_exit ?_ | (refine r_id ?_; first | refine r_ev tab_ok rfl rfl rfl rfl byE rfl ?_))
          rw [← hkt]
          refine r_rcall (copyM_ok (q ++ [z]) (by omega)) call57 rfl rfl ⟨Sub.refl _, trivial⟩ rfl rfl rfl rfl rfl rfl ?_
          repeat (first | refine thenA_normal ?_ | refine awp_ret ?_ | refine r_done ?_ | (refine r_id ?_; first | refine r_ev tab_ok rfl rfl rfl rfl byE rfl ?_) | refine retM1 byO rfl rfl rfl rfl rfl ?_)
          exact Sub.refl _
end Go.Proofs.YtiolnmfaeenlmaaGreatDoor
