import Derived.Test.YtiolnmfaeenlmaaGreatDoorU5
import Derived.Test.YtiolnmfaeenlmaaGreatDoorF4
/- The reference's Trim, Value. -/
namespace Go.Proofs.YtiolnmfaeenlmaaGreatDoor
open Go Go.RowKit

theorem trimF_len (l : List Nd) : (trimF l).length ≤ l.length := by
  rw [trimF, trimB, List.length_reverse]
  refine Nat.le_trans (List.Sublist.length_le (List.dropWhile_sublist _)) ?_
  rw [List.length_reverse]
  exact List.Sublist.length_le (List.dropWhile_sublist _)
set_option maxHeartbeats 2000000 in
theorem rtrim_ok (l : List Nd) (hl : l.length ≤ 1099511627776) : PCalls Tryz.prog 36 [.sl 7 (l.map nF)] (.sl 7 ((trimF l).map nF)) := by
  refine p_start Tryz.func36 Tryz.ntmps36 rfl rfl rfl fun S w => ?_
  refine awp_seq ?_
  repeat (first | refine thenA_normal ?_ | refine a_region ?_ | refine r_done ?_ | (refine r_id ?_; first | refine r_ev tab_ok rfl rfl rfl rfl byE rfl ?_))
  refine awp_seq ?_
  refine awp_cutx (σ := {m : List Nd // m.length ≤ l.length ∧ trimB m = trimF l}) (fun x => ⟨[], [(0, .sl 7 (x.1.map nF))]⟩) ?_ ?_
  · repeat (first | refine awp_block ?_)
    refine a_loop (σ := {m : List Nd // m.length ≤ l.length ∧ m.dropWhile whN = l.dropWhile whN}) (fun _ => []) (fun x => [(0, .sl 7 (x.1.map nF))]) (fun x => x.1.length) ⟨l, Nat.le_refl _, rfl⟩ (fits_of rfl byK) ?_
    rintro ⟨m, hml, hd⟩
    dsimp only
    have hmm : (m.map nF).length = m.length := List.length_map _
    rcases m with _ | ⟨a, r⟩
    · repeat (first | refine awp_seq ?_ | refine thenA_normal ?_ | refine a_region ?_ | refine awp_exit ?_ | refine thenA_exit ?_ | refine blockA_hit rfl ?_ | refine r_done ?_ | (refine r_id ?_; first | refine r_len tab_ok rfl rfl rfl rfl rfl rfl rfl ?_ | refine r_ev tab_ok rfl rfl rfl rfl byE rfl ?_ | refine r_ev_cnd tab_ok rfl rfl rfl rfl rfl rfl byC (by first | exact fun _ => trivial | (intro h; simp at h; first | exact ⟨by omega, by omega⟩ | omega)) rfl ?_ | refine r_pick_f rfl rfl rfl rfl rfl rfl rfl ?_ | refine r_off rfl rfl rfl rfl rfl rfl ?_) | refine awp_cond_f rfl ?_)
      exact ⟨rfl, ⟨[], Nat.zero_le _, by rw [trimF, ← hd]; rfl⟩, fits_of rfl byK⟩
    · have hpos : 0 < (a :: r).length := Nat.succ_pos _
      have hat : ∀ h : ((0 : Int)).toNat < (a :: r).length, (a :: r)[((0 : Int)).toNat]'h = a := fun _ => rfl
      repeat (first | refine awp_seq ?_ | refine thenA_normal ?_ | refine a_region ?_ | refine r_done ?_ | (refine r_id ?_; first | refine r_len tab_ok rfl rfl rfl rfl rfl rfl rfl ?_ | refine r_ev tab_ok rfl rfl rfl rfl byE rfl ?_ | refine r_ev_cnd tab_ok rfl rfl rfl rfl rfl rfl byC (by first | exact fun _ => trivial | (intro h; simp at h; first | exact ⟨by omega, by omega⟩ | omega)) rfl ?_ | refine r_idx_cnd tab_ok rfl rfl rfl rfl rfl rfl rfl byC rfl rfl (by exact ⟨by omega, by omega⟩) rfl rfl ?_ | refine r_and rfl rfl rfl rfl rfl rfl rfl rfl ?_))
      refine awp_cond rfl (fun h => ?_) (fun h => ?_)
      · have hwa : whN a = true := by
          rw [Bool.and_eq_true] at h
          exact h.2
        have eq1 : ((a :: r).take ((((a :: r).length : Nat) : Int)).toNat).drop 1 = r := by
          rw [Int.toNat_natCast, List.take_length]
          rfl
        repeat (first | refine thenA_normal ?_ | refine awp_block ?_ | refine a_region ?_ | refine blockA_normal ?_ | refine awp_skip ?_ | refine r_done ?_ | (refine r_id ?_; first | refine r_ev tab_ok rfl rfl rfl rfl byE rfl ?_ | refine r_cut tab_ok rfl rfl rfl rfl rfl rfl rfl rfl (by first | exact ⟨by simp, by simp; omega, by simp⟩ | (simp; omega)) rfl ?_))
        refine ⟨⟨r, by rw [List.length_cons] at hml; omega, by rw [← hd, List.dropWhile_cons_of_pos hwa]⟩, by dsimp only; rw [List.length_cons]; omega, fits_conv byV ⟨c_sub rfl (Sub.of_eq (by rw [← congrArg (List.map nF) eq1]; rfl)) rfl, trivial⟩⟩
      · have hwa : whN a = false := by
          have hp : decide (0 < (((a :: r).length : Nat) : Int)) = true := by rw [decide_eq_true_eq]; omega
          rw [hp, Bool.true_and] at h
          exact h
        repeat (first | refine awp_exit ?_ | refine thenA_exit ?_ | refine blockA_hit rfl ?_)
        exact ⟨rfl, ⟨a :: r, hml, by rw [trimF, ← hd, List.dropWhile_cons_of_neg (by rw [hwa]; decide)]⟩, fits_of rfl byK⟩
  rintro ⟨m, hml, hmt⟩
  dsimp only
  repeat (first | refine awp_seq ?_ | refine awp_block ?_)
  refine a_loop (σ := {k : List Nd // k.length ≤ l.length ∧ trimB k = trimF l}) (fun _ => []) (fun x => [(0, .sl 7 (x.1.map nF))]) (fun x => x.1.length) ⟨m, hml, hmt⟩ (fits_of rfl byK) ?_
  rintro ⟨k, hkl, hkt⟩
  dsimp only
  have hkm : (k.map nF).length = k.length := List.length_map _
  rcases snoc_or k with rfl | ⟨q, z, rfl⟩
  · repeat (first | refine awp_seq ?_ | refine thenA_normal ?_ | refine a_region ?_ | refine awp_ret ?_ | refine awp_exit ?_ | refine r_done ?_ | (refine r_id ?_; first | refine r_len tab_ok rfl rfl rfl rfl rfl rfl rfl ?_ | refine r_ev tab_ok rfl rfl rfl rfl byE rfl ?_ | refine r_len_cnd tab_ok rfl rfl rfl rfl rfl rfl (by first | exact fun _ => rfl | exact cs1) rfl rfl rfl ?_ | refine r_ev_cnd tab_ok rfl rfl rfl rfl rfl rfl byC (by first | exact fun _ => trivial | (intro h; simp at h; first | exact ⟨by omega, by omega⟩ | omega)) rfl ?_ | refine r_pick_f rfl rfl rfl rfl rfl rfl rfl ?_ | refine r_off rfl rfl rfl rfl rfl rfl ?_) | refine ret1 byO rfl rfl rfl ?_ | refine awp_cond_f rfl ?_)
    exact Sub.of_eq (by rw [← hkt]; rfl)
  · have hql : (q ++ [z]).length = q.length + 1 := by rw [List.length_append, List.length_singleton]
    have hlt : ((((q ++ [z]).length : Nat) : Int) - 1).toNat < (q ++ [z]).length := by omega
    have hz : (q ++ [z])[((((q ++ [z]).length : Nat) : Int) - 1).toNat]'hlt = z := by
      have e : ((((q ++ [z]).length : Nat) : Int) - 1).toNat = q.length := by omega
      simp only [e]
      simp
    repeat (first | refine awp_seq ?_ | refine thenA_normal ?_ | refine a_region ?_ | refine r_done ?_ | (refine r_id ?_; first | refine r_len tab_ok rfl rfl rfl rfl rfl rfl rfl ?_ | refine r_ev tab_ok rfl rfl rfl rfl byE rfl ?_ | refine r_len_cnd tab_ok rfl rfl rfl rfl rfl rfl (by first | exact fun _ => rfl | exact cs1) rfl rfl rfl ?_ | refine r_ev_cnd tab_ok rfl rfl rfl rfl rfl rfl byC (by first | exact fun _ => trivial | (intro h; simp at h; first | exact ⟨by omega, by omega⟩ | omega)) rfl ?_ | refine r_idx_cnd tab_ok rfl rfl rfl rfl rfl rfl rfl byC rfl rfl (by exact ⟨by omega, by omega⟩) rfl rfl ?_ | refine r_and rfl rfl rfl rfl rfl rfl rfl rfl ?_))
    simp only [hz]
    refine awp_cond rfl (fun h2 => ?_) (fun h2 => ?_)
    · have hwz : whN z = true := by
        rw [Bool.and_eq_true] at h2
        exact h2.2
      have eq1 : ((q ++ [z]).take ((((q ++ [z]).length : Nat) : Int) - 1).toNat).drop 0 = q := by
        have e : ((((q ++ [z]).length : Nat) : Int) - 1).toNat = q.length := by omega
        rw [e, List.drop_zero, List.take_left]
      repeat (first | refine thenA_normal ?_ | refine awp_block ?_ | refine a_region ?_ | refine blockA_normal ?_ | refine awp_skip ?_ | refine r_done ?_ | (refine r_id ?_; first | refine r_len tab_ok rfl rfl rfl rfl rfl rfl rfl ?_ | refine r_ev tab_ok rfl rfl rfl rfl byE rfl ?_ | refine r_cut tab_ok rfl rfl rfl rfl rfl rfl rfl rfl (by first | exact ⟨by simp, by simp; omega, by simp⟩ | (simp; omega)) rfl ?_))
      refine ⟨⟨q, by omega, by rw [← hkt, trimB_go hwz]⟩, by dsimp only; omega, fits_conv byV ⟨c_sub rfl (Sub.of_eq (by rw [← congrArg (List.map nF) eq1]; rfl)) rfl, trivial⟩⟩
    · have hwz : whN z = false := by
        have hp : decide (0 < (((q ++ [z]).length : Nat) : Int)) = true := by rw [decide_eq_true_eq]; omega
        rw [hp, Bool.true_and] at h2
        exact h2
      rw [trimB_no hwz] at hkt
      repeat (first | refine awp_seq ?_ | refine thenA_normal ?_ | refine a_region ?_ | refine awp_ret ?_ | refine awp_exit ?_ | refine r_done ?_ | (refine r_id ?_; first | refine r_ev tab_ok rfl rfl rfl rfl byE rfl ?_) | refine ret1 byO rfl rfl rfl ?_)
      exact Sub.of_eq (by rw [hkt])
theorem imp_eq (t u : Tk) : (exclB t && impB u) = !(!decide (t.kind = 9) || !decide (t.text = ⟨#[33]⟩) || !decide (u.kind = 1) || !decide (lowS u.text = impS)) := by
  rw [exclB, impB]
  cases decide (t.kind = 9) <;> cases decide (t.text = ⟨#[33]⟩) <;> cases decide (u.kind = 1) <;> cases decide (lowS u.text = impS) <;> rfl
theorem nwI_len (l : List Nd) : (nwI l).length ≤ l.length := by
  have := List.length_filter_le (fun i => !whN (ndAt l i)) (List.range l.length)
  rwa [List.length_range] at this
theorem nwI_lt {l : List Nd} : ∀ i ∈ nwI l, i < l.length := fun i hi => List.mem_range.1 (List.mem_filter.1 hi).1
def nwT (l : List Nd) (k : Nat) : List Nat := (List.range k).filter fun i => !whN (ndAt l i)
theorem nwT_succ (l : List Nd) (k : Nat) : nwT l (k + 1) = nwT l k ++ (if whN (ndAt l k) then [] else [k]) := by
  rw [nwT, nwT, List.range_succ, List.filter_append]
  congr 1
  cases h : whN (ndAt l k) <;> simp [h]
theorem nwT_len (l : List Nd) (k : Nat) : (nwT l k).length ≤ k := by
  have := List.length_filter_le (fun i => !whN (ndAt l i)) (List.range k)
  rwa [List.length_range] at this
def nI (n : Nat) : D := iD n
set_option maxHeartbeats 2000000 in
theorem rvalue_ok (l0 : List Nd) (hl : l0.length ≤ 1099511627776) (ht : ∀ n ∈ l0, n.tok.text.size ≤ 1099511627776) : PCalls Tryz.prog 16 [.sl 7 (l0.map nF)] (.tup [.sl 7 ((valF l0).1.map nF), .val (.bool (valF l0).2)]) := by
  refine p_start Tryz.func16 Tryz.ntmps16 rfl rfl rfl fun S w => ?_
  have hT := rtrim_ok l0 hl
  have htl := trimF_len l0
  rw [valF]
  obtain ⟨l, hll⟩ : ∃ l, l = trimF l0 := ⟨_, rfl⟩
  rw [← hll] at hT htl ⊢
  have hlm : (l.map nF).length = l.length := List.length_map _
  repeat (first | refine awp_seq ?_ | refine a_region ?_ | refine r_done ?_ | (refine r_id ?_; first | refine r_ev tab_ok rfl rfl rfl rfl byE rfl ?_))
  refine r_call hT call36 rfl rfl ⟨Sub.refl _, trivial⟩ rfl rfl rfl rfl ?_
  repeat (first | refine awp_seq ?_ | refine thenA_normal ?_ | refine awp_block ?_ | refine a_region ?_ | refine r_done ?_ | (refine r_id ?_; first | refine r_ev tab_ok rfl rfl rfl rfl byE rfl ?_))
  refine a_loop (σ := {i : Nat // i ≤ l.length}) (fun x => [.row 0 3 1 ((nwT l x.1).map nI)]) (fun x => [(0, .sl 7 (l.map nF)), (4, .row 0 0), (5, .val (.int .i64 x.1))]) (fun x => l.length - x.1) ⟨0, Nat.zero_le _⟩ (fits_conv byV byV) ?_
  rintro ⟨i, hi⟩
  dsimp only
  have hnl := nwT_len l i
  have hnm : ((nwT l i).map nI).length = (nwT l i).length := List.length_map _
  have hsu := nwT_succ l i
  have hend : i = l.length → nwT l i = nwI l := fun h => by rw [h]; rfl
  obtain ⟨X, hX⟩ : ∃ X, X = nwT l i := ⟨_, rfl⟩
  rw [← hX] at hnl hnm hsu hend ⊢
  repeat (first | refine awp_seq ?_ | refine thenA_normal ?_ | refine a_region ?_ | refine r_done ?_ | (refine r_id ?_; first | refine r_len tab_ok rfl rfl rfl rfl rfl rfl rfl ?_ | refine r_ev tab_ok rfl rfl rfl rfl byE rfl ?_))
  refine awp_cond_p rfl (fun hlt => ?_) (fun hge => ?_)
  · have hi' : i < l.length := by omega
    have hgi := ndAt_get hi'
    repeat (first | refine awp_seq ?_ | refine thenA_normal ?_ | refine awp_block ?_ | refine a_region ?_ | refine awp_skip ?_ | refine r_done ?_ | (refine r_id ?_; first | refine r_ev tab_ok rfl rfl rfl rfl byE rfl ?_ | refine r_idx tab_ok rfl rfl rfl rfl rfl rfl rfl (by first | exact ⟨by omega, by omega⟩ | (simp; omega)) rfl rfl ?_))
    simp only [Int.toNat_natCast, hgi]
    refine awp_cond_n rfl (fun hc => ?_) (fun hc => ?_)
    · have hw : whN (ndAt l i) = false := decide_eq_false hc
      rw [hw, if_neg Bool.false_ne_true] at hsu
      repeat (first | refine thenA_normal ?_ | refine a_region ?_ | refine r_done ?_ | (refine r_id ?_; first | refine r_ev tab_ok rfl rfl rfl rfl byE rfl ?_ | refine r_built tab_ok rfl rfl rfl rfl rfl rfl rfl rfl rfl ?_ | refine r_append tab_ok rfl rfl rfl rfl rfl rfl rfl rfl rfl (by first | omega | (simp; omega)) rfl ?_))
      refine ⟨⟨i + 1, by omega⟩, by dsimp only; omega, ?_⟩
      dsimp only
      rw [hsu, List.map_append]
      exact fits_conv byV byV
    · have hw : whN (ndAt l i) = true := decide_eq_true hc
      rw [hw, if_pos rfl, List.append_nil] at hsu
      repeat (first | refine thenA_normal ?_ | refine a_region ?_ | refine awp_skip ?_ | refine r_done ?_ | (refine r_id ?_; first | refine r_ev tab_ok rfl rfl rfl rfl byE rfl ?_))
      refine ⟨⟨i + 1, by omega⟩, by dsimp only; omega, ?_⟩
      dsimp only
      rw [hsu]
      exact fits_conv byV byV
  · have hXe := hend (by omega)
    rw [← hXe]
    repeat (first | refine awp_seq ?_ | refine awp_exit ?_)
    refine awp_fits (s' := ⟨[.gone], [(0, .sl 7 (l.map nF)), (4, .sl 1 (X.map nI))]⟩) (fits_conv byV byV) ?_
    repeat (first | refine awp_seq ?_ | refine thenA_normal ?_ | refine a_region ?_ | refine r_done ?_ | (refine r_id ?_; first | refine r_len tab_ok rfl rfl rfl rfl rfl rfl rfl ?_ | refine r_ev tab_ok rfl rfl rfl rfl byE rfl ?_))
    refine awp_cond_p rfl (fun h2 => ?_) (fun h2 => ?_)
    · rw [if_pos (by omega)]
      repeat (first | refine awp_seq ?_ | refine thenA_normal ?_ | refine a_region ?_ | refine awp_ret ?_ | refine thenA_ret ?_ | refine r_done ?_ | (refine r_id ?_; first | refine r_ev tab_ok rfl rfl rfl rfl byE rfl ?_) | refine ret2 byO rfl rfl rfl rfl ?_ ?_)
      all_goals exact Sub.refl _
    · rw [if_neg (by omega)]
      have hXi : ∀ j, j < X.length → X.getD j 0 < l.length := fun j hj => by
        have h3 : X.getD j 0 = X[j] := by rw [List.getD_eq_getElem?_getD, List.getElem?_eq_getElem hj]; rfl
        rw [h3]
        have := List.getElem_mem hj
        simp only [hXe] at this ⊢
        exact nwI_lt _ this
      obtain ⟨a, ha⟩ : ∃ a, X.getD (X.length - 2) 0 = a := ⟨_, rfl⟩
      obtain ⟨b, hb⟩ : ∃ b, X.getD (X.length - 1) 0 = b := ⟨_, rfl⟩
      have hal : a < l.length := by rw [← ha]; exact hXi _ (by omega)
      have hbl : b < l.length := by rw [← hb]; exact hXi _ (by omega)
      have eA : ∀ h, X[(((X.length : Nat) : Int) - 2).toNat]'h = a := fun h => by
        have e : (((X.length : Nat) : Int) - 2).toNat = X.length - 2 := by omega
        simp only [e]
        rw [← ha, List.getD_eq_getElem?_getD, List.getElem?_eq_getElem (show X.length - 2 < X.length by omega)]; rfl
      have eB : ∀ h, X[(((X.length : Nat) : Int) - 1).toNat]'h = b := fun h => by
        have e : (((X.length : Nat) : Int) - 1).toNat = X.length - 1 := by omega
        simp only [e]
        rw [← hb, List.getD_eq_getElem?_getD, List.getElem?_eq_getElem (show X.length - 1 < X.length by omega)]; rfl
      rw [ha, hb]
      have hga := ndAt_get hal
      have hgb := ndAt_get hbl
      have hmem : ndAt l b ∈ l0 := by
        have h3 : ndAt l b ∈ trimF l0 := by rw [← hll, ← hgb]; exact List.getElem_mem hbl
        generalize ndAt l b = z at h3
        rw [trimF, trimB] at h3
        have h4 := (List.dropWhile_sublist whN).subset (List.mem_reverse.1 h3)
        exact (List.dropWhile_sublist whN).subset (List.mem_reverse.1 h4)
      repeat (first | refine awp_seq ?_ | refine awp_skip ?_)
      refine a_draw2 mixed_ok 18 [0, 0, 0, 0, 0, 0, 0, 0, 0, 0, 0, 0, 0, 0, 0, 0, 0, 0, 2, 2, 2, 2] (by kernel_rfl) rfl rfl rfl ?_
      repeat (first | (refine r_id ?_; first | refine r_ev tab_ok rfl rfl rfl rfl byE rfl ?_ | refine r_idx tab_ok rfl rfl rfl rfl rfl rfl rfl (by first | exact ⟨by omega, by omega⟩ | (simp; omega)) rfl rfl ?_))
      simp only [eA]
      repeat (first | (refine r_id ?_; first | refine r_ev tab_ok rfl rfl rfl rfl byE rfl ?_ | refine r_idx tab_ok rfl rfl rfl rfl rfl rfl rfl (by first | exact ⟨by omega, by omega⟩ | (simp; omega)) rfl rfl ?_))
      simp only [eA, Int.toNat_natCast, hga]
      try simp only [eB]
      repeat (first | refine r_done' ?_ | (refine r_id ?_; first | refine r_ev tab_ok rfl rfl rfl rfl byE rfl ?_ | refine r_idx tab_ok rfl rfl rfl rfl rfl rfl rfl (by first | exact ⟨by omega, by omega⟩ | (simp; omega)) rfl rfl ?_))
      try simp only [eB, Int.toNat_natCast, hgb]
      obtain ⟨na, hna⟩ : ∃ na, ndAt l a = na := ⟨_, rfl⟩
      obtain ⟨nb, hnb⟩ : ∃ nb, ndAt l b = nb := ⟨_, rfl⟩
      have hnt := ht _ hmem
      simp only [hna, hnb] at hnt ⊢
      refine ⟨?_, ?_⟩
      · repeat (first | refine awp_seq ?_ | refine a_region ?_ | refine r_done' ?_ | (refine r_id ?_; first | refine r_ev tab_ok rfl rfl rfl rfl byE rfl ?_ | refine r_ld tab_ok rfl rfl rfl rfl rfl ?_ | refine r_wr tab_ok rfl rfl rfl rfl rfl ?_ | refine r_st tab_ok rfl rfl rfl rfl ?_ | refine r_ev_cnd tab_ok rfl rfl rfl rfl rfl rfl byC (by first | exact fun _ => trivial | (intro h; simp at h; first | exact ⟨by omega, by omega⟩ | omega)) rfl ?_ | refine r_ld_cnd tab_ok rfl rfl rfl rfl rfl rfl byC rfl ?_ | refine r_or rfl rfl rfl rfl rfl rfl rfl rfl ?_))
        refine r_call_cnd (fun _ => refLower nb.tok.text (by omega)) call34 rfl rfl rfl rfl byC ⟨Sub.refl _, trivial⟩ rfl rfl rfl rfl ?_
        repeat (first | refine thenA_normal ?_ | refine r_done ?_ | (refine r_id ?_; first | refine r_ev_cnd tab_ok rfl rfl rfl rfl rfl rfl byC (by first | exact fun _ => trivial | (intro h; simp at h; first | exact ⟨by omega, by omega⟩ | omega)) rfl ?_ | refine r_or rfl rfl rfl rfl rfl rfl rfl rfl ?_))
        refine awp_cond rfl (fun hc => ?_) (fun hc => ?_)
        · have he : (exclB na.tok && impB nb.tok) = false := by rw [imp_eq]; exact congrArg (!·) hc
          rw [he, if_neg Bool.false_ne_true]
          repeat (first | refine awp_seq ?_ | refine thenA_normal ?_ | refine a_region ?_ | refine awp_ret ?_ | refine thenA_ret ?_ | refine r_done ?_ | (refine r_id ?_; first | refine r_ev tab_ok rfl rfl rfl rfl byE rfl ?_) | refine ret2 byO rfl rfl rfl rfl ?_ ?_)
          all_goals exact Sub.refl _
        · have he : (exclB na.tok && impB nb.tok) = true := by rw [imp_eq]; exact congrArg (!·) hc
          rw [he, if_pos rfl]
          have hT2 := rtrim_ok (l.take a) (by rw [List.length_take]; omega)
          repeat (first | refine awp_seq ?_ | refine a_region ?_ | refine awp_skip ?_ | (refine r_id ?_; first | refine r_ev tab_ok rfl rfl rfl rfl byE rfl ?_ | refine r_idx tab_ok rfl rfl rfl rfl rfl rfl rfl (by first | exact ⟨by omega, by omega⟩ | (simp; omega)) rfl rfl ?_))
          simp only [eA]
          repeat (first | (refine r_id ?_; first | refine r_cut tab_ok rfl rfl rfl rfl rfl rfl rfl rfl (by first | exact ⟨by simp, by simp; omega, by simp⟩ | (simp; omega)) rfl ?_))
          refine r_call hT2 call36 rfl rfl ⟨Sub.refl _, trivial⟩ rfl rfl rfl rfl ?_
          repeat (first | refine thenA_normal ?_ | refine awp_ret ?_ | refine r_done ?_ | (refine r_id ?_; first | refine r_ev tab_ok rfl rfl rfl rfl byE rfl ?_) | refine ret2 byO rfl rfl rfl rfl ?_ ?_)
          all_goals exact Sub.refl _
      · repeat (first | refine awp_seq ?_ | refine a_region ?_ | refine r_done' ?_ | (refine r_id ?_; first | refine r_ev tab_ok rfl rfl rfl rfl byE rfl ?_ | refine r_ld tab_ok rfl rfl rfl rfl rfl ?_ | refine r_wr tab_ok rfl rfl rfl rfl rfl ?_ | refine r_st tab_ok rfl rfl rfl rfl ?_ | refine r_ev_cnd tab_ok rfl rfl rfl rfl rfl rfl byC (by first | exact fun _ => trivial | (intro h; simp at h; first | exact ⟨by omega, by omega⟩ | omega)) rfl ?_ | refine r_ld_cnd tab_ok rfl rfl rfl rfl rfl rfl byC rfl ?_ | refine r_or rfl rfl rfl rfl rfl rfl rfl rfl ?_))
        refine r_call_cnd (fun _ => refLower nb.tok.text (by omega)) call34 rfl rfl rfl rfl byC ⟨Sub.refl _, trivial⟩ rfl rfl rfl rfl ?_
        repeat (first | refine thenA_normal ?_ | refine r_done ?_ | (refine r_id ?_; first | refine r_ev_cnd tab_ok rfl rfl rfl rfl rfl rfl byC (by first | exact fun _ => trivial | (intro h; simp at h; first | exact ⟨by omega, by omega⟩ | omega)) rfl ?_ | refine r_or rfl rfl rfl rfl rfl rfl rfl rfl ?_))
        refine awp_cond rfl (fun hc => ?_) (fun hc => ?_)
        · have he : (exclB na.tok && impB nb.tok) = false := by rw [imp_eq]; exact congrArg (!·) hc
          rw [he, if_neg Bool.false_ne_true]
          repeat (first | refine awp_seq ?_ | refine thenA_normal ?_ | refine a_region ?_ | refine awp_ret ?_ | refine thenA_ret ?_ | refine r_done ?_ | (refine r_id ?_; first | refine r_ev tab_ok rfl rfl rfl rfl byE rfl ?_) | refine ret2 byO rfl rfl rfl rfl ?_ ?_)
          all_goals exact Sub.refl _
        · have he : (exclB na.tok && impB nb.tok) = true := by rw [imp_eq]; exact congrArg (!·) hc
          rw [he, if_pos rfl]
          have hT2 := rtrim_ok (l.take a) (by rw [List.length_take]; omega)
          repeat (first | refine awp_seq ?_ | refine a_region ?_ | refine awp_skip ?_ | (refine r_id ?_; first | refine r_ev tab_ok rfl rfl rfl rfl byE rfl ?_ | refine r_idx tab_ok rfl rfl rfl rfl rfl rfl rfl (by first | exact ⟨by omega, by omega⟩ | (simp; omega)) rfl rfl ?_))
          simp only [eA]
          repeat (first | (refine r_id ?_; first | refine r_cut tab_ok rfl rfl rfl rfl rfl rfl rfl rfl (by first | exact ⟨by simp, by simp; omega, by simp⟩ | (simp; omega)) rfl ?_))
          refine r_call hT2 call36 rfl rfl ⟨Sub.refl _, trivial⟩ rfl rfl rfl rfl ?_
          repeat (first | refine thenA_normal ?_ | refine awp_ret ?_ | refine r_done ?_ | (refine r_id ?_; first | refine r_ev tab_ok rfl rfl rfl rfl byE rfl ?_) | refine ret2 byO rfl rfl rfl rfl ?_ ?_)
          all_goals exact Sub.refl _
end Go.Proofs.YtiolnmfaeenlmaaGreatDoor

/- The reference's Decls. -/
namespace Go.Proofs.YtiolnmfaeenlmaaGreatDoor
open Go Go.RowKit

theorem trimF_mem {l : List Nd} : ∀ n ∈ trimF l, n ∈ l := fun z h3 => by
  rw [trimF, trimB] at h3
  have h4 := (List.dropWhile_sublist whN).subset (List.mem_reverse.1 h3)
  exact (List.dropWhile_sublist whN).subset (List.mem_reverse.1 h4)
theorem valF_len (l : List Nd) : (valF l).1.length ≤ l.length := by
  have h1 := trimF_len l
  rw [valF]
  split
  · exact h1
  · split
    · refine Nat.le_trans (trimF_len _) ?_
      rw [List.length_take]; omega
    · exact h1
instance : Inhabited Nd := ⟨.mk tk0 []⟩
theorem awp_cutv {cx : Cx} {s : AS} {Q : Exit → AS → Prop} (s' : AS) {c b : Code} (h1 : AWp cx c s (fun e s'' => e = .normal ∧ Fits cx s'' s')) (h2 : AWp cx b s' Q) : AWp cx c s (thenA (fun s'' => AWp cx b s'' Q) Q) :=
  awp_mono h1 fun e s'' h => by
    obtain ⟨rfl, h⟩ := h
    exact thenA_normal (awp_fits h h2)
theorem ndAt_take {l : List Nd} {k c : Nat} (h : c < k) : ndAt (l.take k) c = ndAt l c := by
  simp only [ndAt, List.getD_eq_getElem?_getD, List.getElem?_take, if_pos h]
structure DcS (l : List Nd) where
  i : Nat
  out : List Dc
  hl : out.length ≤ i
  hi : i ≤ l.length + 1
  eq : out ++ decA l i = decA l 0
set_option maxHeartbeats 4000000 in
theorem rdecls_ok (l : List Nd) (hl : l.length ≤ 549755813888) (ht : ∀ n ∈ l, n.tok.text.size ≤ 1099511627776) : PCalls Tryz.prog 20 [.sl 7 (l.map nF)] (.sl 3 ((decA l 0).map dcD)) := by
  refine p_start Tryz.func20 Tryz.ntmps20 rfl rfl rfl fun S w => ?_
  have hlm : (l.map nF).length = l.length := List.length_map _
  repeat (first | refine awp_seq ?_ | refine thenA_normal ?_ | refine awp_block ?_ | refine a_region ?_ | refine r_done ?_ | (refine r_id ?_; first | refine r_ev tab_ok rfl rfl rfl rfl byE rfl ?_))
  refine a_loop (σ := DcS l) (fun x => [.row 0 51 3 (x.out.map dcD)]) (fun x => [(0, .sl 7 (l.map nF)), (3, .row 0 0), (4, .val (.int .i64 x.i))]) (fun x => l.length + 1 - x.i) ⟨0, [], Nat.zero_le _, Nat.zero_le _, rfl⟩ (fits_conv byV byV) ?_
  rintro ⟨i, out, hol, hi, heq⟩
  dsimp only
  have hom : (out.map dcD).length = out.length := List.length_map _
  repeat (first | refine awp_seq ?_ | refine thenA_normal ?_ | refine a_region ?_ | refine r_done ?_ | (refine r_id ?_; first | refine r_len tab_ok rfl rfl rfl rfl rfl rfl rfl ?_ | refine r_ev tab_ok rfl rfl rfl rfl byE rfl ?_))
  refine awp_cond_p rfl (fun hlt => ?_) (fun hge => ?_)
  rotate_left
  · rw [decA_end (by omega), List.append_nil] at heq
    rw [heq]
    repeat (first | refine awp_seq ?_ | refine thenA_normal ?_ | refine a_region ?_ | refine awp_ret ?_ | refine awp_exit ?_ | refine r_done ?_ | (refine r_id ?_; first | refine r_ev tab_ok rfl rfl rfl rfl byE rfl ?_) | refine ret1_row byO rfl rfl rfl ?_)
    all_goals exact Sub.refl _
  have hi' : i < l.length := by omega
  have hgi := ndAt_get hi'
  rw [decA_step hi'] at heq
  obtain ⟨n, hn⟩ : ∃ n, ndAt l i = n := ⟨_, rfl⟩
  have hnt := ht n (by rw [← hn, ← hgi]; exact List.getElem_mem hi')
  simp only [hn] at heq hgi
  repeat (first | refine awp_seq ?_ | refine thenA_normal ?_ | refine awp_block ?_ | refine a_region ?_ | refine awp_skip ?_ | refine r_done ?_ | (refine r_id ?_; first | refine r_ev tab_ok rfl rfl rfl rfl byE rfl ?_ | refine r_ld tab_ok rfl rfl rfl rfl rfl ?_ | refine r_idx tab_ok rfl rfl rfl rfl rfl rfl rfl (by first | exact ⟨by omega, by omega⟩ | (simp; omega)) rfl rfl ?_ | refine r_wr tab_ok rfl rfl rfl rfl rfl ?_ | refine r_st tab_ok rfl rfl rfl rfl ?_ | refine r_ev_cnd tab_ok rfl rfl rfl rfl rfl rfl byC (by first | exact fun _ => trivial | (intro h; simp at h; first | exact ⟨by omega, by omega⟩ | omega)) rfl ?_ | refine r_ld_cnd tab_ok rfl rfl rfl rfl rfl rfl byC rfl ?_ | refine r_or rfl rfl rfl rfl rfl rfl rfl rfl ?_))
  simp only [Int.toNat_natCast, hgi]
  refine awp_cond rfl (fun hc => ?_) (fun hc => ?_)
  · rw [if_pos hc] at heq
    repeat (first | refine awp_seq ?_ | refine thenA_normal ?_ | refine a_region ?_ | refine awp_exit ?_ | refine thenA_exit ?_ | refine blockA_hit rfl ?_ | refine r_done ?_ | (refine r_id ?_; first | refine r_ev tab_ok rfl rfl rfl rfl byE rfl ?_))
    exact ⟨⟨i + 1, out, by omega, by omega, heq⟩, by dsimp only; omega, fits_drop 1 rfl rfl byK⟩
  rw [if_neg (by rw [hc]; exact Bool.false_ne_true)] at heq
  repeat (first | refine awp_seq ?_ | refine thenA_normal ?_ | refine a_region ?_ | refine awp_skip ?_ | refine r_done ?_ | (refine r_id ?_; first | refine r_ev tab_ok rfl rfl rfl rfl byE rfl ?_ | refine r_ld tab_ok rfl rfl rfl rfl rfl ?_))
  refine awp_cond_p rfl (fun hat => ?_) (fun hat => ?_)
  · rw [if_pos hat] at heq
    repeat (first | refine awp_seq ?_ | refine awp_block ?_)
    refine a_loop (σ := {k : Nat // i ≤ k ∧ k ≤ runE (fun n => !semB n && !blkB n) l i}) (fun _ => [.row 0 51 3 (out.map dcD)]) (fun x => [(0, .sl 7 (l.map nF)), (3, .row 0 0), (4, .val (.int .i64 x.1))]) (fun x => l.length - x.1) ⟨i, Nat.le_refl _, runE_ge _ _ _⟩ (fits_drop 1 rfl rfl byK) ?_
    rintro ⟨k, hik, hk⟩
    dsimp only
    have hle := runE_le (p := fun n => !semB n && !blkB n) (Nat.le_of_lt hi')
    rcases Nat.lt_or_ge k l.length with hkl | hkl
    · have hgk := ndAt_get hkl
      have hmore := runE_more (p := fun n => !semB n && !blkB n) hik hk hkl
      have hstop := fun h => runE_stop (p := fun n => !semB n && !blkB n) hik hk (fun _ => h)
      obtain ⟨m, hm⟩ : ∃ m, ndAt l k = m := ⟨_, rfl⟩
      simp only [hm] at hgk hmore hstop
      repeat (first | refine awp_seq ?_ | refine a_region ?_ | (refine r_id ?_; first | refine r_len tab_ok rfl rfl rfl rfl rfl rfl rfl ?_ | refine r_ev tab_ok rfl rfl rfl rfl byE rfl ?_ | refine r_ev_cnd tab_ok rfl rfl rfl rfl rfl rfl byC (by first | exact fun _ => trivial | (intro h; simp at h; first | exact ⟨by omega, by omega⟩ | omega)) rfl ?_ | refine r_idx_cnd tab_ok rfl rfl rfl rfl rfl rfl rfl byC rfl rfl (by exact ⟨by omega, by omega⟩) rfl rfl ?_ | refine r_and rfl rfl rfl rfl rfl rfl rfl rfl ?_))
      simp only [Int.toNat_natCast, hgk]
      try simp only [Int.toNat_natCast, hgk]
      refine r_call_cnd (fun _ => rblock_ok m) call35 rfl rfl rfl rfl byC ⟨Sub.refl _, trivial⟩ rfl rfl rfl rfl ?_
      repeat (first | refine thenA_normal ?_ | refine r_done ?_ | (refine r_id ?_; first | refine r_ev_cnd tab_ok rfl rfl rfl rfl rfl rfl byC (by first | exact fun _ => trivial | (intro h; simp at h; first | exact ⟨by omega, by omega⟩ | omega)) rfl ?_ | refine r_and rfl rfl rfl rfl rfl rfl rfl rfl ?_))
      have hd : decide ((k : Int) < l.length) = true := decide_eq_true (by omega)
      refine awp_cond rfl (fun hc => ?_) (fun hc => ?_)
      · rw [hd, Bool.true_and] at hc
        have hlt2 := hmore hc
        repeat (first | refine thenA_normal ?_ | refine awp_block ?_ | refine a_region ?_ | refine blockA_normal ?_ | refine awp_skip ?_ | refine r_done ?_ | (refine r_id ?_; first | refine r_ev tab_ok rfl rfl rfl rfl byE rfl ?_))
        exact ⟨⟨k + 1, by omega, hlt2⟩, by dsimp only; omega, fits_of rfl byK⟩
      · rw [hd, Bool.true_and] at hc
        have he := hstop hc
        rw [← he] at heq
        repeat (first | refine awp_seq ?_ | refine thenA_normal ?_ | refine a_region ?_ | refine awp_exit ?_ | refine thenA_exit ?_ | refine blockA_hit rfl ?_ | refine r_done ?_ | (refine r_id ?_; first | refine r_ev tab_ok rfl rfl rfl rfl byE rfl ?_))
        exact ⟨⟨k + 1, out, by omega, by omega, heq⟩, by dsimp only; omega, fits_of rfl byK⟩
    · have he : k = runE (fun n => !semB n && !blkB n) l i := by omega
      rw [← he] at heq
      repeat (first | refine awp_seq ?_ | refine thenA_normal ?_ | refine a_region ?_ | refine awp_exit ?_ | refine thenA_exit ?_ | refine blockA_hit rfl ?_ | refine r_done ?_ | (refine r_id ?_; first | refine r_len tab_ok rfl rfl rfl rfl rfl rfl rfl ?_ | refine r_ev tab_ok rfl rfl rfl rfl byE rfl ?_ | refine r_pick_f rfl rfl rfl rfl rfl rfl rfl ?_ | refine r_off rfl rfl rfl rfl rfl rfl ?_) | refine awp_cond_f rfl ?_ | refine r_pick_f rfl rfl (congrArg (fun b => AV.val (.bool b)) (decide_eq_false (by omega))) rfl rfl rfl rfl ?_ | refine r_off rfl rfl (congrArg (fun b => AV.val (.bool b)) (decide_eq_false (by omega))) rfl rfl rfl ?_)
      exact ⟨⟨k + 1, out, by omega, by omega, heq⟩, by dsimp only; omega, fits_of rfl byK⟩
  · rw [if_neg hat] at heq
    have hsn : semB n = false := by
      rw [semB]
      simp only [Bool.or_eq_false_iff, decide_eq_false_iff_not] at hc
      exact decide_eq_false hc.2
    repeat (first | refine awp_seq ?_ | refine a_region ?_ | refine awp_skip ?_ | refine r_done ?_ | (refine r_id ?_; first | refine r_ev tab_ok rfl rfl rfl rfl byE rfl ?_))
    obtain ⟨kE, hkE⟩ : ∃ kE, kE = runE (fun n => !semB n) l i := ⟨_, rfl⟩
    have hkgt : i < kE := by rw [hkE]; exact runE_gt hi' (by rw [hn, hsn]; rfl)
    have hkle : kE ≤ l.length := by rw [hkE]; exact runE_le (Nat.le_of_lt hi')
    rw [← hkE] at heq
    refine awp_cutv ⟨[.row 0 51 3 (out.map dcD), .box 47 [.val (.int .i64 n.tok.kind), .val (.string n.tok.text), .val (.int .i64 n.tok.int), .val (.bool n.tok.whole), .val (.bool n.tok.sign), .val (.bool n.tok.id)]], [(0, .sl 7 (l.map nF)), (3, .row 0 0), (4, .val (.int .i64 i)), (5, .ptr 1 0), (6, .val (.int .i64 kE))]⟩ ?_ ?_
    · repeat (first | refine awp_block ?_)
      refine a_loop (σ := {k : Nat // i ≤ k ∧ k ≤ kE}) (fun _ => [.row 0 51 3 (out.map dcD), .box 47 [.val (.int .i64 n.tok.kind), .val (.string n.tok.text), .val (.int .i64 n.tok.int), .val (.bool n.tok.whole), .val (.bool n.tok.sign), .val (.bool n.tok.id)]]) (fun x => [(0, .sl 7 (l.map nF)), (3, .row 0 0), (4, .val (.int .i64 i)), (5, .ptr 1 0), (6, .val (.int .i64 x.1))]) (fun x => l.length - x.1) ⟨i, Nat.le_refl _, Nat.le_of_lt hkgt⟩ (fits_of rfl byK) ?_
      rintro ⟨k, hik, hk⟩
      dsimp only
      rcases Nat.lt_or_ge k kE with hkl | hkl
      · have hkk : k < l.length := by omega
        have hgk := ndAt_get hkk
        obtain ⟨h5, h6⟩ := runE_lt (p := fun n => !semB n) (l := l) (i := i) (k := k) hik (by rw [← hkE]; exact hkl)
        obtain ⟨m, hm⟩ : ∃ m, ndAt l k = m := ⟨_, rfl⟩
        simp only [hm] at hgk h6
        repeat (first | refine awp_seq ?_ | refine thenA_normal ?_ | refine a_region ?_ | refine r_done ?_ | (refine r_id ?_; first | refine r_len tab_ok rfl rfl rfl rfl rfl rfl rfl ?_ | refine r_ev tab_ok rfl rfl rfl rfl byE rfl ?_ | refine r_ev_cnd tab_ok rfl rfl rfl rfl rfl rfl byC (by first | exact fun _ => trivial | (intro h; simp at h; first | exact ⟨by omega, by omega⟩ | omega)) rfl ?_ | refine r_idx_cnd tab_ok rfl rfl rfl rfl rfl rfl rfl byC rfl rfl (by exact ⟨by omega, by omega⟩) rfl rfl ?_ | refine r_and rfl rfl rfl rfl rfl rfl rfl rfl ?_))
        simp only [Int.toNat_natCast, hgk]
        refine awp_cond rfl (fun hc2 => ?_) (fun hc2 => ?_)
        · repeat (first | refine thenA_normal ?_ | refine awp_block ?_ | refine a_region ?_ | refine blockA_normal ?_ | refine awp_skip ?_ | refine r_done ?_ | (refine r_id ?_; first | refine r_ev tab_ok rfl rfl rfl rfl byE rfl ?_))
          exact ⟨⟨k + 1, by omega, hkl⟩, by dsimp only; omega, fits_of rfl byK⟩
        · exfalso
          rw [decide_eq_true (show (k : Int) < l.length by omega), Bool.true_and] at hc2
          have h7 : (!semB m) = false := hc2
          rw [h7] at h6; cases h6
      · have hke : k = kE := by omega
        subst hke
        rcases Nat.lt_or_ge k l.length with hkk | hkk
        · have hgk := ndAt_get hkk
          have h6 := runE_at (p := fun n => !semB n) (l := l) (i := i) (by rw [← hkE]; exact hkk)
          rw [← hkE] at h6
          obtain ⟨m, hm⟩ : ∃ m, ndAt l k = m := ⟨_, rfl⟩
          simp only [hm] at hgk h6
          repeat (first | refine awp_seq ?_ | refine thenA_normal ?_ | refine a_region ?_ | refine r_done ?_ | (refine r_id ?_; first | refine r_len tab_ok rfl rfl rfl rfl rfl rfl rfl ?_ | refine r_ev tab_ok rfl rfl rfl rfl byE rfl ?_ | refine r_ev_cnd tab_ok rfl rfl rfl rfl rfl rfl byC (by first | exact fun _ => trivial | (intro h; simp at h; first | exact ⟨by omega, by omega⟩ | omega)) rfl ?_ | refine r_idx_cnd tab_ok rfl rfl rfl rfl rfl rfl rfl byC rfl rfl (by exact ⟨by omega, by omega⟩) rfl rfl ?_ | refine r_and rfl rfl rfl rfl rfl rfl rfl rfl ?_))
          simp only [Int.toNat_natCast, hgk]
          refine awp_cond rfl (fun hc2 => ?_) (fun hc2 => ?_)
          · exfalso
            rw [decide_eq_true (show (k : Int) < l.length by omega), Bool.true_and] at hc2
            have h7 : (!semB m) = true := hc2
            rw [h7] at h6; cases h6
          · repeat (first | refine awp_exit ?_ | refine thenA_exit ?_ | refine blockA_hit rfl ?_)
            exact ⟨rfl, fits_of rfl byK⟩
        · repeat (first | refine awp_seq ?_ | refine thenA_normal ?_ | refine a_region ?_ | refine awp_exit ?_ | refine thenA_exit ?_ | refine blockA_hit rfl ?_ | refine r_done ?_ | (refine r_id ?_; first | refine r_len tab_ok rfl rfl rfl rfl rfl rfl rfl ?_ | refine r_ev tab_ok rfl rfl rfl rfl byE rfl ?_) | refine awp_cond_f rfl ?_ | refine r_pick_f rfl rfl (congrArg (fun b => AV.val (.bool b)) (decide_eq_false (by omega))) rfl rfl rfl rfl ?_ | refine r_off rfl rfl (congrArg (fun b => AV.val (.bool b)) (decide_eq_false (by omega))) rfl rfl rfl ?_)
          exact ⟨rfl, fits_of rfl byK⟩
    · repeat (first | refine awp_seq ?_ | refine a_region ?_ | refine r_done ?_ | (refine r_id ?_; first | refine r_ev tab_ok rfl rfl rfl rfl byE rfl ?_))
      have hcle : runE whN (l.take kE) (i + 1) ≤ kE := by
        have := runE_le (p := whN) (l := l.take kE) (i := i + 1) (by rw [List.length_take]; omega)
        rw [List.length_take] at this
        omega
      have hcge := runE_ge whN (l.take kE) (i + 1)
      have hcE1 := fun c => runE_lt (p := whN) (l := l.take kE) (i := i + 1) (k := c)
      have hcE2 := runE_at (p := whN) (l := l.take kE) (i := i + 1)
      have hone : oneD l i kE = (if decide (n.tok.kind = 1) && (decide (runE whN (l.take kE) (i + 1) < kE) && decide ((ndAt l (runE whN (l.take kE) (i + 1))).tok.kind = 16)) then
          (if mayF (valF ((l.take kE).drop (runE whN (l.take kE) (i + 1) + 1))).1 then [⟨nameS n.tok.text, (valF ((l.take kE).drop (runE whN (l.take kE) (i + 1) + 1))).1, (valF ((l.take kE).drop (runE whN (l.take kE) (i + 1) + 1))).2⟩] else []) else []) := by rw [oneD, hn]
      obtain ⟨cE, hcE⟩ : ∃ cE, cE = runE whN (l.take kE) (i + 1) := ⟨_, rfl⟩
      rw [← hcE] at hone
      rw [← hcE] at hcle hcge hcE2
      have htk : (l.take kE).length = kE := by rw [List.length_take]; omega
      refine awp_cutv ⟨[.row 0 51 3 (out.map dcD), .box 47 [.val (.int .i64 n.tok.kind), .val (.string n.tok.text), .val (.int .i64 n.tok.int), .val (.bool n.tok.whole), .val (.bool n.tok.sign), .val (.bool n.tok.id)]], [(0, .sl 7 (l.map nF)), (3, .row 0 0), (4, .val (.int .i64 i)), (5, .ptr 1 0), (6, .val (.int .i64 kE)), (7, .val (.int .i64 cE))]⟩ ?_ ?_
      · repeat (first | refine awp_block ?_)
        refine a_loop (σ := {c : Nat // i + 1 ≤ c ∧ c ≤ cE}) (fun _ => [.row 0 51 3 (out.map dcD), .box 47 [.val (.int .i64 n.tok.kind), .val (.string n.tok.text), .val (.int .i64 n.tok.int), .val (.bool n.tok.whole), .val (.bool n.tok.sign), .val (.bool n.tok.id)]]) (fun x => [(0, .sl 7 (l.map nF)), (3, .row 0 0), (4, .val (.int .i64 i)), (5, .ptr 1 0), (6, .val (.int .i64 kE)), (7, .val (.int .i64 x.1))]) (fun x => l.length - x.1) ⟨i + 1, Nat.le_refl _, hcge⟩ (fits_of rfl byK) ?_
        rintro ⟨c, hic, hc3⟩
        dsimp only
        rcases Nat.lt_or_ge c kE with hck | hck
        · have hcl : c < l.length := by omega
          have hgc := ndAt_get hcl
          have hta := ndAt_take (l := l) hck
          have hmore := runE_more (p := whN) (l := l.take kE) (i := i + 1) (k := c) hic (by rw [← hcE]; exact hc3) (by rw [htk]; exact hck)
          have hstop := fun h => runE_stop (p := whN) (l := l.take kE) (i := i + 1) (k := c) hic (by rw [← hcE]; exact hc3) h
          rw [← hcE, hta] at hmore
          rw [← hcE, hta] at hstop
          obtain ⟨m, hm⟩ : ∃ m, ndAt l c = m := ⟨_, rfl⟩
          simp only [hm] at hgc hmore hstop
          repeat (first | refine awp_seq ?_ | refine thenA_normal ?_ | refine a_region ?_ | refine r_done ?_ | (refine r_id ?_; first | refine r_ev tab_ok rfl rfl rfl rfl byE rfl ?_ | refine r_ev_cnd tab_ok rfl rfl rfl rfl rfl rfl byC (by first | exact fun _ => trivial | (intro h; simp at h; first | exact ⟨by omega, by omega⟩ | omega)) rfl ?_ | refine r_idx_cnd tab_ok rfl rfl rfl rfl rfl rfl rfl byC rfl rfl (by exact ⟨by omega, by omega⟩) rfl rfl ?_ | refine r_and rfl rfl rfl rfl rfl rfl rfl rfl ?_))
          simp only [Int.toNat_natCast, hgc]
          refine awp_cond rfl (fun hc2 => ?_) (fun hc2 => ?_)
          · rw [decide_eq_true (show (c : Int) < kE by omega), Bool.true_and] at hc2
            have := hmore hc2
            repeat (first | refine thenA_normal ?_ | refine awp_block ?_ | refine a_region ?_ | refine blockA_normal ?_ | refine awp_skip ?_ | refine r_done ?_ | (refine r_id ?_; first | refine r_ev tab_ok rfl rfl rfl rfl byE rfl ?_))
            exact ⟨⟨c + 1, by omega, this⟩, by dsimp only; omega, fits_of rfl byK⟩
          · rw [decide_eq_true (show (c : Int) < kE by omega), Bool.true_and] at hc2
            have := hstop (fun _ => hc2)
            subst this
            repeat (first | refine awp_exit ?_ | refine thenA_exit ?_ | refine blockA_hit rfl ?_)
            exact ⟨rfl, fits_of rfl byK⟩
        · have : c = cE := by omega
          subst this
          repeat (first | refine awp_seq ?_ | refine thenA_normal ?_ | refine a_region ?_ | refine awp_exit ?_ | refine thenA_exit ?_ | refine blockA_hit rfl ?_ | refine r_done ?_ | (refine r_id ?_; first | refine r_ev tab_ok rfl rfl rfl rfl byE rfl ?_) | refine awp_cond_f rfl ?_ | refine r_pick_f rfl rfl (congrArg (fun b => AV.val (.bool b)) (decide_eq_false (by omega))) rfl rfl rfl rfl ?_ | refine r_off rfl rfl (congrArg (fun b => AV.val (.bool b)) (decide_eq_false (by omega))) rfl rfl rfl ?_)
          exact ⟨rfl, fits_of rfl byK⟩
      · clear hcE1 hcE2
        obtain ⟨m, hm⟩ : ∃ m, l.getD cE default = m := ⟨_, rfl⟩
        have hm2 : ndAt l cE = m := hm
        rw [hm2] at hone
        repeat (first | refine awp_seq ?_ | refine thenA_normal ?_ | refine a_region ?_ | refine r_done ?_ | (refine r_id ?_; first | refine r_ev tab_ok rfl rfl rfl rfl byE rfl ?_ | refine r_ld tab_ok rfl rfl rfl rfl rfl ?_ | refine r_ev_cnd tab_ok rfl rfl rfl rfl rfl rfl byC (by first | exact fun _ => trivial | (intro h; simp at h; first | exact ⟨by omega, by omega⟩ | omega)) rfl ?_ | refine r_idx_cnd' tab_ok rfl rfl rfl rfl rfl rfl rfl byC rfl rfl (by first | (intro h; simp at h; exact ⟨by omega, by omega⟩) | (intro h; simp only [Bool.and_eq_true, Bool.or_eq_false_iff, beq_iff_eq, decide_eq_false_iff_not, decide_eq_true_eq] at h; exact ⟨by omega, by omega⟩)) rfl rfl ?_ | refine r_and rfl rfl rfl rfl rfl rfl rfl rfl ?_))
        simp only [Int.toNat_natCast, hm]
        try simp only [Int.toNat_natCast, hm]
        have hce : decide ((cE : Int) < kE) = decide (cE < kE) := decide_eq_decide.2 (by omega)
        refine awp_cond rfl (fun hc4 => ?_) (fun hc4 => ?_)
        rotate_left
        · rw [Bool.and_assoc, hce] at hc4
          rw [hc4, if_neg Bool.false_ne_true] at hone
          rw [hone, List.nil_append] at heq
          repeat (first | refine thenA_normal ?_ | refine a_region ?_ | refine blockA_normal ?_ | refine awp_skip ?_ | refine r_done ?_ | (refine r_id ?_; first | refine r_ev tab_ok rfl rfl rfl rfl byE rfl ?_))
          exact ⟨⟨kE, out, by omega, by omega, heq⟩, by dsimp only; omega, fits_drop 1 rfl rfl byK⟩
        rw [Bool.and_assoc, hce] at hc4
        rw [hc4, if_pos rfl] at hone
        simp only [Bool.and_eq_true, decide_eq_true_eq] at hc4
        have hck : cE < kE := hc4.2.1
        have hdl : ((l.take kE).drop (cE + 1)).length = kE - (cE + 1) := by rw [List.length_drop, htk]
        have hV := rvalue_ok ((l.take kE).drop (cE + 1)) (by omega) (fun z hz => ht z (List.mem_of_mem_take (List.mem_of_mem_drop hz)))
        have hvl := valF_len ((l.take kE).drop (cE + 1))
        obtain ⟨v, im, hvi⟩ : ∃ v im, valF ((l.take kE).drop (cE + 1)) = (v, im) := ⟨_, _, rfl⟩
        rw [hvi] at hone hV hvl
        dsimp only at hone hV hvl
        repeat (first | refine awp_seq ?_ | refine a_region ?_ | (refine r_id ?_; first | refine r_ev tab_ok rfl rfl rfl rfl byE rfl ?_))
        refine r_cut tab_ok rfl rfl rfl rfl rfl rfl rfl rfl (by refine ⟨?_, ?_, ?_⟩ <;> simp <;> omega) rfl ?_
        refine r_call hV call16 rfl rfl ⟨Sub.refl _, trivial⟩ rfl rfl rfl rfl ?_
        repeat (first | refine awp_seq ?_ | refine a_region ?_ | refine r_done ?_ | (refine r_id ?_; first | refine r_ev tab_ok rfl rfl rfl rfl byE rfl ?_ | refine r_ld tab_ok rfl rfl rfl rfl rfl ?_))
        refine r_call (refLower n.tok.text (by omega)) call34 rfl rfl ⟨Sub.refl _, trivial⟩ rfl rfl rfl rfl ?_
        repeat (first | refine awp_seq ?_ | refine thenA_normal ?_ | refine a_region ?_ | refine r_done ?_ | (refine r_id ?_; first | refine r_ev tab_ok rfl rfl rfl rfl byE rfl ?_ | refine r_ld tab_ok rfl rfl rfl rfl rfl ?_ | refine r_ev_cnd tab_ok rfl rfl rfl rfl rfl rfl byC (by first | exact fun _ => trivial | (intro h; simp at h; first | exact ⟨by omega, by omega⟩ | omega)) rfl ?_ | refine r_ld_cnd tab_ok rfl rfl rfl rfl rfl rfl byC rfl ?_ | refine r_and rfl rfl rfl rfl rfl rfl rfl rfl ?_ | refine r_scut_cnd tab_ok rfl rfl rfl rfl rfl rfl rfl rfl byC rfl rfl (by intro h; simp at h ⊢; omega) rfl ?_))
        have hdash : dashB n.tok.text = (decide ((2 : Int) ≤ n.tok.text.size) && decide (n.tok.text.extract 0 2 = ⟨#[45, 45]⟩)) := by rw [dashB]; congr 1; exact decide_eq_decide.2 (by omega)
        refine awp_cond rfl (fun hd => ?_) (fun hd => ?_)
        · have hnm : nameS n.tok.text = n.tok.text := by rw [nameS, hdash, show (decide ((2 : Int) ≤ n.tok.text.size) && decide (n.tok.text.extract 0 2 = ⟨#[45, 45]⟩)) = true from hd]; rfl
          rw [hnm] at hone
          repeat (first | refine awp_seq ?_ | refine a_region ?_ | refine r_done ?_ | (refine r_id ?_; first | refine r_ev tab_ok rfl rfl rfl rfl byE rfl ?_ | refine r_ld tab_ok rfl rfl rfl rfl rfl ?_))
          refine r_call (rmay_ok v (by omega)) call48 rfl rfl ⟨Sub.refl _, trivial⟩ rfl rfl rfl rfl ?_
          repeat (first | refine thenA_normal ?_ | refine r_done ?_)
          cases hmv : mayF v with
          | true =>
            rw [hmv, if_pos rfl] at hone
            have hmap : (out ++ [(⟨n.tok.text, v, im⟩ : Dc)]).map dcD = out.map dcD ++ [dcD ⟨n.tok.text, v, im⟩] := List.map_append
            rw [hone, ← List.append_assoc] at heq
            repeat (first | refine thenA_normal ?_ | refine a_region ?_ | refine blockA_normal ?_ | refine r_done ?_ | (refine r_id ?_; first | refine r_ev tab_ok rfl rfl rfl rfl byE rfl ?_ | refine r_build tab_ok rfl rfl rfl rfl rfl rfl ?_ | refine r_built tab_ok rfl rfl rfl rfl rfl rfl rfl rfl rfl ?_ | refine r_append tab_ok rfl rfl rfl rfl rfl rfl rfl rfl rfl (by first | omega | (simp; omega)) rfl ?_) | refine awp_cond_t rfl ?_)
            refine ⟨⟨kE, out ++ [⟨n.tok.text, v, im⟩], by rw [List.length_append, List.length_singleton]; omega, by omega, heq⟩, by dsimp only; omega, ?_⟩
            dsimp only
            rw [hmap]
            exact fits_tr (s' := ⟨[.row 2 51 3 (out.map dcD ++ [dcD ⟨n.tok.text, v, im⟩])], [(0, .sl 7 (l.map nF)), (3, .row 0 2), (4, .val (.int .i64 kE))]⟩) (fits_drop 1 rfl rfl byK) (fits_conv byV byV)
          | false =>
            rw [hmv, if_neg Bool.false_ne_true] at hone
            rw [hone, List.nil_append] at heq
            repeat (first | refine thenA_normal ?_ | refine a_region ?_ | refine blockA_normal ?_ | refine awp_skip ?_ | refine r_done ?_ | (refine r_id ?_; first | refine r_ev tab_ok rfl rfl rfl rfl byE rfl ?_) | refine awp_cond_f rfl ?_)
            exact ⟨⟨kE, out, by omega, by omega, heq⟩, by dsimp only; omega, fits_drop 1 rfl rfl byK⟩
        · have hnm : nameS n.tok.text = lowS n.tok.text := by rw [nameS, hdash, show (decide ((2 : Int) ≤ n.tok.text.size) && decide (n.tok.text.extract 0 2 = ⟨#[45, 45]⟩)) = false from hd]; rfl
          rw [hnm] at hone
          repeat (first | refine awp_seq ?_ | refine a_region ?_ | refine awp_skip ?_ | (refine r_id ?_; first | refine r_ev tab_ok rfl rfl rfl rfl byE rfl ?_))
          refine r_call (rmay_ok v (by omega)) call48 rfl rfl ⟨Sub.refl _, trivial⟩ rfl rfl rfl rfl ?_
          repeat (first | refine thenA_normal ?_ | refine r_done ?_)
          cases hmv : mayF v with
          | true =>
            rw [hmv, if_pos rfl] at hone
            have hmap : (out ++ [(⟨lowS n.tok.text, v, im⟩ : Dc)]).map dcD = out.map dcD ++ [dcD ⟨lowS n.tok.text, v, im⟩] := List.map_append
            rw [hone, ← List.append_assoc] at heq
            repeat (first | refine thenA_normal ?_ | refine a_region ?_ | refine blockA_normal ?_ | refine r_done ?_ | (refine r_id ?_; first | refine r_ev tab_ok rfl rfl rfl rfl byE rfl ?_ | refine r_build tab_ok rfl rfl rfl rfl rfl rfl ?_ | refine r_built tab_ok rfl rfl rfl rfl rfl rfl rfl rfl rfl ?_ | refine r_append tab_ok rfl rfl rfl rfl rfl rfl rfl rfl rfl (by first | omega | (simp; omega)) rfl ?_) | refine awp_cond_t rfl ?_)
            refine ⟨⟨kE, out ++ [⟨lowS n.tok.text, v, im⟩], by rw [List.length_append, List.length_singleton]; omega, by omega, heq⟩, by dsimp only; omega, ?_⟩
            dsimp only
            rw [hmap]
            exact fits_tr (s' := ⟨[.row 2 51 3 (out.map dcD ++ [dcD ⟨lowS n.tok.text, v, im⟩])], [(0, .sl 7 (l.map nF)), (3, .row 0 2), (4, .val (.int .i64 kE))]⟩) (fits_drop 1 rfl rfl byK) (fits_conv byV byV)
          | false =>
            rw [hmv, if_neg Bool.false_ne_true] at hone
            rw [hone, List.nil_append] at heq
            repeat (first | refine thenA_normal ?_ | refine a_region ?_ | refine blockA_normal ?_ | refine awp_skip ?_ | refine r_done ?_ | (refine r_id ?_; first | refine r_ev tab_ok rfl rfl rfl rfl byE rfl ?_) | refine awp_cond_f rfl ?_)
            exact ⟨⟨kE, out, by omega, by omega, heq⟩, by dsimp only; omega, fits_drop 1 rfl rfl byK⟩
end Go.Proofs.YtiolnmfaeenlmaaGreatDoor

/- law12: words, in plain words; ident, alone, place, counter, Word, function walked. -/
namespace Go.Proofs.YtiolnmfaeenlmaaGreatDoor
open Go Go.RowKit
set_option maxRecDepth 20000

def emS2 : ByteArray := ⟨#[]⟩
def idnF (n : Nd) : ByteArray × Bool := if n.tok.kind = 1 then (lowS n.tok.text, true) else (⟨#[]⟩, false)
def aloF : List Nd → ByteArray
  | [n] => (idnF n).1
  | _ => ⟨#[]⟩
def noN : ByteArray := ⟨#[110, 111, 110, 101, 32, 105, 110, 104, 101, 114, 105, 116, 32, 105, 110, 105, 116, 105, 97, 108, 32, 117, 110, 115, 101, 116]⟩
def inW (all w : ByteArray) : Bool := decide (0 < idxF (fldF all) w + 1)
def cntF (n : Nd) : ByteArray × Bool := if (idnF n).2 && !inW noN (idnF n).1 then (n.tok.text, true) else (⟨#[]⟩, false)
theorem word_ok2 (n : Nd) (k : Int) (w : ByteArray) (h : n.tok.text.size ≤ 1099511627776) : PCalls Tryz.prog 38 [nA n, .val (.int .i64 k), .cl 39 [], .val (.string w)] (.val (.bool (decide (n.tok.kind = k) && decide (lowS n.tok.text = w)))) := by
  refine p_start Tryz.func38 Tryz.ntmps38 rfl rfl rfl fun S w0 => ?_
  by_cases hk : n.tok.kind = k
  · subst hk
    repeat (first | refine awp_seq ?_ | refine a_region ?_ | refine r_done ?_ | (refine r_id ?_; first | refine r_ev tab_ok rfl rfl rfl rfl byE rfl ?_ | refine r_ld tab_ok rfl rfl rfl rfl rfl ?_ | refine r_wr tab_ok rfl rfl rfl rfl rfl ?_) | refine r_g rfl rfl (congrArg (fun b => AV.val (.bool b)) (decide_eq_true (by omega))) ?_)
    refine r_callv (plower_ok n.tok.text (by omega)) call39 rfl rfl rfl ⟨Sub.refl _, trivial⟩ rfl rfl rfl rfl ?_
    repeat (first | refine thenA_normal ?_ | refine awp_ret ?_ | refine r_done ?_ | (refine r_id ?_; first | refine r_ev tab_ok rfl rfl rfl rfl byE rfl ?_) | refine ret1 byO rfl rfl rfl ?_ | refine r_g rfl rfl (congrArg (fun b => AV.val (.bool b)) (decide_eq_true (by omega))) ?_ | refine r_pick_t rfl rfl (congrArg (fun b => AV.val (.bool b)) (decide_eq_true (by omega))) rfl rfl rfl rfl ?_)
    exact Sub.of_eq (by rw [decide_eq_true rfl, Bool.true_and])
  · rw [decide_eq_false hk, Bool.false_and]
    repeat (first | refine awp_seq ?_ | refine thenA_normal ?_ | refine a_region ?_ | refine awp_ret ?_ | refine r_done ?_ | (refine r_id ?_; first | refine r_ev tab_ok rfl rfl rfl rfl byE rfl ?_ | refine r_ld tab_ok rfl rfl rfl rfl rfl ?_ | refine r_wr tab_ok rfl rfl rfl rfl rfl ?_) | refine ret1 byO rfl rfl rfl ?_ | refine r_pick_f rfl rfl (congrArg (fun b => AV.val (.bool b)) (decide_eq_false (by omega))) rfl rfl rfl rfl ?_ | refine r_off rfl rfl (congrArg (fun b => AV.val (.bool b)) (decide_eq_false (by omega))) rfl rfl rfl ?_)
    exact Sub.refl _
end Go.Proofs.YtiolnmfaeenlmaaGreatDoor
