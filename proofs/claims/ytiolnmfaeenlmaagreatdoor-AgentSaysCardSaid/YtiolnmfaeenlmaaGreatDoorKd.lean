import Derived.Test.YtiolnmfaeenlmaaGreatDoorK7
/- The reader: strings and urls. -/
namespace Go.Proofs.YtiolnmfaeenlmaaGreatDoor
open Go Go.RowKit

def qStep (q : Int) (L : List Int) (i : Nat) : (List Int × Nat) ⊕ (Nat × Bool) :=
  if sg L i < 0 then .inr (i, true) else if sg L i = q then .inr (i + 1, true) else if sg L i = 10 then .inr (i, false)
  else if sg L i = 92 ∧ sg L (i + 1) < 0 then .inl ([], i + 1) else if sg L i = 92 ∧ sg L (i + 1) = 10 then .inl ([], i + 2)
  else if sg L i = 92 then .inl ([(escE L (i + 1)).1], (escE L (i + 1)).2) else .inl ([sg L i], i + 1)
theorem qStep_goes (q : Int) (L : List Int) : Goes2 L.length (qStep q L) := by
  intro i o j hi h
  unfold qStep at h
  split at h
  · cases h
  rename_i h0
  have hin := sg_ge (L := L) (i := i) (by omega)
  split at h
  · cases h
  split at h
  · cases h
  split at h
  · cases h; exact ⟨by omega, hin, by simp⟩
  split at h
  · rename_i h5
    cases h
    have := sg_ge (L := L) (i := i + 1) (by rw [show ((i + 1 : Nat) : Int) = (i : Int) + 1 from rfl, h5.2]; decide)
    exact ⟨by omega, by omega, by simp⟩
  split at h
  · cases h
    have := escE_le L (i + 1) hin
    exact ⟨by omega, this.2, by simp; omega⟩
  · cases h; exact ⟨by omega, hin, by simp⟩
def quoE (q : Int) (L : List Int) (i : Nat) : List Int × (Nat × Bool) := ((goAt L.length (qStep q L) i).1, ((goAt L.length (qStep q L) i).2).getD (0, false))
def quoF (q : Int) (L : List Int) (i : Nat) : Tk × Nat := (if (quoE q L i).2.2 = true then tkK 5 (runesBytes (quoE q L i).1) else tkK 6 ⟨#[]⟩, (quoE q L i).2.1)
set_option maxHeartbeats 2000000 in
theorem quoted_ok (q : Int) (L : List Int) (i : Nat) (hL : L.length ≤ 1099511627776) (hi : i ≤ L.length) : MCalls Tryz.prog 79 [rdB L i] [.ptr 0 0, iA q] [rdB L (quoF q L i).2] (tA (quoF q L i).1) := by
  refine m_start Tryz.func79 Tryz.ntmps79 rfl rfl rfl fun S w β => ?_
  repeat (first | refine awp_seq ?_ | refine thenA_normal ?_ | refine awp_block ?_ | refine a_region ?_ | refine r_done ?_ | (refine r_id ?_; first | refine r_ev tab_ok rfl rfl rfl rfl byE rfl ?_ | refine r_wr tab_ok rfl rfl rfl rfl rfl ?_))
  refine a_loop (σ := GS L.length (qStep q L) i) (fun x => [rdB L x.i, tB tk0]) (fun x => [(0, .ptr 0 0), (1, .val (.int .i32 q)), (4, .ptr 1 0), (5, .val (.string (runesBytes x.out)))]) (fun x => L.length - x.i) (GS.start hi) (fits_convM byV byV ⟨trivial, trivial⟩) ?_
  intro x
  have hle := x.le
  have hlen := x.len
  have hsz := runesBytes_size_le x.out
  have hs1 := runesBytes_size_le [sg L x.i]
  have hs1' : [sg L x.i].length = 1 := rfl
  have hs2 := runesBytes_size_le [(escE L (x.i + 1)).1]
  have hs2' : [(escE L (x.i + 1)).1].length = 1 := rfl
  repeat (first | refine awp_seq ?_ | refine thenA_normal ?_ | refine awp_block ?_ | refine a_region ?_ | refine r_done ?_ | (refine r_id ?_; first | refine r_ev tab_ok rfl rfl rfl rfl byE rfl ?_) | refine r_mro [0] (sign_ok _ _ _ hL (by omega) (by omega)) call55 rfl rfl ⟨rfl, trivial⟩ (by decide) ⟨Sub.refl _, Sub.refl _, trivial⟩ rfl rfl rfl rfl rfl rfl ?_)
  rw [Int.add_zero]
  refine awp_cond_p rfl (fun a1 => ?_) (fun a1 => ?_)
  · have hst : qStep q L x.i = .inr (x.i, true) := by rw [qStep, if_pos a1]
    rw [quoF, quoE, x.stop hst]
    repeat (first | refine awp_seq ?_ | refine thenA_normal ?_ | refine a_region ?_ | refine awp_ret ?_ | refine thenA_ret ?_ | refine blockA_ret ?_ | refine r_done ?_ | (refine r_id ?_; first | refine r_ev tab_ok rfl rfl rfl rfl byE rfl ?_ | refine r_st tab_ok rfl rfl rfl rfl ?_ | refine r_build tab_ok rfl rfl rfl rfl rfl rfl ?_))
    exact retM1c tab_ok byO rfl rfl rfl rfl rfl rfl rfl rfl (Sub.refl _)
  have hin := sg_ge (L := L) (i := x.i) (by omega)
  repeat (first | refine awp_seq ?_ | refine thenA_normal ?_ | refine a_region ?_ | refine r_done ?_ | (refine r_id ?_; first | refine r_ev tab_ok rfl rfl rfl rfl byE rfl ?_))
  refine awp_cond_p rfl (fun a2 => ?_) (fun a2 => ?_)
  · have hst : qStep q L x.i = .inr (x.i + 1, true) := by rw [qStep, if_neg a1, if_pos a2]
    rw [quoF, quoE, x.stop hst]
    repeat (first | refine awp_seq ?_ | refine thenA_normal ?_ | refine a_region ?_ | refine awp_ret ?_ | refine thenA_ret ?_ | refine blockA_ret ?_ | refine r_done ?_ | (refine r_id ?_; first | refine r_ev tab_ok rfl rfl rfl rfl byE rfl ?_ | refine r_ld tab_ok rfl rfl rfl rfl rfl ?_ | refine r_st tab_ok rfl rfl rfl rfl ?_ | refine r_build tab_ok rfl rfl rfl rfl rfl rfl ?_ | refine r_nilck rfl rfl rfl rfl rfl rfl rfl ?_))
    exact retM1c tab_ok byO rfl rfl rfl rfl rfl rfl rfl rfl (Sub.refl _)
  repeat (first | refine awp_seq ?_ | refine thenA_normal ?_ | refine a_region ?_ | refine r_done ?_ | (refine r_id ?_; first | refine r_ev tab_ok rfl rfl rfl rfl byE rfl ?_))
  refine awp_cond_p rfl (fun a3 => ?_) (fun a3 => ?_)
  · have hst : qStep q L x.i = .inr (x.i, false) := by rw [qStep, if_neg a1, if_neg a2, if_pos a3]
    rw [quoF, quoE, x.stop hst]
    repeat (first | refine awp_seq ?_ | refine thenA_normal ?_ | refine a_region ?_ | refine awp_ret ?_ | refine thenA_ret ?_ | refine blockA_ret ?_ | refine r_done ?_ | (refine r_id ?_; first | refine r_st tab_ok rfl rfl rfl rfl ?_ | refine r_build tab_ok rfl rfl rfl rfl rfl rfl ?_))
    exact retM1c tab_ok byO rfl rfl rfl rfl rfl rfl rfl rfl (Sub.refl _)
  repeat (first | refine awp_seq ?_ | refine thenA_normal ?_ | refine a_region ?_ | refine r_done ?_ | (refine r_id ?_; first | refine r_ev tab_ok rfl rfl rfl rfl byE rfl ?_ | refine r_ev_cnd tab_ok rfl rfl rfl rfl rfl rfl byC (by first | exact fun _ => trivial | (intro h; simp at h; first | exact ⟨by omega, by omega⟩ | omega)) rfl ?_ | refine r_and rfl rfl rfl rfl rfl rfl rfl rfl ?_) | refine r_mro_cnd [0] (fun _ => sign_ok _ _ _ hL (by omega) (by omega)) call55 rfl rfl rfl rfl byC ⟨rfl, trivial⟩ (by decide) ⟨Sub.refl _, Sub.refl _, trivial⟩ rfl rfl rfl rfl rfl rfl ?_)
  refine awp_cond rfl (fun a4 => ?_) (fun a4 => ?_)
  · have hst : qStep q L x.i = .inl ([], x.i + 1) := by rw [qStep, if_neg a1, if_neg a2, if_neg a3, if_pos (by simpa using a4)]
    repeat (first | refine thenA_normal ?_ | refine a_region ?_ | refine blockA_normal ?_ | refine r_done ?_ | (refine r_id ?_; first | refine r_ev tab_ok rfl rfl rfl rfl byE rfl ?_ | refine r_ld tab_ok rfl rfl rfl rfl rfl ?_ | refine r_st tab_ok rfl rfl rfl rfl ?_ | refine r_nilck rfl rfl rfl rfl rfl rfl rfl ?_))
    refine ⟨x.next (qStep_goes q L) hst, by dsimp only [GS.next]; omega, ?_⟩
    dsimp only [GS.next]
    rw [List.append_nil]
    exact fits_convM byV byV ⟨trivial, trivial⟩
  have a4' : ¬ (sg L x.i = 92 ∧ sg L (x.i + 1) < 0) := by simpa using a4
  repeat (first | refine awp_seq ?_ | refine thenA_normal ?_ | refine a_region ?_ | refine r_done ?_ | (refine r_id ?_; first | refine r_ev tab_ok rfl rfl rfl rfl byE rfl ?_ | refine r_ev_cnd tab_ok rfl rfl rfl rfl rfl rfl byC (by first | exact fun _ => trivial | (intro h; simp at h; first | exact ⟨by omega, by omega⟩ | omega)) rfl ?_ | refine r_and rfl rfl rfl rfl rfl rfl rfl rfl ?_) | refine r_mro_cnd [0] (fun _ => sign_ok _ _ _ hL (by omega) (by omega)) call55 rfl rfl rfl rfl byC ⟨rfl, trivial⟩ (by decide) ⟨Sub.refl _, Sub.refl _, trivial⟩ rfl rfl rfl rfl rfl rfl ?_)
  refine awp_cond rfl (fun a5 => ?_) (fun a5 => ?_)
  · have a5' : sg L x.i = 92 ∧ sg L (x.i + 1) = 10 := by simpa using a5
    have hst : qStep q L x.i = .inl ([], x.i + 2) := by rw [qStep, if_neg a1, if_neg a2, if_neg a3, if_neg a4', if_pos a5']
    have hg := qStep_goes q L _ _ _ hle hst
    repeat (first | refine thenA_normal ?_ | refine a_region ?_ | refine blockA_normal ?_ | refine r_done ?_ | (refine r_id ?_; first | refine r_ev tab_ok rfl rfl rfl rfl byE rfl ?_ | refine r_ld tab_ok rfl rfl rfl rfl rfl ?_ | refine r_st tab_ok rfl rfl rfl rfl ?_ | refine r_nilck rfl rfl rfl rfl rfl rfl rfl ?_))
    refine ⟨x.next (qStep_goes q L) hst, by dsimp only [GS.next]; omega, ?_⟩
    dsimp only [GS.next]
    rw [List.append_nil]
    exact fits_convM byV byV ⟨trivial, trivial⟩
  have a5' : ¬ (sg L x.i = 92 ∧ sg L (x.i + 1) = 10) := by simpa using a5
  repeat (first | refine awp_seq ?_ | refine thenA_normal ?_ | refine a_region ?_ | refine r_done ?_ | (refine r_id ?_; first | refine r_ev tab_ok rfl rfl rfl rfl byE rfl ?_))
  refine awp_cond_p rfl (fun a6 => ?_) (fun a6 => ?_)
  · have hst : qStep q L x.i = .inl ([(escE L (x.i + 1)).1], (escE L (x.i + 1)).2) := by rw [qStep, if_neg a1, if_neg a2, if_neg a3, if_neg a4', if_neg a5', if_pos a6]
    have hg := qStep_goes q L _ _ _ hle hst
    repeat (first | refine awp_seq ?_ | refine thenA_normal ?_ | refine a_region ?_ | refine r_done ?_ | (refine r_id ?_; first | refine r_ev tab_ok rfl rfl rfl rfl byE rfl ?_ | refine r_ld tab_ok rfl rfl rfl rfl rfl ?_ | refine r_st tab_ok rfl rfl rfl rfl ?_ | refine r_nilck rfl rfl rfl rfl rfl rfl rfl ?_))
    refine r_mcall [0] (escaped_ok L (x.i + 1) hL (by omega)) call106 rfl rfl ⟨rfl, trivial⟩ (by decide) ⟨Sub.refl _, trivial⟩ rfl rfl rfl rfl rfl rfl rfl ?_
    repeat (first | refine thenA_normal ?_ | refine blockA_normal ?_ | refine r_done ?_ | (refine r_id ?_; first | refine r_ev tab_ok rfl rfl rfl rfl byE rfl ?_) | refine r_call (refPut _) call77 rfl rfl ⟨Sub.refl _, trivial⟩ rfl rfl rfl rfl ?_)
    refine ⟨x.next (qStep_goes q L) hst, by dsimp only [GS.next]; omega, ?_⟩
    dsimp only [GS.next]
    rw [runes_append]
    exact fits_convM byV byV ⟨trivial, trivial⟩
  · have hst : qStep q L x.i = .inl ([sg L x.i], x.i + 1) := by rw [qStep, if_neg a1, if_neg a2, if_neg a3, if_neg a4', if_neg a5', if_neg a6]
    repeat (first | refine awp_seq ?_ | refine thenA_normal ?_ | refine a_region ?_ | refine blockA_normal ?_ | refine r_done ?_ | (refine r_id ?_; first | refine r_ev tab_ok rfl rfl rfl rfl byE rfl ?_ | refine r_ld tab_ok rfl rfl rfl rfl rfl ?_ | refine r_st tab_ok rfl rfl rfl rfl ?_ | refine r_nilck rfl rfl rfl rfl rfl rfl rfl ?_) | refine r_call (refPut _) call77 rfl rfl ⟨Sub.refl _, trivial⟩ rfl rfl rfl rfl ?_)
    refine ⟨x.next (qStep_goes q L) hst, by dsimp only [GS.next]; omega, ?_⟩
    dsimp only [GS.next]
    rw [runes_append]
    exact fits_convM byV byV ⟨trivial, trivial⟩
end Go.Proofs.YtiolnmfaeenlmaaGreatDoor

/- The reader: urls. -/
namespace Go.Proofs.YtiolnmfaeenlmaaGreatDoor
open Go Go.RowKit

def uStep (L : List Int) (i : Nat) : (List Int × Nat) ⊕ (Nat × Bool) :=
  if sg L i < 0 ∨ sg L i = 41 then .inr (if sg L i = 41 then i + 1 else i, true)
  else if whiteF (sg L i) = true then (if sg L (wEnd L i) < 0 ∨ sg L (wEnd L i) = 41 then .inl ([], wEnd L i) else .inr (bEnd L (wEnd L i), false))
  else if (badF (sg L i) || (decide (sg L i = 92) && !escF L i)) = true then .inr (bEnd L i, false)
  else if sg L i = 92 then .inl ([(escE L (i + 1)).1], (escE L (i + 1)).2) else .inl ([sg L i], i + 1)
theorem uStep_goes (L : List Int) : Goes2 L.length (uStep L) := by
  intro i o j hi h
  unfold uStep at h
  split at h
  · cases h
  rename_i h0
  have hin := sg_ge (L := L) (i := i) (by omega)
  split at h
  · rename_i hw
    have := wEnd_le L hi
    have := wEnd_gt L hi hw
    split at h
    · cases h; exact ⟨by omega, by omega, by simp; omega⟩
    · cases h
  split at h
  · cases h
  split at h
  · cases h
    have := escE_le L (i + 1) hin
    exact ⟨by omega, this.2, by simp; omega⟩
  · cases h; exact ⟨by omega, hin, by simp⟩
def urlE (L : List Int) (i : Nat) : List Int × (Nat × Bool) := ((goAt L.length (uStep L) (wEnd L i)).1, ((goAt L.length (uStep L) (wEnd L i)).2).getD (0, false))
def urlF (L : List Int) (i : Nat) : Tk × Nat := (if (urlE L i).2.2 = true then tkK 7 (runesBytes (urlE L i).1) else tkK 8 ⟨#[]⟩, (urlE L i).2.1)
set_option maxHeartbeats 2000000 in
theorem url_ok (L : List Int) (i : Nat) (hL : L.length ≤ 1099511627776) (hi : i ≤ L.length) : MCalls Tryz.prog 110 [rdB L i] [.ptr 0 0] [rdB L (urlF L i).2] (tA (urlF L i).1) := by
  refine m_start Tryz.func110 Tryz.ntmps110 rfl rfl rfl fun S w β => ?_
  have hwe := wEnd_le L hi
  repeat (first | refine awp_seq ?_ | refine awp_block ?_ | refine a_region ?_ | refine r_done ?_ | (refine r_id ?_; first | refine r_wr tab_ok rfl rfl rfl rfl rfl ?_))
  refine a_loop (σ := GS L.length (wStep L) i) (fun x => [rdB L x.i, tB tk0]) (fun x => [(0, .ptr 0 0), (2, .ptr 1 0)]) (fun x => L.length - x.i) (GS.start hi) (fits_convM byV byV ⟨trivial, trivial⟩) ?_
  intro x
  have hle := x.le
  repeat (first | refine awp_seq ?_ | refine thenA_normal ?_ | refine a_region ?_ | refine r_done ?_ | (refine r_id ?_; first | refine r_ev tab_ok rfl rfl rfl rfl byE rfl ?_) | refine r_mro [0] (sign_ok _ _ _ hL (by omega) (by omega)) call55 rfl rfl ⟨rfl, trivial⟩ (by decide) ⟨Sub.refl _, Sub.refl _, trivial⟩ rfl rfl rfl rfl rfl rfl ?_ | refine r_call (refWhite _) call78 rfl rfl ⟨Sub.refl _, trivial⟩ rfl rfl rfl rfl ?_)
  rw [Int.add_zero]
  refine awp_cond rfl (fun h => ?_) (fun h => ?_)
  · have hst : wStep L x.i = .inl ([], x.i + 1) := if_pos h
    have hin := white_in h
    repeat (first | refine thenA_normal ?_ | refine awp_block ?_ | refine a_region ?_ | refine blockA_normal ?_ | refine awp_skip ?_ | refine r_done ?_ | (refine r_id ?_; first | refine r_ev tab_ok rfl rfl rfl rfl byE rfl ?_ | refine r_ld tab_ok rfl rfl rfl rfl rfl ?_ | refine r_st tab_ok rfl rfl rfl rfl ?_ | refine r_nilck rfl rfl rfl rfl rfl rfl rfl ?_))
    exact ⟨x.next (wStep_goes L) hst, by dsimp only [GS.next]; omega, fits_convM byV byV ⟨trivial, trivial⟩⟩
  have hst : wStep L x.i = .inr x.i := if_neg (by rw [h]; decide)
  have hj0 : wEnd L i = x.i := by rw [wEnd, x.stop hst]; rfl
  rw [urlF, urlE]
  generalize hj : wEnd L i = j0 at hwe hj0
  subst hj0
  clear hst h
  generalize x.i = j0 at *
  repeat (first | refine awp_seq ?_ | refine thenA_normal ?_ | refine awp_block ?_ | refine a_region ?_ | refine awp_exit ?_ | refine r_done ?_ | (refine r_id ?_; first | refine r_ev tab_ok rfl rfl rfl rfl byE rfl ?_))
  refine a_loop (σ := GS L.length (uStep L) j0) (fun x => [rdB L x.i, tB tk0]) (fun x => [(0, .ptr 0 0), (2, .ptr 1 0), (3, .val (.string (runesBytes x.out)))]) (fun x => L.length - x.i) (GS.start hle) (fits_convM byV byV ⟨trivial, trivial⟩) ?_
  clear x
  intro x
  have hle := x.le
  have hlen := x.len
  have hsz := runesBytes_size_le x.out
  have hs1 := runesBytes_size_le [sg L x.i]
  have hs1' : [sg L x.i].length = 1 := rfl
  have hs2 := runesBytes_size_le [(escE L (x.i + 1)).1]
  have hs2' : [(escE L (x.i + 1)).1].length = 1 := rfl
  repeat (first | refine awp_seq ?_ | refine thenA_normal ?_ | refine awp_block ?_ | refine a_region ?_ | refine r_done ?_ | (refine r_id ?_; first | refine r_ev tab_ok rfl rfl rfl rfl byE rfl ?_ | refine r_ev_cnd tab_ok rfl rfl rfl rfl rfl rfl byC (by first | exact fun _ => trivial | (intro h; simp at h; first | exact ⟨by omega, by omega⟩ | omega)) rfl ?_ | refine r_or rfl rfl rfl rfl rfl rfl rfl rfl ?_) | refine r_mro [0] (sign_ok _ _ _ hL (by omega) (by omega)) call55 rfl rfl ⟨rfl, trivial⟩ (by decide) ⟨Sub.refl _, Sub.refl _, trivial⟩ rfl rfl rfl rfl rfl rfl ?_)
  rw [Int.add_zero]
  refine awp_cond rfl (fun a1 => ?_) (fun a1 => ?_)
  · have a1' : sg L x.i < 0 ∨ sg L x.i = 41 := by simpa using a1
    have hst : uStep L x.i = .inr (if sg L x.i = 41 then x.i + 1 else x.i, true) := by rw [uStep, if_pos a1']
    rw [x.stop hst]
    repeat (first | refine awp_seq ?_ | refine thenA_normal ?_ | refine a_region ?_ | refine r_done ?_ | (refine r_id ?_; first | refine r_ev tab_ok rfl rfl rfl rfl byE rfl ?_))
    refine awp_cond_p rfl (fun a2 => ?_) (fun a2 => ?_)
    · have hin := sg_ge (L := L) (i := x.i) (by omega)
      rw [if_pos a2]
      repeat (first | refine awp_seq ?_ | refine thenA_normal ?_ | refine a_region ?_ | refine awp_ret ?_ | refine thenA_ret ?_ | refine blockA_ret ?_ | refine r_done ?_ | (refine r_id ?_; first | refine r_ev tab_ok rfl rfl rfl rfl byE rfl ?_ | refine r_ld tab_ok rfl rfl rfl rfl rfl ?_ | refine r_st tab_ok rfl rfl rfl rfl ?_ | refine r_build tab_ok rfl rfl rfl rfl rfl rfl ?_ | refine r_nilck rfl rfl rfl rfl rfl rfl rfl ?_))
      exact retM1c tab_ok byO rfl rfl rfl rfl rfl rfl rfl rfl (Sub.refl _)
    · rw [if_neg a2]
      repeat (first | refine awp_seq ?_ | refine thenA_normal ?_ | refine a_region ?_ | refine awp_ret ?_ | refine thenA_ret ?_ | refine blockA_ret ?_ | refine awp_skip ?_ | refine r_done ?_ | (refine r_id ?_; first | refine r_ev tab_ok rfl rfl rfl rfl byE rfl ?_ | refine r_st tab_ok rfl rfl rfl rfl ?_ | refine r_build tab_ok rfl rfl rfl rfl rfl rfl ?_))
      exact retM1c tab_ok byO rfl rfl rfl rfl rfl rfl rfl rfl (Sub.refl _)
  have a1' : ¬ (sg L x.i < 0 ∨ sg L x.i = 41) := by
    simp only [Bool.or_eq_false_iff, decide_eq_false_iff_not] at a1
    omega
  have hin := sg_ge (L := L) (i := x.i) (by omega)
  repeat (first | refine awp_seq ?_ | refine thenA_normal ?_ | refine a_region ?_ | refine r_done ?_ | (refine r_id ?_; first | refine r_ev tab_ok rfl rfl rfl rfl byE rfl ?_) | refine r_call (refWhite _) call78 rfl rfl ⟨Sub.refl _, trivial⟩ rfl rfl rfl rfl ?_)
  refine awp_cond rfl (fun a2 => ?_) (fun a2 => ?_)
  · have hwx := wEnd_le L hle
    repeat (first | refine awp_seq ?_ | refine awp_block ?_)
    refine a_loop (σ := GS L.length (wStep L) x.i) (fun y => [rdB L y.i, tB tk0]) (fun y => [(0, .ptr 0 0), (2, .ptr 1 0), (3, .val (.string (runesBytes x.out)))]) (fun y => L.length - y.i) (GS.start hle) (fits_convM byV byV ⟨trivial, trivial⟩) ?_
    intro y
    have hyle := y.le
    repeat (first | refine awp_seq ?_ | refine thenA_normal ?_ | refine a_region ?_ | refine r_done ?_ | (refine r_id ?_; first | refine r_ev tab_ok rfl rfl rfl rfl byE rfl ?_) | refine r_mro [0] (sign_ok _ _ _ hL (by omega) (by omega)) call55 rfl rfl ⟨rfl, trivial⟩ (by decide) ⟨Sub.refl _, Sub.refl _, trivial⟩ rfl rfl rfl rfl rfl rfl ?_ | refine r_call (refWhite _) call78 rfl rfl ⟨Sub.refl _, trivial⟩ rfl rfl rfl rfl ?_)
    rw [Int.add_zero]
    refine awp_cond rfl (fun h => ?_) (fun h => ?_)
    · have hst : wStep L y.i = .inl ([], y.i + 1) := if_pos h
      have hin := white_in h
      repeat (first | refine thenA_normal ?_ | refine awp_block ?_ | refine a_region ?_ | refine blockA_normal ?_ | refine awp_skip ?_ | refine r_done ?_ | (refine r_id ?_; first | refine r_ev tab_ok rfl rfl rfl rfl byE rfl ?_ | refine r_ld tab_ok rfl rfl rfl rfl rfl ?_ | refine r_st tab_ok rfl rfl rfl rfl ?_ | refine r_nilck rfl rfl rfl rfl rfl rfl rfl ?_))
      exact ⟨y.next (wStep_goes L) hst, by dsimp only [GS.next]; omega, fits_convM byV byV ⟨trivial, trivial⟩⟩
    have hst : wStep L y.i = .inr y.i := if_neg (by rw [h]; decide)
    have hy0 : wEnd L x.i = y.i := by rw [wEnd, y.stop hst]; rfl
    have hgt := wEnd_gt L hle a2
    repeat (first | refine awp_seq ?_ | refine thenA_normal ?_ | refine a_region ?_ | refine awp_exit ?_ | refine r_done ?_ | (refine r_id ?_; first | refine r_ev tab_ok rfl rfl rfl rfl byE rfl ?_ | refine r_ev_cnd tab_ok rfl rfl rfl rfl rfl rfl byC (by first | exact fun _ => trivial | (intro h; simp at h; first | exact ⟨by omega, by omega⟩ | omega)) rfl ?_ | refine r_or rfl rfl rfl rfl rfl rfl rfl rfl ?_) | refine r_mro [0] (sign_ok _ _ _ hL (by omega) (by omega)) call55 rfl rfl ⟨rfl, trivial⟩ (by decide) ⟨Sub.refl _, Sub.refl _, trivial⟩ rfl rfl rfl rfl rfl rfl ?_ | refine r_mro_cnd [0] (fun _ => sign_ok _ _ _ hL (by omega) (by omega)) call55 rfl rfl rfl rfl byC ⟨rfl, trivial⟩ (by decide) ⟨Sub.refl _, Sub.refl _, trivial⟩ rfl rfl rfl rfl rfl rfl ?_)
    rw [Int.add_zero]
    refine awp_cond rfl (fun a3 => ?_) (fun a3 => ?_)
    · have a3' : sg L y.i < 0 ∨ sg L y.i = 41 := by simpa using a3
      have hst : uStep L x.i = .inl ([], y.i) := by rw [uStep, if_neg a1', if_pos a2, hy0, if_pos a3']
      repeat (first | refine thenA_normal ?_ | refine awp_exit ?_ | refine thenA_exit ?_ | refine blockA_hit rfl ?_ | refine blockA_miss rfl ?_)
      refine ⟨x.next (uStep_goes L) hst, by dsimp only [GS.next]; omega, ?_⟩
      dsimp only [GS.next]
      rw [List.append_nil]
      exact fits_convM byV byV ⟨trivial, trivial⟩
    · have a3' : ¬ (sg L y.i < 0 ∨ sg L y.i = 41) := by
        simp only [Bool.or_eq_false_iff, decide_eq_false_iff_not] at a3
        omega
      have hst : uStep L x.i = .inr (bEnd L y.i, false) := by rw [uStep, if_neg a1', if_pos a2, hy0, if_neg a3']
      rw [x.stop hst]
      repeat (first | refine awp_seq ?_ | refine a_region ?_ | refine awp_skip ?_ | (refine r_id ?_; first | refine r_ev tab_ok rfl rfl rfl rfl byE rfl ?_))
      refine r_mcall [0] (badURL_ok L y.i hL hyle) call117 rfl rfl ⟨rfl, trivial⟩ (by decide) ⟨Sub.refl _, trivial⟩ rfl rfl rfl rfl rfl rfl rfl ?_
      repeat (first | refine thenA_normal ?_ | refine awp_ret ?_ | refine thenA_ret ?_ | refine blockA_ret ?_ | refine r_done ?_ | (refine r_id ?_; first | refine r_st tab_ok rfl rfl rfl rfl ?_))
      exact retM1c tab_ok byO rfl rfl rfl rfl rfl rfl rfl rfl (Sub.refl _)
  have a2' : ¬ whiteF (sg L x.i) = true := by rw [a2]; decide
  repeat (first | refine awp_seq ?_ | refine thenA_normal ?_ | refine a_region ?_ | refine r_done ?_ | (refine r_id ?_; first | refine r_ev tab_ok rfl rfl rfl rfl byE rfl ?_ | refine r_ev_cnd tab_ok rfl rfl rfl rfl rfl rfl byC (by first | exact fun _ => trivial | (intro h; simp at h; first | exact ⟨by omega, by omega⟩ | omega)) rfl ?_ | refine r_and_cnd rfl rfl rfl rfl rfl rfl rfl rfl rfl rfl ?_ | refine r_or rfl rfl rfl rfl rfl rfl rfl rfl ?_) | refine r_mro_cnd [0] (fun _ => escape_ok _ _ _ hL (by omega) (by omega)) call81 rfl rfl rfl rfl byC ⟨rfl, trivial⟩ (by decide) ⟨Sub.refl _, Sub.refl _, trivial⟩ rfl rfl rfl rfl rfl rfl ?_ | refine r_call (refBad _) call118 rfl rfl ⟨Sub.refl _, trivial⟩ rfl rfl rfl rfl ?_)
  rw [Int.add_zero]
  refine awp_cond rfl (fun a3 => ?_) (fun a3 => ?_)
  · have hst : uStep L x.i = .inr (bEnd L x.i, false) := by rw [uStep, if_neg a1', if_neg a2', if_pos a3]
    rw [x.stop hst]
    repeat (first | refine awp_seq ?_ | refine a_region ?_ | (refine r_id ?_; first | refine r_ev tab_ok rfl rfl rfl rfl byE rfl ?_))
    refine r_mcall [0] (badURL_ok L x.i hL hle) call117 rfl rfl ⟨rfl, trivial⟩ (by decide) ⟨Sub.refl _, trivial⟩ rfl rfl rfl rfl rfl rfl rfl ?_
    repeat (first | refine thenA_normal ?_ | refine awp_ret ?_ | refine thenA_ret ?_ | refine blockA_ret ?_ | refine r_done ?_ | (refine r_id ?_; first | refine r_st tab_ok rfl rfl rfl rfl ?_))
    exact retM1c tab_ok byO rfl rfl rfl rfl rfl rfl rfl rfl (Sub.refl _)
  have a3' : ¬ (badF (sg L x.i) || (decide (sg L x.i = 92) && !escF L x.i)) = true := by rw [a3]; decide
  repeat (first | refine awp_seq ?_ | refine thenA_normal ?_ | refine a_region ?_ | refine r_done ?_ | (refine r_id ?_; first | refine r_ev tab_ok rfl rfl rfl rfl byE rfl ?_))
  refine awp_cond_p rfl (fun a6 => ?_) (fun a6 => ?_)
  · have hst : uStep L x.i = .inl ([(escE L (x.i + 1)).1], (escE L (x.i + 1)).2) := by rw [uStep, if_neg a1', if_neg a2', if_neg a3', if_pos a6]
    have hg := uStep_goes L _ _ _ hle hst
    repeat (first | refine awp_seq ?_ | refine thenA_normal ?_ | refine a_region ?_ | refine r_done ?_ | (refine r_id ?_; first | refine r_ev tab_ok rfl rfl rfl rfl byE rfl ?_ | refine r_ld tab_ok rfl rfl rfl rfl rfl ?_ | refine r_st tab_ok rfl rfl rfl rfl ?_ | refine r_nilck rfl rfl rfl rfl rfl rfl rfl ?_))
    refine r_mcall [0] (escaped_ok L (x.i + 1) hL (by omega)) call106 rfl rfl ⟨rfl, trivial⟩ (by decide) ⟨Sub.refl _, trivial⟩ rfl rfl rfl rfl rfl rfl rfl ?_
    repeat (first | refine thenA_normal ?_ | refine blockA_normal ?_ | refine r_done ?_ | (refine r_id ?_; first | refine r_ev tab_ok rfl rfl rfl rfl byE rfl ?_) | refine r_call (refPut _) call77 rfl rfl ⟨Sub.refl _, trivial⟩ rfl rfl rfl rfl ?_)
    refine ⟨x.next (uStep_goes L) hst, by dsimp only [GS.next]; omega, ?_⟩
    dsimp only [GS.next]
    rw [runes_append]
    exact fits_convM byV byV ⟨trivial, trivial⟩
  · have hst : uStep L x.i = .inl ([sg L x.i], x.i + 1) := by rw [uStep, if_neg a1', if_neg a2', if_neg a3', if_neg a6]
    repeat (first | refine awp_seq ?_ | refine thenA_normal ?_ | refine a_region ?_ | refine blockA_normal ?_ | refine r_done ?_ | (refine r_id ?_; first | refine r_ev tab_ok rfl rfl rfl rfl byE rfl ?_ | refine r_ld tab_ok rfl rfl rfl rfl rfl ?_ | refine r_st tab_ok rfl rfl rfl rfl ?_ | refine r_nilck rfl rfl rfl rfl rfl rfl rfl ?_) | refine r_call (refPut _) call77 rfl rfl ⟨Sub.refl _, trivial⟩ rfl rfl rfl rfl ?_)
    refine ⟨x.next (uStep_goes L) hst, by dsimp only [GS.next]; omega, ?_⟩
    dsimp only [GS.next]
    rw [runes_append]
    exact fits_convM byV byV ⟨trivial, trivial⟩
theorem urlF_le (L : List Int) {i : Nat} (h : i ≤ L.length) : i ≤ (urlF L i).2 ∧ (urlF L i).2 ≤ L.length := by
  have hw := wEnd_le L h
  obtain ⟨r, j, h1, h2, h3, h4, _⟩ := goAt_end (uStep_goes L) L.length (wEnd L i) hw.2.1 (by omega)
  have : (urlF L i).2 = r.1 := by rw [urlF, urlE, h1]; rfl
  rw [this]
  unfold uStep at h4
  split at h4
  · cases h4
    split
    · rename_i h5
      have := sg_ge (L := L) (i := j) (by omega)
      dsimp only; omega
    · dsimp only; omega
  split at h4
  · split at h4
    · cases h4
    · cases h4
      have h5 := wEnd_le L h3
      have := bEnd_le L h5.2.1
      dsimp only; omega
  split at h4
  · cases h4
    have := bEnd_le L h3
    dsimp only; omega
  split at h4 <;> cases h4
theorem quoF_le (q : Int) (hq : q ≠ -1) (L : List Int) {i : Nat} (h : i ≤ L.length) : i ≤ (quoF q L i).2 ∧ (quoF q L i).2 ≤ L.length := by
  obtain ⟨r, j, h1, h2, h3, h4, _⟩ := goAt_end (qStep_goes q L) L.length i h (by omega)
  have : (quoF q L i).2 = r.1 := by rw [quoF, quoE, h1]; rfl
  rw [this]
  unfold qStep at h4
  split at h4
  · cases h4; exact ⟨h2, h3⟩
  rename_i h0
  have hin := sg_ge (L := L) (i := j) (by omega)
  split at h4
  · cases h4; dsimp only; omega
  split at h4
  · cases h4; exact ⟨h2, h3⟩
  split at h4
  · cases h4
  split at h4
  · cases h4
  split at h4 <;> cases h4
end Go.Proofs.YtiolnmfaeenlmaaGreatDoor

/- The reader: words. -/
namespace Go.Proofs.YtiolnmfaeenlmaaGreatDoor
open Go Go.RowKit

def urlS : ByteArray := ⟨#[117, 114, 108]⟩
def idtF (L : List Int) (i : Nat) : Tk × Nat :=
  if sg L (nameEnd L i) = 40 then
    (if lowS (runesBytes (nameAt L i)) = urlS then
      (if sg L (wEnd L (nameEnd L i + 1)) = 34 ∨ sg L (wEnd L (nameEnd L i + 1)) = 39 then (tkK 2 (runesBytes (nameAt L i)), nameEnd L i + 1 + (wEnd L (nameEnd L i + 1) - (nameEnd L i + 1) - 1))
        else urlF L (nameEnd L i + 1))
      else (tkK 2 (runesBytes (nameAt L i)), nameEnd L i + 1))
  else (tkK 1 (runesBytes (nameAt L i)), nameEnd L i)
theorem delim_ok (L : List Int) (i : Nat) (hL : L.length ≤ 1099511627776) (hi : i < L.length) : MCalls Tryz.prog 88 [rdB L i] [.ptr 0 0] [rdB L (i + 1 : Nat)] (tA (tkK 9 (runesBytes [sg L i]))) := by
  refine m_start Tryz.func88 Tryz.ntmps88 rfl rfl rfl fun S w β => ?_
  repeat (first | refine awp_seq ?_ | refine thenA_normal ?_ | refine a_region ?_ | refine awp_ret ?_ | refine r_done ?_ | (refine r_id ?_; first | refine r_ev tab_ok rfl rfl rfl rfl byE rfl ?_ | refine r_ld tab_ok rfl rfl rfl rfl rfl ?_ | refine r_wr tab_ok rfl rfl rfl rfl rfl ?_ | refine r_st tab_ok rfl rfl rfl rfl ?_ | refine r_build tab_ok rfl rfl rfl rfl rfl rfl ?_ | refine r_nilck rfl rfl rfl rfl rfl rfl rfl ?_) | refine r_mro [0] (sign_ok _ _ _ hL (by omega) (by omega)) call55 rfl rfl ⟨rfl, trivial⟩ (by decide) ⟨Sub.refl _, Sub.refl _, trivial⟩ rfl rfl rfl rfl rfl rfl ?_ | refine r_call (refPut _) call77 rfl rfl ⟨Sub.refl _, trivial⟩ rfl rfl rfl rfl ?_)
  rw [Int.add_zero]
  exact retM1c tab_ok byO rfl rfl rfl rfl rfl rfl rfl rfl (Sub.refl _)
set_option maxHeartbeats 2000000 in
theorem ident_ok (L : List Int) (i : Nat) (hL : L.length ≤ 1099511627776) (hi : i ≤ L.length) : MCalls Tryz.prog 87 [rdB L i] [.ptr 0 0] [rdB L (idtF L i).2] (tA (idtF L i).1) := by
  refine m_start Tryz.func87 Tryz.ntmps87 rfl rfl rfl fun S w β => ?_
  have hn := nameEnd_le L hi
  have hnl := nameAt_len L hi
  have hsz := runesBytes_size_le (nameAt L i)
  unfold idtF
  repeat (first | refine awp_seq ?_ | refine a_region ?_ | refine r_done ?_ | (refine r_id ?_; first | refine r_ev tab_ok rfl rfl rfl rfl byE rfl ?_ | refine r_wr tab_ok rfl rfl rfl rfl rfl ?_))
  refine r_mcall [0] (name_ok L i hL hi) call83 rfl rfl ⟨rfl, trivial⟩ (by decide) ⟨Sub.refl _, trivial⟩ rfl rfl rfl rfl rfl rfl rfl ?_
  generalize nameEnd L i = j at hn ⊢
  generalize runesBytes (nameAt L i) = n at hsz ⊢
  repeat (first | refine awp_seq ?_ | refine thenA_normal ?_ | refine a_region ?_ | refine r_done ?_ | (refine r_id ?_; first | refine r_ev tab_ok rfl rfl rfl rfl byE rfl ?_) | refine r_mro [0] (sign_ok _ _ _ hL (by omega) (by omega)) call55 rfl rfl ⟨rfl, trivial⟩ (by decide) ⟨Sub.refl _, Sub.refl _, trivial⟩ rfl rfl rfl rfl rfl rfl ?_)
  rw [Int.add_zero]
  refine awp_cond rfl (fun h => ?_) (fun h => ?_)
  · rw [if_neg (by simpa using h)]
    repeat (first | refine awp_seq ?_ | refine thenA_normal ?_ | refine a_region ?_ | refine awp_ret ?_ | refine thenA_ret ?_ | refine r_done ?_ | (refine r_id ?_; first | refine r_ev tab_ok rfl rfl rfl rfl byE rfl ?_ | refine r_st tab_ok rfl rfl rfl rfl ?_ | refine r_build tab_ok rfl rfl rfl rfl rfl rfl ?_))
    exact retM1c tab_ok byO rfl rfl rfl rfl rfl rfl rfl rfl (Sub.refl _)
  have h40 : sg L j = 40 := by simpa using h
  have hin : j < L.length := sg_in (by rw [h40]; decide)
  have hw := wEnd_le L (i := j + 1) hin
  rw [if_pos h40]
  repeat (first | refine awp_seq ?_ | refine a_region ?_ | refine awp_skip ?_ | refine r_done ?_ | (refine r_id ?_; first | refine r_ev tab_ok rfl rfl rfl rfl byE rfl ?_ | refine r_ld tab_ok rfl rfl rfl rfl rfl ?_ | refine r_st tab_ok rfl rfl rfl rfl ?_ | refine r_nilck rfl rfl rfl rfl rfl rfl rfl ?_))
  refine r_call (refLower n (by omega)) call34 rfl rfl ⟨Sub.refl _, trivial⟩ rfl rfl rfl rfl ?_
  repeat (first | refine thenA_normal ?_ | refine r_done ?_ | (refine r_id ?_; first | refine r_ev tab_ok rfl rfl rfl rfl byE rfl ?_))
  refine awp_cond rfl (fun h => ?_) (fun h => ?_)
  · rw [if_neg (show ¬ lowS n = urlS by simpa [urlS] using h)]
    repeat (first | refine awp_seq ?_ | refine thenA_normal ?_ | refine a_region ?_ | refine awp_ret ?_ | refine thenA_ret ?_ | refine r_done ?_ | (refine r_id ?_; first | refine r_ev tab_ok rfl rfl rfl rfl byE rfl ?_ | refine r_st tab_ok rfl rfl rfl rfl ?_ | refine r_build tab_ok rfl rfl rfl rfl rfl rfl ?_))
    exact retM1c tab_ok byO rfl rfl rfl rfl rfl rfl rfl rfl (Sub.refl _)
  rw [if_pos (show lowS n = urlS by simpa [urlS] using h)]
  repeat (first | refine awp_seq ?_ | refine awp_block ?_ | refine a_region ?_ | refine awp_skip ?_ | refine r_done ?_ | (refine r_id ?_; first | refine r_ev tab_ok rfl rfl rfl rfl byE rfl ?_))
  refine a_loop (σ := {y : GS L.length (wStep L) (j + 1) // j + 1 ≤ y.i}) (fun y => [rdB L (j + 1 : Nat), tB tk0]) (fun y => [(0, .ptr 0 0), (2, .ptr 1 0), (3, .val (.string n)), (4, .val (.int .i64 ((y.1.i - (j + 1) : Nat))))]) (fun y => L.length - y.1.i) ⟨GS.start hin, Nat.le_refl _⟩ (fits_convM byV ⟨c_ptr rfl rfl rfl rfl, c_ptr rfl rfl rfl rfl, c_sub rfl (Sub.refl _) rfl, c_sub rfl (Sub.of_eq (by dsimp only [GS.start]; rw [Nat.sub_self]; rfl)) rfl, trivial⟩ ⟨trivial, trivial⟩) ?_
  rintro ⟨y, hy⟩
  dsimp only
  have hyle := y.le
  have ey : (((j + 1 : Nat) : Int) + ((y.i - (j + 1) : Nat) : Int)) = (y.i : Int) := by omega
  repeat (first | refine awp_seq ?_ | refine thenA_normal ?_ | refine a_region ?_ | refine r_done ?_ | (refine r_id ?_; first | refine r_ev tab_ok rfl rfl rfl rfl byE rfl ?_) | refine r_mro [0] (sign_ok _ _ _ hL (by omega) (by omega)) call55 rfl rfl ⟨rfl, trivial⟩ (by decide) ⟨Sub.refl _, Sub.refl _, trivial⟩ rfl rfl rfl rfl rfl rfl ?_ | refine r_call (refWhite _) call78 rfl rfl ⟨Sub.refl _, trivial⟩ rfl rfl rfl rfl ?_)
  rw [ey]
  refine awp_cond rfl (fun h2 => ?_) (fun h2 => ?_)
  · have hst : wStep L y.i = .inl ([], y.i + 1) := if_pos h2
    have hyin := white_in h2
    have e2 : (((y.i - (j + 1) : Nat) : Int) + 1) = ((y.i + 1 - (j + 1) : Nat) : Int) := by omega
    repeat (first | refine thenA_normal ?_ | refine awp_block ?_ | refine a_region ?_ | refine blockA_normal ?_ | refine awp_skip ?_ | refine r_done ?_ | (refine r_id ?_; first | refine r_ev tab_ok rfl rfl rfl rfl byE rfl ?_))
    exact ⟨⟨y.next (wStep_goes L) hst, by dsimp only [GS.next]; omega⟩, by dsimp only [GS.next]; omega, fits_convM byV ⟨c_ptr rfl rfl rfl rfl, c_ptr rfl rfl rfl rfl, c_sub rfl (Sub.refl _) rfl, c_sub rfl (Sub.of_eq (by dsimp only [GS.next]; rw [← e2]; rfl)) rfl, trivial⟩ ⟨trivial, trivial⟩⟩
  have hst : wStep L y.i = .inr y.i := if_neg (by rw [h2]; decide)
  have hy0 : wEnd L (j + 1) = y.i := by rw [wEnd, y.stop hst]; rfl
  rw [hy0]
  repeat (first | refine awp_seq ?_ | refine thenA_normal ?_ | refine a_region ?_ | refine awp_exit ?_ | refine r_done ?_ | (refine r_id ?_; first | refine r_ev tab_ok rfl rfl rfl rfl byE rfl ?_ | refine r_ev_cnd tab_ok rfl rfl rfl rfl rfl rfl byC (by first | exact fun _ => trivial | (intro h; simp at h; first | exact ⟨by omega, by omega⟩ | omega)) rfl ?_ | refine r_or rfl rfl rfl rfl rfl rfl rfl rfl ?_) | refine r_mro [0] (sign_ok _ _ _ hL (by omega) (by omega)) call55 rfl rfl ⟨rfl, trivial⟩ (by decide) ⟨Sub.refl _, Sub.refl _, trivial⟩ rfl rfl rfl rfl rfl rfl ?_ | refine r_mro_cnd [0] (fun _ => sign_ok _ _ _ hL (by omega) (by omega)) call55 rfl rfl rfl rfl byC ⟨rfl, trivial⟩ (by decide) ⟨Sub.refl _, Sub.refl _, trivial⟩ rfl rfl rfl rfl rfl rfl ?_)
  rw [ey]
  refine awp_cond rfl (fun h3 => ?_) (fun h3 => ?_)
  · rw [if_pos (show sg L y.i = 34 ∨ sg L y.i = 39 by simpa using h3)]
    have e3 : ((j + 1 : Nat) : Int) + (max (((y.i - (j + 1) : Nat) : Int) - 1) 0) = ((j + 1 + (y.i - (j + 1) - 1) : Nat) : Int) := by omega
    repeat (first | refine awp_seq ?_ | refine thenA_normal ?_ | refine a_region ?_ | refine awp_ret ?_ | refine thenA_ret ?_ | refine r_done ?_ | (refine r_id ?_; first | refine r_ev tab_ok rfl rfl rfl rfl byE rfl ?_ | refine r_ld tab_ok rfl rfl rfl rfl rfl ?_ | refine r_st tab_ok rfl rfl rfl rfl ?_ | refine r_build tab_ok rfl rfl rfl rfl rfl rfl ?_ | refine r_nilck rfl rfl rfl rfl rfl rfl rfl ?_))
    rw [e3]
    exact retM1c tab_ok byO rfl rfl rfl rfl rfl rfl rfl rfl (Sub.refl _)
  · rw [if_neg (show ¬ (sg L y.i = 34 ∨ sg L y.i = 39) by simpa using h3)]
    repeat (first | refine awp_seq ?_ | refine a_region ?_ | refine awp_skip ?_ | (refine r_id ?_; first | refine r_ev tab_ok rfl rfl rfl rfl byE rfl ?_))
    refine r_mcall [0] (url_ok L (j + 1) hL hin) call110 rfl rfl ⟨rfl, trivial⟩ (by decide) ⟨Sub.refl _, trivial⟩ rfl rfl rfl rfl rfl rfl rfl ?_
    repeat (first | refine thenA_normal ?_ | refine awp_ret ?_ | refine r_done ?_ | (refine r_id ?_; first | refine r_st tab_ok rfl rfl rfl rfl ?_))
    exact retM1c tab_ok byO rfl rfl rfl rfl rfl rfl rfl rfl (Sub.refl _)
end Go.Proofs.YtiolnmfaeenlmaaGreatDoor

/- The reader: one token. -/
namespace Go.Proofs.YtiolnmfaeenlmaaGreatDoor
open Go Go.RowKit

def plainL : List Int := [40, 91, 123, 41, 93, 125, 44, 58, 59]
def kindsL : List Int := [19, 19, 19, 20, 20, 20, 18, 16, 17]
def plI (r : Int) : Nat := plainL.findIdx (fun x => decide (x = r))
def iD64 (n : Int) : D := .val (.int .i64 n)
def hashB (L : List Int) (i : Nat) : Bool := decide (sg L i = 35) && (nameF (sg L (i + 1)) || escF L (i + 1))
def numB (L : List Int) (i : Nat) : Bool := (decide (sg L i = 43) || decide (sg L i = 45) || decide (sg L i = 46) || digF (sg L i)) && numsF L i
def cdcB (L : List Int) (i : Nat) : Bool := decide (sg L i = 45) && decide (sg L (i + 1) = 45) && decide (sg L (i + 2) = 62)
def cdoB (L : List Int) (i : Nat) : Bool := decide (sg L i = 60) && decide (sg L (i + 1) = 33) && decide (sg L (i + 2) = 45) && decide (sg L (i + 3) = 45)
def atB (L : List Int) (i : Nat) : Bool := decide (sg L i = 64) && namesF L (i + 1)
def tokF (L : List Int) (i : Nat) : Tk × Nat :=
  if plI (sg L i) < 9 then (tkK (kindsL.getD (plI (sg L i)) 0) (if plI (sg L i) < 6 then runesBytes [sg L i] else ⟨#[]⟩), i + 1)
  else if whiteF (sg L i) = true then (tkK 13 ⟨#[]⟩, wEnd L i)
  else if sg L i = 34 ∨ sg L i = 39 then quoF (sg L i) L (i + 1)
  else if hashB L i = true then (⟨4, runesBytes (nameAt L (i + 1)), 0, false, false, namesF L (i + 1)⟩, nameEnd L (i + 1))
  else if numB L i = true then numF L i
  else if cdcB L i = true then (tkK 15 ⟨#[]⟩, i + 3)
  else if cdoB L i = true then (tkK 14 ⟨#[]⟩, i + 4)
  else if atB L i = true then (tkK 3 (runesBytes (nameAt L (i + 1))), nameEnd L (i + 1))
  else if namesF L i = true then idtF L i
  else (tkK 9 (runesBytes [sg L i]), i + 1)
set_option maxHeartbeats 4000000 in
theorem token_ok (L : List Int) (i : Nat) (hL : L.length ≤ 1099511627776) (hi : i < L.length) : MCalls Tryz.prog 56 [rdB L i] [.ptr 0 0] [rdB L (tokF L i).2] (tA (tokF L i).1) := by
  refine m_start Tryz.func56 Tryz.ntmps56 rfl rfl rfl fun S w β => ?_
  repeat (first | refine awp_seq ?_ | refine thenA_normal ?_ | refine awp_block ?_ | refine a_region ?_ | refine r_done ?_ | (refine r_id ?_; first | refine r_ev tab_ok rfl rfl rfl rfl byE rfl ?_ | refine r_wr tab_ok rfl rfl rfl rfl rfl ?_ | refine r_built tab_ok rfl rfl rfl rfl rfl rfl rfl rfl rfl ?_) | refine r_mro [0] (sign_ok _ _ _ hL (by omega) (by omega)) call55 rfl rfl ⟨rfl, trivial⟩ (by decide) ⟨Sub.refl _, Sub.refl _, trivial⟩ rfl rfl rfl rfl rfl rfl ?_)
  rw [Int.add_zero]
  refine a_loop (σ := {k : Nat // k ≤ 9 ∧ ∀ j < k, plainL.getD j 0 ≠ sg L i}) (fun _ => [rdB L i, tB tk0]) (fun k => [(0, .ptr 0 0), (2, .ptr 1 0), (3, .val (.int .i32 (sg L i))), (4, .sl 1 (plainL.map rD)), (5, .sl 1 (kindsL.map iD64)), (6, .val (.int .i64 k.1))]) (fun k => 9 - k.1) ⟨0, by omega, fun j hj => absurd hj (by omega)⟩ (fits_convM byV byV ⟨trivial, trivial⟩) ?_
  rintro ⟨k, hk, hne⟩
  dsimp only
  have hpl : plainL.length = 9 := rfl
  have hkl : kindsL.length = 9 := rfl
  have hpm : (plainL.map rD).length = 9 := rfl
  repeat (first | refine awp_seq ?_ | refine thenA_normal ?_ | refine a_region ?_ | refine r_done ?_ | (refine r_id ?_; first | refine r_len tab_ok rfl rfl rfl rfl rfl rfl rfl ?_ | refine r_ev tab_ok rfl rfl rfl rfl byE rfl ?_))
  refine awp_cond_p rfl (fun hlt => ?_) (fun hge => ?_)
  · have hk9 : k < 9 := by omega
    repeat (first | refine awp_seq ?_ | refine thenA_normal ?_ | refine awp_block ?_ | refine a_region ?_ | refine awp_skip ?_ | refine r_done ?_ | (refine r_id ?_; first | refine r_ev tab_ok rfl rfl rfl rfl byE rfl ?_ | refine r_idx tab_ok rfl rfl rfl rfl rfl rfl rfl (by first | exact ⟨by omega, by omega⟩ | (simp; omega)) rfl rfl ?_))
    refine awp_cond_p rfl (fun he => ?_) (fun he => ?_)
    · simp only [Int.toNat_natCast] at he
      have hidx : plI (sg L i) = k := by
        rw [plI, List.findIdx_eq (by omega)]
        refine ⟨by simpa using he, fun j hj => ?_⟩
        have := hne j hj
        simp only [List.getD_eq_getElem?_getD, List.getElem?_eq_getElem (show j < plainL.length by omega), Option.getD_some] at this
        simpa using this
      rw [tokF, if_pos (by rw [hidx]; exact hk9), hidx]
      have hkd : kindsL.getD k 0 = kindsL[(k : Int).toNat]'(by simp only [Int.toNat_natCast]; omega) := by
        simp only [Int.toNat_natCast]
        rw [List.getD_eq_getElem?_getD, List.getElem?_eq_getElem (by omega), Option.getD_some]
      rw [hkd]
      repeat (first | refine awp_seq ?_ | refine thenA_normal ?_ | refine a_region ?_ | refine r_done ?_ | (refine r_id ?_; first | refine r_ev tab_ok rfl rfl rfl rfl byE rfl ?_ | refine r_ld tab_ok rfl rfl rfl rfl rfl ?_ | refine r_idx tab_ok rfl rfl rfl rfl rfl rfl rfl (by first | exact ⟨by omega, by omega⟩ | (simp; omega)) rfl rfl ?_ | refine r_wr tab_ok rfl rfl rfl rfl rfl ?_ | refine r_st tab_ok rfl rfl rfl rfl ?_ | refine r_build tab_ok rfl rfl rfl rfl rfl rfl ?_ | refine r_nilck rfl rfl rfl rfl rfl rfl rfl ?_))
      refine awp_cond_p rfl (fun h6 => ?_) (fun h6 => ?_)
      · rw [if_pos (by omega)]
        repeat (first | refine awp_seq ?_ | refine thenA_normal ?_ | refine a_region ?_ | refine awp_ret ?_ | refine thenA_ret ?_ | refine blockA_ret ?_ | refine r_done ?_ | (refine r_id ?_; first | refine r_ev tab_ok rfl rfl rfl rfl byE rfl ?_ | refine r_ld tab_ok rfl rfl rfl rfl rfl ?_ | refine r_st tab_ok rfl rfl rfl rfl ?_) | refine r_call (refPut _) call77 rfl rfl ⟨Sub.refl _, trivial⟩ rfl rfl rfl rfl ?_)
        exact retM1c tab_ok byO rfl rfl rfl rfl rfl rfl rfl rfl (Sub.refl _)
      · rw [if_neg (by omega)]
        repeat (first | refine awp_seq ?_ | refine thenA_normal ?_ | refine a_region ?_ | refine awp_ret ?_ | refine thenA_ret ?_ | refine blockA_ret ?_ | refine awp_skip ?_ | refine r_done ?_ | (refine r_id ?_; first | refine r_ld tab_ok rfl rfl rfl rfl rfl ?_ | refine r_st tab_ok rfl rfl rfl rfl ?_))
        exact retM1c tab_ok byO rfl rfl rfl rfl rfl rfl rfl rfl (Sub.refl _)
    · simp only [Int.toNat_natCast] at he
      repeat (first | refine thenA_normal ?_ | refine a_region ?_ | refine awp_skip ?_ | refine r_done ?_ | (refine r_id ?_; first | refine r_ev tab_ok rfl rfl rfl rfl byE rfl ?_))
      refine ⟨⟨k + 1, by omega, fun j hj => ?_⟩, by dsimp only; omega, fits_convM byV byV ⟨trivial, trivial⟩⟩
      by_cases hjk : j = k
      · subst hjk
        simp only [List.getD_eq_getElem?_getD, List.getElem?_eq_getElem (show j < plainL.length by omega), Option.getD_some]
        exact he
      · exact hne j (by omega)
  have a0 : ¬ plI (sg L i) < 9 := fun h => by
    have h1 := List.findIdx_getElem (xs := plainL) (p := fun x => decide (x = sg L i)) (w := h)
    refine hne (plI (sg L i)) (by omega) ?_
    rw [List.getD_eq_getElem?_getD, List.getElem?_eq_getElem h, Option.getD_some]
    exact of_decide_eq_true h1
  rw [tokF, if_neg a0]
  clear a0 hne hk hge hpl hkl hpm
  repeat (first | refine awp_seq ?_ | refine thenA_normal ?_ | refine awp_block ?_ | refine a_region ?_ | refine awp_exit ?_ | refine r_done ?_ | (refine r_id ?_; first | refine r_ev tab_ok rfl rfl rfl rfl byE rfl ?_) | refine r_call (refWhite _) call78 rfl rfl ⟨Sub.refl _, trivial⟩ rfl rfl rfl rfl ?_)
  refine awp_cond rfl (fun a1 => ?_) (fun a1 => ?_)
  · rw [if_pos a1]
    repeat (first | refine awp_seq ?_ | refine awp_block ?_)
    refine a_loop (σ := GS L.length (wStep L) i) (fun x => [rdB L x.i, tB tk0]) (fun x => [(0, .ptr 0 0), (2, .ptr 1 0)]) (fun x => L.length - x.i) (GS.start (by omega)) (fits_convM byV byV ⟨trivial, trivial⟩) ?_
    intro x
    have hle := x.le
    repeat (first | refine awp_seq ?_ | refine thenA_normal ?_ | refine a_region ?_ | refine r_done ?_ | (refine r_id ?_; first | refine r_ev tab_ok rfl rfl rfl rfl byE rfl ?_) | refine r_mro [0] (sign_ok _ _ _ hL (by omega) (by omega)) call55 rfl rfl ⟨rfl, trivial⟩ (by decide) ⟨Sub.refl _, Sub.refl _, trivial⟩ rfl rfl rfl rfl rfl rfl ?_ | refine r_call (refWhite _) call78 rfl rfl ⟨Sub.refl _, trivial⟩ rfl rfl rfl rfl ?_)
    rw [Int.add_zero]
    refine awp_cond rfl (fun h => ?_) (fun h => ?_)
    · have hst : wStep L x.i = .inl ([], x.i + 1) := if_pos h
      have hin := white_in h
      repeat (first | refine thenA_normal ?_ | refine awp_block ?_ | refine a_region ?_ | refine blockA_normal ?_ | refine awp_skip ?_ | refine r_done ?_ | (refine r_id ?_; first | refine r_ev tab_ok rfl rfl rfl rfl byE rfl ?_ | refine r_ld tab_ok rfl rfl rfl rfl rfl ?_ | refine r_st tab_ok rfl rfl rfl rfl ?_ | refine r_nilck rfl rfl rfl rfl rfl rfl rfl ?_))
      exact ⟨x.next (wStep_goes L) hst, by dsimp only [GS.next]; omega, fits_convM byV byV ⟨trivial, trivial⟩⟩
    have hst : wStep L x.i = .inr x.i := if_neg (by rw [h]; decide)
    have hj0 : wEnd L i = x.i := by rw [wEnd, x.stop hst]; rfl
    rw [hj0]
    repeat (first | refine awp_seq ?_ | refine thenA_normal ?_ | refine a_region ?_ | refine awp_ret ?_ | refine awp_exit ?_ | refine thenA_ret ?_ | refine blockA_ret ?_ | refine r_done ?_ | (refine r_id ?_; first | refine r_st tab_ok rfl rfl rfl rfl ?_ | refine r_build tab_ok rfl rfl rfl rfl rfl rfl ?_))
    exact retM1c tab_ok byO rfl rfl rfl rfl rfl rfl rfl rfl (Sub.refl _)
  rw [if_neg (by rw [a1]; decide)]
  repeat (first | refine awp_seq ?_ | refine thenA_normal ?_ | refine a_region ?_ | refine r_done ?_ | (refine r_id ?_; first | refine r_ev tab_ok rfl rfl rfl rfl byE rfl ?_ | refine r_ev_cnd tab_ok rfl rfl rfl rfl rfl rfl byC (by first | exact fun _ => trivial | (intro h; simp at h; first | exact ⟨by omega, by omega⟩ | omega)) rfl ?_ | refine r_or rfl rfl rfl rfl rfl rfl rfl rfl ?_))
  refine awp_cond rfl (fun a2 => ?_) (fun a2 => ?_)
  · rw [if_pos (show sg L i = 34 ∨ sg L i = 39 by simpa using a2)]
    repeat (first | refine awp_seq ?_ | refine a_region ?_ | refine r_done ?_ | (refine r_id ?_; first | refine r_ev tab_ok rfl rfl rfl rfl byE rfl ?_ | refine r_ld tab_ok rfl rfl rfl rfl rfl ?_ | refine r_st tab_ok rfl rfl rfl rfl ?_ | refine r_nilck rfl rfl rfl rfl rfl rfl rfl ?_))
    refine r_mcall [0] (quoted_ok (sg L i) L (i + 1) hL hi) call79 rfl rfl ⟨rfl, trivial⟩ (by decide) ⟨Sub.refl _, Sub.refl _, trivial⟩ rfl rfl rfl rfl rfl rfl rfl ?_
    repeat (first | refine thenA_normal ?_ | refine awp_ret ?_ | refine thenA_ret ?_ | refine blockA_ret ?_ | refine r_done ?_ | (refine r_id ?_; first | refine r_st tab_ok rfl rfl rfl rfl ?_))
    exact retM1c tab_ok byO rfl rfl rfl rfl rfl rfl rfl rfl (Sub.refl _)
  rw [if_neg (show ¬ (sg L i = 34 ∨ sg L i = 39) by simpa using a2)]
  repeat (first | refine awp_seq ?_ | refine thenA_normal ?_ | refine a_region ?_ | refine r_done ?_ | (refine r_id ?_; first | refine r_ev tab_ok rfl rfl rfl rfl byE rfl ?_ | refine r_ev_cnd tab_ok rfl rfl rfl rfl rfl rfl byC (by first | exact fun _ => trivial | (intro h; simp at h; first | exact ⟨by omega, by omega⟩ | omega)) rfl ?_ | refine r_or_cnd rfl rfl rfl rfl rfl rfl rfl rfl rfl rfl ?_ | refine r_and rfl rfl rfl rfl rfl rfl rfl rfl ?_) | refine r_mro_cnd [0] (fun _ => sign_ok _ _ _ hL (by omega) (by omega)) call55 rfl rfl rfl rfl byC ⟨rfl, trivial⟩ (by decide) ⟨Sub.refl _, Sub.refl _, trivial⟩ rfl rfl rfl rfl rfl rfl ?_ | refine r_mro_cnd [0] (fun _ => escape_ok _ _ _ hL (by omega) (by omega)) call81 rfl rfl rfl rfl byC ⟨rfl, trivial⟩ (by decide) ⟨Sub.refl _, Sub.refl _, trivial⟩ rfl rfl rfl rfl rfl rfl ?_ | refine r_call_cnd (fun _ => refName _) call80 rfl rfl rfl rfl byC ⟨Sub.refl _, trivial⟩ rfl rfl rfl rfl ?_)
  refine awp_cond rfl (fun a3 => ?_) (fun a3 => ?_)
  · rw [if_pos (show hashB L i = true from a3)]
    repeat (first | refine awp_seq ?_ | refine a_region ?_ | refine r_done ?_ | (refine r_id ?_; first | refine r_ev tab_ok rfl rfl rfl rfl byE rfl ?_ | refine r_ld tab_ok rfl rfl rfl rfl rfl ?_ | refine r_st tab_ok rfl rfl rfl rfl ?_ | refine r_nilck rfl rfl rfl rfl rfl rfl rfl ?_) | refine r_mro [0] (names_ok _ _ _ hL (by omega) (by omega)) call82 rfl rfl ⟨rfl, trivial⟩ (by decide) ⟨Sub.refl _, Sub.refl _, trivial⟩ rfl rfl rfl rfl rfl rfl ?_)
    rw [Int.add_zero]
    refine r_mcall [0] (name_ok L (i + 1) hL hi) call83 rfl rfl ⟨rfl, trivial⟩ (by decide) ⟨Sub.refl _, trivial⟩ rfl rfl rfl rfl rfl rfl rfl ?_
    repeat (first | refine thenA_normal ?_ | refine awp_ret ?_ | refine thenA_ret ?_ | refine blockA_ret ?_ | refine r_done ?_ | (refine r_id ?_; first | refine r_st tab_ok rfl rfl rfl rfl ?_ | refine r_build tab_ok rfl rfl rfl rfl rfl rfl ?_))
    exact retM1c tab_ok byO rfl rfl rfl rfl rfl rfl rfl rfl (Sub.refl _)
  rw [if_neg (show ¬ hashB L i = true by rw [show hashB L i = false from a3]; decide)]
  repeat (first | refine awp_seq ?_ | refine thenA_normal ?_ | refine a_region ?_ | refine r_done ?_ | (refine r_id ?_; first | refine r_ev tab_ok rfl rfl rfl rfl byE rfl ?_ | refine r_ev_cnd tab_ok rfl rfl rfl rfl rfl rfl byC (by first | exact fun _ => trivial | (intro h; simp at h; first | exact ⟨by omega, by omega⟩ | omega)) rfl ?_ | refine r_or rfl rfl rfl rfl rfl rfl rfl rfl ?_ | refine r_and rfl rfl rfl rfl rfl rfl rfl rfl ?_) | refine r_call_cnd (fun _ => refDigit _) call84 rfl rfl rfl rfl byC ⟨Sub.refl _, trivial⟩ rfl rfl rfl rfl ?_ | refine r_mro_cnd [0] (fun _ => numbers_ok _ _ hL (by omega)) call85 rfl rfl rfl rfl byC ⟨rfl, trivial⟩ (by decide) ⟨Sub.refl _, trivial⟩ rfl rfl rfl rfl rfl rfl ?_)
  refine awp_cond rfl (fun a4 => ?_) (fun a4 => ?_)
  · rw [if_pos (show numB L i = true from a4)]
    repeat (first | refine awp_seq ?_ | refine a_region ?_ | (refine r_id ?_; first | refine r_ev tab_ok rfl rfl rfl rfl byE rfl ?_))
    refine r_mcall [0] (number_ok L i hL (by omega)) call86 rfl rfl ⟨rfl, trivial⟩ (by decide) ⟨Sub.refl _, trivial⟩ rfl rfl rfl rfl rfl rfl rfl ?_
    repeat (first | refine thenA_normal ?_ | refine awp_ret ?_ | refine thenA_ret ?_ | refine blockA_ret ?_ | refine r_done ?_ | (refine r_id ?_; first | refine r_st tab_ok rfl rfl rfl rfl ?_))
    exact retM1c tab_ok byO rfl rfl rfl rfl rfl rfl rfl rfl (Sub.refl _)
  rw [if_neg (show ¬ numB L i = true by rw [show numB L i = false from a4]; decide)]
  repeat (first | refine awp_seq ?_ | refine thenA_normal ?_ | refine a_region ?_ | refine r_done ?_ | (refine r_id ?_; first | refine r_ev tab_ok rfl rfl rfl rfl byE rfl ?_ | refine r_ev_cnd tab_ok rfl rfl rfl rfl rfl rfl byC (by first | exact fun _ => trivial | (intro h; simp at h; first | exact ⟨by omega, by omega⟩ | omega)) rfl ?_ | refine r_and rfl rfl rfl rfl rfl rfl rfl rfl ?_) | refine r_mro_cnd [0] (fun _ => sign_ok _ _ _ hL (by omega) (by omega)) call55 rfl rfl rfl rfl byC ⟨rfl, trivial⟩ (by decide) ⟨Sub.refl _, Sub.refl _, trivial⟩ rfl rfl rfl rfl rfl rfl ?_)
  refine awp_cond rfl (fun a5 => ?_) (fun a5 => ?_)
  · rw [if_pos (show cdcB L i = true from a5)]
    repeat (first | refine awp_seq ?_ | refine thenA_normal ?_ | refine a_region ?_ | refine awp_ret ?_ | refine thenA_ret ?_ | refine blockA_ret ?_ | refine r_done ?_ | (refine r_id ?_; first | refine r_ev tab_ok rfl rfl rfl rfl byE rfl ?_ | refine r_ld tab_ok rfl rfl rfl rfl rfl ?_ | refine r_st tab_ok rfl rfl rfl rfl ?_ | refine r_build tab_ok rfl rfl rfl rfl rfl rfl ?_ | refine r_nilck rfl rfl rfl rfl rfl rfl rfl ?_))
    exact retM1c tab_ok byO rfl rfl rfl rfl rfl rfl rfl rfl (Sub.refl _)
  rw [if_neg (show ¬ cdcB L i = true by rw [show cdcB L i = false from a5]; decide)]
  repeat (first | refine awp_seq ?_ | refine thenA_normal ?_ | refine a_region ?_ | refine r_done ?_ | (refine r_id ?_; first | refine r_ev tab_ok rfl rfl rfl rfl byE rfl ?_ | refine r_ev_cnd tab_ok rfl rfl rfl rfl rfl rfl byC (by first | exact fun _ => trivial | (intro h; simp at h; first | exact ⟨by omega, by omega⟩ | omega)) rfl ?_ | refine r_and rfl rfl rfl rfl rfl rfl rfl rfl ?_) | refine r_mro_cnd [0] (fun _ => sign_ok _ _ _ hL (by omega) (by omega)) call55 rfl rfl rfl rfl byC ⟨rfl, trivial⟩ (by decide) ⟨Sub.refl _, Sub.refl _, trivial⟩ rfl rfl rfl rfl rfl rfl ?_)
  refine awp_cond rfl (fun a6 => ?_) (fun a6 => ?_)
  · rw [if_pos (show cdoB L i = true from a6)]
    repeat (first | refine awp_seq ?_ | refine thenA_normal ?_ | refine a_region ?_ | refine awp_ret ?_ | refine thenA_ret ?_ | refine blockA_ret ?_ | refine r_done ?_ | (refine r_id ?_; first | refine r_ev tab_ok rfl rfl rfl rfl byE rfl ?_ | refine r_ld tab_ok rfl rfl rfl rfl rfl ?_ | refine r_st tab_ok rfl rfl rfl rfl ?_ | refine r_build tab_ok rfl rfl rfl rfl rfl rfl ?_ | refine r_nilck rfl rfl rfl rfl rfl rfl rfl ?_))
    exact retM1c tab_ok byO rfl rfl rfl rfl rfl rfl rfl rfl (Sub.refl _)
  rw [if_neg (show ¬ cdoB L i = true by rw [show cdoB L i = false from a6]; decide)]
  repeat (first | refine awp_seq ?_ | refine thenA_normal ?_ | refine a_region ?_ | refine r_done ?_ | (refine r_id ?_; first | refine r_ev tab_ok rfl rfl rfl rfl byE rfl ?_ | refine r_ev_cnd tab_ok rfl rfl rfl rfl rfl rfl byC (by first | exact fun _ => trivial | (intro h; simp at h; first | exact ⟨by omega, by omega⟩ | omega)) rfl ?_ | refine r_and rfl rfl rfl rfl rfl rfl rfl rfl ?_) | refine r_mro_cnd [0] (fun _ => names_ok _ _ _ hL (by omega) (by omega)) call82 rfl rfl rfl rfl byC ⟨rfl, trivial⟩ (by decide) ⟨Sub.refl _, Sub.refl _, trivial⟩ rfl rfl rfl rfl rfl rfl ?_)
  refine awp_cond rfl (fun a7 => ?_) (fun a7 => ?_)
  · rw [if_pos (show atB L i = true from a7)]
    repeat (first | refine awp_seq ?_ | refine a_region ?_ | refine r_done ?_ | (refine r_id ?_; first | refine r_ev tab_ok rfl rfl rfl rfl byE rfl ?_ | refine r_ld tab_ok rfl rfl rfl rfl rfl ?_ | refine r_st tab_ok rfl rfl rfl rfl ?_ | refine r_nilck rfl rfl rfl rfl rfl rfl rfl ?_))
    refine r_mcall [0] (name_ok L (i + 1) hL hi) call83 rfl rfl ⟨rfl, trivial⟩ (by decide) ⟨Sub.refl _, trivial⟩ rfl rfl rfl rfl rfl rfl rfl ?_
    repeat (first | refine thenA_normal ?_ | refine awp_ret ?_ | refine thenA_ret ?_ | refine blockA_ret ?_ | refine r_done ?_ | (refine r_id ?_; first | refine r_st tab_ok rfl rfl rfl rfl ?_ | refine r_build tab_ok rfl rfl rfl rfl rfl rfl ?_))
    exact retM1c tab_ok byO rfl rfl rfl rfl rfl rfl rfl rfl (Sub.refl _)
  rw [if_neg (show ¬ atB L i = true by rw [show atB L i = false from a7]; decide)]
  repeat (first | refine awp_seq ?_ | refine thenA_normal ?_ | refine a_region ?_ | refine r_done ?_ | (refine r_id ?_; first | refine r_ev tab_ok rfl rfl rfl rfl byE rfl ?_) | refine r_mro [0] (names_ok _ _ _ hL (by omega) (by omega)) call82 rfl rfl ⟨rfl, trivial⟩ (by decide) ⟨Sub.refl _, Sub.refl _, trivial⟩ rfl rfl rfl rfl rfl rfl ?_)
  rw [Int.add_zero]
  refine awp_cond rfl (fun a8 => ?_) (fun a8 => ?_)
  · rw [if_pos a8]
    repeat (first | refine awp_seq ?_ | refine a_region ?_ | (refine r_id ?_; first | refine r_ev tab_ok rfl rfl rfl rfl byE rfl ?_))
    refine r_mcall [0] (ident_ok L i hL (by omega)) call87 rfl rfl ⟨rfl, trivial⟩ (by decide) ⟨Sub.refl _, trivial⟩ rfl rfl rfl rfl rfl rfl rfl ?_
    repeat (first | refine thenA_normal ?_ | refine awp_ret ?_ | refine thenA_ret ?_ | refine blockA_ret ?_ | refine r_done ?_ | (refine r_id ?_; first | refine r_st tab_ok rfl rfl rfl rfl ?_))
    exact retM1c tab_ok byO rfl rfl rfl rfl rfl rfl rfl rfl (Sub.refl _)
  rw [if_neg (by rw [a8]; decide)]
  repeat (first | refine awp_seq ?_ | refine a_region ?_ | refine awp_skip ?_ | (refine r_id ?_; first | refine r_ev tab_ok rfl rfl rfl rfl byE rfl ?_))
  refine r_mcall [0] (delim_ok L i hL hi) call88 rfl rfl ⟨rfl, trivial⟩ (by decide) ⟨Sub.refl _, trivial⟩ rfl rfl rfl rfl rfl rfl rfl ?_
  repeat (first | refine thenA_normal ?_ | refine awp_ret ?_ | refine r_done ?_ | (refine r_id ?_; first | refine r_st tab_ok rfl rfl rfl rfl ?_))
  exact retM1c tab_ok byO rfl rfl rfl rfl rfl rfl rfl rfl (Sub.refl _)
end Go.Proofs.YtiolnmfaeenlmaaGreatDoor

/- The reader: all tokens. -/
namespace Go.Proofs.YtiolnmfaeenlmaaGreatDoor
open Go Go.RowKit

theorem digEnd_gt (L : List Int) {i : Nat} (h : digF (sg L i) = true) : i < digEnd L i := by
  have hin := dig_in h
  have h1 : digStep L i = .inl ([sg L i], i + 1) := if_pos h
  have h2 : digEnd L i = digEnd L (i + 1) := by rw [digEnd, goAt_go (digStep_goes L) (by omega) h1]; rfl
  have := digEnd_le L (i := i + 1) hin
  omega
theorem nameEnd_gt (L : List Int) {i : Nat} (h : namesF L i = true) : i < nameEnd L i := by
  have key : ∃ o j, nameStep L i = .inl (o, j) := by
    unfold nameStep
    by_cases hn : nameF (sg L i) = true
    · exact ⟨_, _, if_pos hn⟩
    · rw [if_neg hn]
      have he : escF L i = true := by
        rw [nameF, Bool.or_eq_true, Bool.or_eq_true] at hn
        rw [namesF] at h
        split at h
        · rename_i h45
          exact absurd (.inr (by rw [h45]; decide)) hn
        · rw [Bool.or_eq_true] at h
          rcases h with h | h
          · exact absurd (.inl (.inl h)) hn
          · exact h
      exact ⟨_, _, if_pos he⟩
  obtain ⟨o, j, h1⟩ := key
  have hin : i < L.length := by
    unfold nameStep at h1
    split at h1
    · rename_i hd
      exact sg_in (by intro h; rw [h] at hd; cases hd)
    · split at h1
      · rename_i hd; exact esc_in hd
      · cases h1
  have hg := nameStep_goes L _ _ _ (by omega) h1
  have h2 : nameEnd L i = nameEnd L j := by rw [nameEnd, goAt_go (nameStep_goes L) (by omega) h1]; rfl
  have := nameEnd_le L (i := j) hg.2.1
  omega
theorem numF_gt (L : List Int) {i : Nat} (hi : i < L.length) (h : numsF L i = true) : i < (numF L i).2 ∧ (numF L i).2 ≤ L.length := by
  have h1 := n1_le L (i := i) (by omega)
  have h2 := digEnd_le L h1.2
  have h3 := n3_le L h2.2
  have h4 := n4_le L h3.2
  have hP : i < nP L i := by
    rw [nP, n2]
    by_cases hs : nS L i = true
    · have : n1 L i = i + 1 := if_pos hs
      omega
    · have e1 : n1 L i = i := if_neg hs
      rw [e1] at h2 h3 h4 ⊢
      have hns : ¬ (sg L i = 43 ∨ sg L i = 45) := by
        intro h; apply hs; rw [nS]; simpa using h
      rw [numsF, if_neg hns, Int.add_zero, if_neg hns, Bool.or_eq_true] at h
      rcases h with h | h
      · have := digEnd_gt L h
        omega
      · rcases Nat.lt_or_ge i (digEnd L i) with h5 | h5
        · omega
        · have e2 : digEnd L i = i := by omega
          rw [e2] at h3 h4 ⊢
          have hd : nDot L i = true := h
          have hin := nDot_in hd
          have e3 : n3 L i = digEnd L (i + 1) := if_pos hd
          have := digEnd_le L (i := i + 1) (by omega)
          omega
  have hPl : nP L i ≤ L.length := h4.2
  rw [numF]
  split
  · have := nameEnd_le L hPl
    dsimp only; omega
  · split
    · rename_i h5
      have := sg_in (L := L) (i := nP L i) (by rw [h5]; decide)
      dsimp only; omega
    · exact ⟨hP, hPl⟩
theorem idtF_gt (L : List Int) {i : Nat} (hi : i ≤ L.length) (h : namesF L i = true) : i < (idtF L i).2 ∧ (idtF L i).2 ≤ L.length := by
  have h1 := nameEnd_gt L h
  have h2 := nameEnd_le L hi
  unfold idtF
  split
  · rename_i h40
    have hin := sg_in (L := L) (i := nameEnd L i) (by rw [h40]; decide)
    split
    · split
      · have := wEnd_le L (i := nameEnd L i + 1) hin
        dsimp only; omega
      · have := urlF_le L (i := nameEnd L i + 1) hin
        omega
    · dsimp only; omega
  · dsimp only; omega
theorem sg_at {L : List Int} {i k : Nat} {c : Int} (h : decide (sg L ((i : Int) + k) = c) = true) (hc : c ≠ -1) : i + k < L.length := by
  rw [decide_eq_true_eq] at h
  exact sg_in (L := L) (i := i + k) (by rw [show ((i + k : Nat) : Int) = (i : Int) + k from rfl, h]; exact hc)
theorem tokF_gt (L : List Int) {i : Nat} (hi : i < L.length) : i < (tokF L i).2 ∧ (tokF L i).2 ≤ L.length := by
  rw [tokF]
  split
  · dsimp only; omega
  split
  · rename_i hw
    have := wEnd_gt L (by omega) hw
    have := wEnd_le L (i := i) (by omega)
    dsimp only; omega
  split
  · rename_i hq
    have := quoF_le (sg L i) (by omega) L (i := i + 1) hi
    omega
  split
  · have := nameEnd_le L (i := i + 1) hi
    dsimp only; omega
  split
  · rename_i hn
    rw [numB, Bool.and_eq_true] at hn
    exact numF_gt L hi hn.2
  split
  · rename_i hn
    rw [cdcB, Bool.and_eq_true, Bool.and_eq_true] at hn
    have := sg_at (k := 2) hn.2 (by decide)
    dsimp only; omega
  split
  · rename_i hn
    rw [cdoB, Bool.and_eq_true, Bool.and_eq_true, Bool.and_eq_true] at hn
    have := sg_at (k := 3) hn.2 (by decide)
    dsimp only; omega
  split
  · have := nameEnd_le L (i := i + 1) hi
    dsimp only; omega
  split
  · rename_i hn
    exact idtF_gt L (by omega) hn
  · dsimp only; omega
/-- Within a comment. -/
def eStep (L : List Int) (i : Nat) : (List Int × Nat) ⊕ Nat := if 0 ≤ sg L i ∧ (sg L i ≠ 42 ∨ sg L (i + 1) ≠ 47) then .inl ([], i + 1) else .inr i
theorem eStep_goes (L : List Int) : Goes2 L.length (eStep L) := by
  intro i o j hi h
  unfold eStep at h
  split at h
  · rename_i he
    cases h
    exact ⟨by omega, sg_ge he.1, by simp⟩
  · cases h
def eEnd (L : List Int) (i : Nat) : Nat := ((goAt L.length (eStep L) i).2).getD 0
theorem eEnd_le (L : List Int) {i : Nat} (h : i ≤ L.length) : i ≤ eEnd L i ∧ eEnd L i ≤ L.length := by
  obtain ⟨r, j, h1, h2, h3, h4, _⟩ := goAt_end (eStep_goes L) L.length i h (by omega)
  have : r = j := by
    unfold eStep at h4
    split at h4
    · cases h4
    · cases h4; rfl
  rw [eEnd, h1, this]
  exact ⟨h2, h3⟩
/-- From comment to comment. -/
def cStep (L : List Int) (i : Nat) : (List Int × Nat) ⊕ Nat := if sg L i = 47 ∧ sg L (i + 1) = 42 then .inl ([], min (eEnd L (i + 2) + 2) L.length) else .inr i
theorem cStep_goes (L : List Int) : Goes2 L.length (cStep L) := by
  intro i o j hi h
  unfold cStep at h
  split at h
  · rename_i hc
    cases h
    have := sg_at (L := L) (i := i) (k := 1) (c := 42) (by rw [decide_eq_true_eq]; exact hc.2) (by decide)
    have := eEnd_le L (i := i + 2) (by omega)
    exact ⟨by omega, by omega, by simp; omega⟩
  · cases h
def cEnd (L : List Int) (i : Nat) : Nat := ((goAt L.length (cStep L) i).2).getD 0
theorem cEnd_le (L : List Int) {i : Nat} (h : i ≤ L.length) : i ≤ cEnd L i ∧ cEnd L i ≤ L.length := by
  obtain ⟨r, j, h1, h2, h3, h4, _⟩ := goAt_end (cStep_goes L) L.length i h (by omega)
  have : r = j := by
    unfold cStep at h4
    split at h4
    · cases h4
    · cases h4; rfl
  rw [cEnd, h1, this]
  exact ⟨h2, h3⟩
/-- From token to token. -/
def tStep (L : List Int) (i : Nat) : (List Tk × Nat) ⊕ Unit := if sg L (cEnd L i) < 0 ∨ L.length ≤ cEnd L i then .inr () else .inl ([(tokF L (cEnd L i)).1], (tokF L (cEnd L i)).2)
theorem tStep_goes (L : List Int) : Goes2 L.length (tStep L) := by
  intro i o j hi h
  unfold tStep at h
  split at h
  · cases h
  · rename_i hc
    cases h
    have h1 := cEnd_le L hi
    have := tokF_gt L (i := cEnd L i) (by omega)
    exact ⟨by omega, this.2, by simp only [List.length_singleton]; omega⟩
def toksF (L : List Int) : List Tk := (goAt L.length (tStep L) 0).1
end Go.Proofs.YtiolnmfaeenlmaaGreatDoor

/- The reader: all tokens, the walk. -/
namespace Go.Proofs.YtiolnmfaeenlmaaGreatDoor
open Go Go.RowKit

set_option maxHeartbeats 4000000 in
theorem tokens_ok (L : List Int) (hL : L.length ≤ 1099511627776) : PCalls Tryz.prog 32 [.sl 1 (L.map rD)] (.sl 6 ((toksF L).map tD)) := by
  refine p_start Tryz.func32 Tryz.ntmps32 rfl rfl rfl fun S w => ?_
  repeat (first | refine awp_seq ?_ | refine thenA_normal ?_ | refine awp_block ?_ | refine a_region ?_ | refine r_done ?_ | (refine r_id ?_; first | refine r_ev tab_ok rfl rfl rfl rfl byE rfl ?_ | refine r_wr tab_ok rfl rfl rfl rfl rfl ?_ | refine r_build tab_ok rfl rfl rfl rfl rfl rfl ?_))
  refine a_loop (σ := GS L.length (tStep L) 0) (fun x => [rdB L x.i, .row 0 47 6 (x.out.map tD)]) (fun x => [(3, .ptr 0 0), (4, .row 1 0)]) (fun x => L.length - x.i) (GS.start (Nat.zero_le _)) (fits_conv byV ⟨c_ptr rfl rfl rfl rfl, c_nil rfl rfl, trivial⟩) ?_
  intro x
  have hle := x.le
  have hlen := x.len
  have hml : (x.out.map tD).length = x.out.length := List.length_map _
  repeat (first | refine awp_seq ?_ | refine awp_block ?_)
  refine a_loop (σ := GS L.length (cStep L) x.i) (fun y => [rdB L y.i, .row 0 47 6 (x.out.map tD)]) (fun y => [(3, .ptr 0 0), (4, .row 1 0)]) (fun y => L.length - y.i) (GS.start hle) (fits_conv byV byV) ?_
  intro y
  have hyle := y.le
  repeat (first | refine awp_seq ?_ | refine thenA_normal ?_ | refine a_region ?_ | refine r_done ?_ | (refine r_id ?_; first | refine r_ev tab_ok rfl rfl rfl rfl byE rfl ?_ | refine r_ev_cnd tab_ok rfl rfl rfl rfl rfl rfl byC (by first | exact fun _ => trivial | (intro h; simp at h; first | exact ⟨by omega, by omega⟩ | omega)) rfl ?_ | refine r_and rfl rfl rfl rfl rfl rfl rfl rfl ?_) | refine r_mro [0] (sign_ok _ _ _ hL (by omega) (by omega)) call55 rfl rfl ⟨rfl, trivial⟩ (by decide) ⟨Sub.refl _, Sub.refl _, trivial⟩ rfl rfl rfl rfl rfl rfl ?_ | refine r_mro_cnd [0] (fun _ => sign_ok _ _ _ hL (by omega) (by omega)) call55 rfl rfl rfl rfl byC ⟨rfl, trivial⟩ (by decide) ⟨Sub.refl _, Sub.refl _, trivial⟩ rfl rfl rfl rfl rfl rfl ?_)
  rw [Int.add_zero]
  refine awp_cond rfl (fun h => ?_) (fun h => ?_)
  · have hc : sg L y.i = 47 ∧ sg L (y.i + 1) = 42 := by simpa using h
    have hin := sg_at (L := L) (i := y.i) (k := 1) (c := 42) (by rw [decide_eq_true_eq]; exact hc.2) (by decide)
    have hst : cStep L y.i = .inl ([], min (eEnd L (y.i + 2) + 2) L.length) := if_pos hc
    have hg := cStep_goes L _ _ _ hyle hst
    repeat (first | refine awp_seq ?_ | refine thenA_normal ?_ | refine awp_block ?_ | refine a_region ?_ | refine awp_skip ?_ | refine r_done ?_ | (refine r_id ?_; first | refine r_ev tab_ok rfl rfl rfl rfl byE rfl ?_ | refine r_ld tab_ok rfl rfl rfl rfl rfl ?_ | refine r_st tab_ok rfl rfl rfl rfl ?_ | refine r_nilck rfl rfl rfl rfl rfl rfl rfl ?_))
    refine a_loop (σ := GS L.length (eStep L) (y.i + 2)) (fun z => [rdB L z.i, .row 0 47 6 (x.out.map tD)]) (fun y => [(3, .ptr 0 0), (4, .row 1 0)]) (fun z => L.length - z.i) (GS.start (by omega)) (fits_conv byV byV) ?_
    intro z
    have hzle := z.le
    repeat (first | refine awp_seq ?_ | refine thenA_normal ?_ | refine a_region ?_ | refine r_done ?_ | (refine r_id ?_; first | refine r_ev tab_ok rfl rfl rfl rfl byE rfl ?_ | refine r_ev_cnd tab_ok rfl rfl rfl rfl rfl rfl byC (by first | exact fun _ => trivial | (intro h; simp at h; first | exact ⟨by omega, by omega⟩ | omega)) rfl ?_ | refine r_or_cnd rfl rfl rfl rfl rfl rfl rfl rfl rfl rfl ?_ | refine r_and rfl rfl rfl rfl rfl rfl rfl rfl ?_) | refine r_mro [0] (sign_ok _ _ _ hL (by omega) (by omega)) call55 rfl rfl ⟨rfl, trivial⟩ (by decide) ⟨Sub.refl _, Sub.refl _, trivial⟩ rfl rfl rfl rfl rfl rfl ?_ | refine r_mro_cnd [0] (fun _ => sign_ok _ _ _ hL (by omega) (by omega)) call55 rfl rfl rfl rfl byC ⟨rfl, trivial⟩ (by decide) ⟨Sub.refl _, Sub.refl _, trivial⟩ rfl rfl rfl rfl rfl rfl ?_)
    rw [Int.add_zero]
    refine awp_cond rfl (fun h2 => ?_) (fun h2 => ?_)
    · have he : 0 ≤ sg L z.i ∧ (sg L z.i ≠ 42 ∨ sg L (z.i + 1) ≠ 47) := by simpa using h2
      have hst : eStep L z.i = .inl ([], z.i + 1) := if_pos he
      have hg := eStep_goes L _ _ _ hzle hst
      repeat (first | refine thenA_normal ?_ | refine awp_block ?_ | refine a_region ?_ | refine blockA_normal ?_ | refine awp_skip ?_ | refine r_done ?_ | (refine r_id ?_; first | refine r_ev tab_ok rfl rfl rfl rfl byE rfl ?_ | refine r_ld tab_ok rfl rfl rfl rfl rfl ?_ | refine r_st tab_ok rfl rfl rfl rfl ?_ | refine r_nilck rfl rfl rfl rfl rfl rfl rfl ?_))
      exact ⟨z.next (eStep_goes L) hst, by dsimp only [GS.next]; omega, fits_conv byV byV⟩
    have he : ¬ (0 ≤ sg L z.i ∧ (sg L z.i ≠ 42 ∨ sg L (z.i + 1) ≠ 47)) := by
      simp only [Bool.and_eq_false_iff, Bool.or_eq_false_iff, decide_eq_false_iff_not, Bool.not_eq_false', decide_eq_true_eq] at h2
      omega
    have hst2 : eStep L z.i = .inr z.i := if_neg he
    have hz0 : eEnd L (y.i + 2) = z.i := by rw [eEnd, z.stop hst2]; rfl
    rw [hz0] at hst hg
    repeat (first | refine thenA_normal ?_ | refine awp_exit ?_ | refine thenA_exit ?_ | refine blockA_hit rfl ?_)
    refine a_draw rfl (List.replicate 14 1 ++ [2]) (by kernel_rfl) ?_
    have em : (min ((z.i : Int) + 2) (L.length : Int)) = ((min (z.i + 2) L.length : Nat) : Int) := by omega
    repeat (first | refine thenA_normal ?_ | refine blockA_normal ?_ | refine r_done' ?_ | (refine r_id ?_; first | refine r_len tab_ok rfl rfl rfl rfl rfl rfl rfl ?_ | refine r_ev tab_ok rfl rfl rfl rfl byE rfl ?_ | refine r_ld tab_ok rfl rfl rfl rfl rfl ?_ | refine r_st tab_ok rfl rfl rfl rfl ?_ | refine r_nilck rfl rfl rfl rfl rfl rfl rfl ?_))
    rw [em]
    exact ⟨y.next (cStep_goes L) hst, by dsimp only [GS.next]; omega, fits_conv byV byV⟩
  have hc : ¬ (sg L y.i = 47 ∧ sg L (y.i + 1) = 42) := by simpa using h
  have hst : cStep L y.i = .inr y.i := if_neg hc
  have hy0 : cEnd L x.i = y.i := by rw [cEnd, y.stop hst]; rfl
  repeat (first | refine awp_seq ?_ | refine thenA_normal ?_ | refine a_region ?_ | refine awp_exit ?_ | refine r_done ?_ | (refine r_id ?_; first | refine r_ev tab_ok rfl rfl rfl rfl byE rfl ?_) | refine r_mro [0] (sign_ok _ _ _ hL (by omega) (by omega)) call55 rfl rfl ⟨rfl, trivial⟩ (by decide) ⟨Sub.refl _, Sub.refl _, trivial⟩ rfl rfl rfl rfl rfl rfl ?_)
  rw [Int.add_zero]
  refine awp_cond_p rfl (fun h3 => ?_) (fun h3 => ?_)
  · have ht : tStep L x.i = .inr () := by rw [tStep, hy0, if_pos (.inl h3)]
    rw [toksF, x.stop ht]
    repeat (first | refine awp_seq ?_ | refine thenA_normal ?_ | refine a_region ?_ | refine awp_ret ?_ | refine thenA_ret ?_ | refine blockA_ret ?_ | refine r_done ?_ | (refine r_id ?_; first | refine r_ev tab_ok rfl rfl rfl rfl byE rfl ?_) | refine ret1_row byO rfl rfl rfl ?_)
    exact Sub.refl _
  have hin := sg_ge (L := L) (i := y.i) (by omega)
  have ht : tStep L x.i = .inl ([(tokF L y.i).1], (tokF L y.i).2) := by rw [tStep, hy0, if_neg (by omega)]
  have hg := tStep_goes L _ _ _ hle ht
  repeat (first | refine thenA_normal ?_ | refine a_region ?_ | refine awp_skip ?_ | (refine r_id ?_; first | refine r_ev tab_ok rfl rfl rfl rfl byE rfl ?_))
  refine r_mcall [0] (token_ok L y.i hL hin) call56 rfl rfl ⟨rfl, trivial⟩ (by decide) ⟨Sub.refl _, trivial⟩ rfl rfl rfl rfl rfl rfl rfl ?_
  repeat (first | refine thenA_normal ?_ | refine blockA_normal ?_ | refine r_done ?_ | (refine r_id ?_; first | refine r_ev tab_ok rfl rfl rfl rfl byE rfl ?_ | refine r_built tab_ok rfl rfl rfl rfl rfl rfl rfl rfl rfl ?_ | refine r_append tab_ok rfl rfl rfl rfl rfl rfl rfl rfl rfl (by first | omega | (simp; omega)) rfl ?_))
  refine ⟨x.next (tStep_goes L) ht, by dsimp only [GS.next]; omega, ?_⟩
  dsimp only [GS.next]
  rw [List.map_append]
  exact fits_conv byV byV
end Go.Proofs.YtiolnmfaeenlmaaGreatDoor
