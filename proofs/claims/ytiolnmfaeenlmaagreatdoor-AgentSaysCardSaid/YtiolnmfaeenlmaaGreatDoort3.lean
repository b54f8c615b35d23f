import Derived.Test.YtiolnmfaeenlmaaGreatDoorKd
import Derived.Test.YtiolnmfaeenlmaaGreatDoorF4
/- The program's signs: what they are; read, put. -/
namespace Go.Proofs.YtiolnmfaeenlmaaGreatDoor
open Go Go.RowKit
set_option maxRecDepth 20000

theorem pDigit (r : Int) : PCalls Tryz.prog 97 [iA r] (.val (.bool (digF r))) := by
  refine p_start Tryz.func97 Tryz.ntmps97 rfl rfl rfl fun S w => ?_
  repeat (first | refine awp_seq ?_ | refine thenA_normal ?_ | refine a_region ?_ | refine awp_ret ?_ | refine r_done ?_ | (refine r_id ?_; first | refine r_ev tab_ok rfl rfl rfl rfl byE rfl ?_ | refine r_ev_cnd tab_ok rfl rfl rfl rfl rfl rfl byC (by first | exact fun _ => trivial | (intro h; simp at h; first | exact ⟨by omega, by omega⟩ | omega)) rfl ?_ | refine r_and rfl rfl rfl rfl rfl rfl rfl rfl ?_) | refine ret1 byO rfl rfl rfl ?_)
  exact Sub.refl _
theorem pLetter (r : Int) : PCalls Tryz.prog 104 [iA r] (.val (.bool (letF r))) := by
  refine p_start Tryz.func104 Tryz.ntmps104 rfl rfl rfl fun S w => ?_
  repeat (first | refine awp_seq ?_ | refine thenA_normal ?_ | refine a_region ?_ | refine awp_ret ?_ | refine r_done ?_ | (refine r_id ?_; first | refine r_ev tab_ok rfl rfl rfl rfl byE rfl ?_ | refine r_ev_cnd tab_ok rfl rfl rfl rfl rfl rfl byC (by first | exact fun _ => trivial | (intro h; simp at h; first | exact ⟨by omega, by omega⟩ | omega)) rfl ?_ | refine r_and_cnd rfl rfl rfl rfl rfl rfl rfl rfl rfl rfl ?_ | refine r_or rfl rfl rfl rfl rfl rfl rfl rfl ?_ | refine r_and rfl rfl rfl rfl rfl rfl rfl rfl ?_) | refine ret1 byO rfl rfl rfl ?_)
  exact Sub.refl _
theorem pWhite (r : Int) : PCalls Tryz.prog 93 [iA r] (.val (.bool (whiteF r))) := by
  refine p_start Tryz.func93 Tryz.ntmps93 rfl rfl rfl fun S w => ?_
  repeat (first | refine awp_seq ?_ | refine thenA_normal ?_ | refine a_region ?_ | refine awp_ret ?_ | refine r_done ?_ | (refine r_id ?_; first | refine r_ev tab_ok rfl rfl rfl rfl byE rfl ?_ | refine r_ev_cnd tab_ok rfl rfl rfl rfl rfl rfl byC (by first | exact fun _ => trivial | (intro h; simp at h; first | exact ⟨by omega, by omega⟩ | omega)) rfl ?_ | refine r_or rfl rfl rfl rfl rfl rfl rfl rfl ?_) | refine ret1 byO rfl rfl rfl ?_)
  exact Sub.refl _
theorem pPut (r : Int) : PCalls Tryz.prog 95 [iA r] (.val (.string (runesBytes [r]))) := by
  refine p_start Tryz.func95 Tryz.ntmps95 rfl rfl rfl fun S w => ?_
  repeat (first | refine awp_seq ?_ | refine thenA_normal ?_ | refine a_region ?_ | refine awp_ret ?_ | refine r_done ?_ | (refine r_id ?_; first | refine r_ev tab_ok rfl rfl rfl rfl byE rfl ?_ | refine r_rstr tab_ok rfl rfl rfl rfl rfl rfl rfl rfl ?_) | refine ret1 byO rfl rfl rfl ?_)
  exact Sub.of_eq (by rw [runesBytes, List.foldl_cons, List.foldl_nil, ByteArray.empty_append])
theorem pName (r : Int) : PCalls Tryz.prog 102 [iA r] (.val (.bool (nameF r))) := by
  refine p_start Tryz.func102 Tryz.ntmps102 rfl rfl rfl fun S w => ?_
  repeat (first | refine awp_seq ?_ | refine a_region ?_ | refine r_done ?_ | (refine r_id ?_; first | refine r_ev tab_ok rfl rfl rfl rfl byE rfl ?_))
  refine r_call (pLetter r) call104 rfl rfl ⟨Sub.refl _, trivial⟩ rfl rfl rfl rfl ?_
  repeat (first | (refine r_id ?_; first | refine r_ev tab_ok rfl rfl rfl rfl byE rfl ?_ | refine r_ev_cnd tab_ok rfl rfl rfl rfl rfl rfl byC (by first | exact fun _ => trivial | (intro h; simp at h; first | exact ⟨by omega, by omega⟩ | omega)) rfl ?_))
  refine r_call_cnd (fun _ => pDigit r) call97 rfl rfl rfl rfl byC ⟨Sub.refl _, trivial⟩ rfl rfl rfl rfl ?_
  repeat (first | refine thenA_normal ?_ | refine awp_ret ?_ | refine r_done ?_ | (refine r_id ?_; first | refine r_ev tab_ok rfl rfl rfl rfl byE rfl ?_ | refine r_ev_cnd tab_ok rfl rfl rfl rfl rfl rfl byC (by first | exact fun _ => trivial | (intro h; simp at h; first | exact ⟨by omega, by omega⟩ | omega)) rfl ?_ | refine r_or rfl rfl rfl rfl rfl rfl rfl rfl ?_) | refine ret1 byO rfl rfl rfl ?_)
  exact Sub.refl _
theorem pHex (r : Int) : PCalls Tryz.prog 112 [iA r] (hexA r) := by
  refine p_start Tryz.func112 Tryz.ntmps112 rfl rfl rfl fun S w => ?_
  repeat (first | refine awp_seq ?_ | refine awp_block ?_ | refine a_region ?_ | refine r_done ?_ | (refine r_id ?_; first | refine r_ev tab_ok rfl rfl rfl rfl byE rfl ?_))
  refine r_call (pDigit r) call97 rfl rfl ⟨Sub.refl _, trivial⟩ rfl rfl rfl rfl ?_
  repeat (first | refine thenA_normal ?_ | refine r_done ?_ | (refine r_id ?_; first | refine r_ev tab_ok rfl rfl rfl rfl byE rfl ?_))
  refine awp_cond rfl (fun h => ?_) (fun h => ?_)
  · simp [digF] at h
    repeat (first | refine awp_seq ?_ | refine thenA_normal ?_ | refine a_region ?_ | refine awp_ret ?_ | refine thenA_ret ?_ | refine blockA_ret ?_ | refine r_done ?_ | (refine r_id ?_; first | refine r_ev tab_ok rfl rfl rfl rfl byE rfl ?_) | refine ret2 byO rfl rfl rfl rfl ?_ ?_)
    · exact Sub.of_eq (by simp only [hexF, h, and_self, if_true])
    · exact Sub.of_eq (by simp only [hexF, h, and_self, if_true])
  · simp [digF] at h
    repeat (first | refine awp_seq ?_ | refine thenA_normal ?_ | refine a_region ?_ | refine r_done ?_ | (refine r_id ?_; first | refine r_ev tab_ok rfl rfl rfl rfl byE rfl ?_ | refine r_ev_cnd tab_ok rfl rfl rfl rfl rfl rfl byC (by first | exact fun _ => trivial | (intro h; simp at h; first | exact ⟨by omega, by omega⟩ | omega)) rfl ?_ | refine r_and rfl rfl rfl rfl rfl rfl rfl rfl ?_))
    refine awp_cond rfl (fun h1 => ?_) (fun h1 => ?_)
    · simp at h1
      repeat (first | refine awp_seq ?_ | refine thenA_normal ?_ | refine a_region ?_ | refine awp_ret ?_ | refine thenA_ret ?_ | refine blockA_ret ?_ | refine r_done ?_ | (refine r_id ?_; first | refine r_ev tab_ok rfl rfl rfl rfl byE rfl ?_) | refine ret2 byO rfl rfl rfl rfl ?_ ?_)
      · exact Sub.of_eq (by rw [hexF, if_neg (by omega), if_pos h1]; simp; omega)
      · exact Sub.of_eq (by rw [hexF, if_neg (by omega), if_pos h1])
    · simp at h1
      repeat (first | refine awp_seq ?_ | refine thenA_normal ?_ | refine a_region ?_ | refine r_done ?_ | (refine r_id ?_; first | refine r_ev tab_ok rfl rfl rfl rfl byE rfl ?_ | refine r_ev_cnd tab_ok rfl rfl rfl rfl rfl rfl byC (by first | exact fun _ => trivial | (intro h; simp at h; first | exact ⟨by omega, by omega⟩ | omega)) rfl ?_ | refine r_and rfl rfl rfl rfl rfl rfl rfl rfl ?_))
      refine awp_cond rfl (fun h2 => ?_) (fun h2 => ?_)
      · simp at h2
        repeat (first | refine awp_seq ?_ | refine thenA_normal ?_ | refine a_region ?_ | refine awp_ret ?_ | refine thenA_ret ?_ | refine blockA_ret ?_ | refine r_done ?_ | (refine r_id ?_; first | refine r_ev tab_ok rfl rfl rfl rfl byE rfl ?_) | refine ret2 byO rfl rfl rfl rfl ?_ ?_)
        · exact Sub.of_eq (by rw [hexF, if_neg (by omega), if_neg (by omega), if_pos h2]; simp; omega)
        · exact Sub.of_eq (by rw [hexF, if_neg (by omega), if_neg (by omega), if_pos h2])
      · simp at h2
        repeat (first | refine awp_seq ?_ | refine thenA_normal ?_ | refine a_region ?_ | refine awp_ret ?_ | refine awp_skip ?_ | refine r_done ?_ | (refine r_id ?_; first | refine r_ev tab_ok rfl rfl rfl rfl byE rfl ?_) | refine ret2 byO rfl rfl rfl rfl ?_ ?_)
        · exact Sub.of_eq (by rw [hexF, if_neg (by omega), if_neg (by omega), if_neg (by omega)])
        · exact Sub.of_eq (by rw [hexF, if_neg (by omega), if_neg (by omega), if_neg (by omega)])
/-- A reader of the program: signs, and a place. -/
def rdP (L : List Int) (a : Int) : AB := .box 78 [.sl 1 (L.map rD), .val (.int .i64 a)]
theorem see_ok (L : List Int) (a k : Int) (hL : L.length ≤ 1099511627776) (ha : 0 ≤ a ∧ a ≤ 2199023255552) (hk : 0 ≤ k ∧ k ≤ 2199023255552) : MCalls Tryz.prog 66 [rdP L a] [.ptr 0 0, kA k] [rdP L a] (iA (sg L (a + k))) := by
  refine m_start Tryz.func66 Tryz.ntmps66 rfl rfl rfl fun S w β => ?_
  repeat (first | refine awp_seq ?_ | refine thenA_normal ?_ | refine a_region ?_ | refine a_draw1 mixed_ok (by kernel_rfl) ?_ | refine r_done ?_ | refine r_done' ?_ | (refine r_id ?_; first | refine r_len tab_ok rfl rfl rfl rfl rfl rfl rfl ?_ | refine r_ev tab_ok rfl rfl rfl rfl byE rfl ?_ | refine r_ld tab_ok rfl rfl rfl rfl rfl ?_ | refine r_nilck rfl rfl rfl rfl rfl rfl rfl ?_))
  refine awp_cond_p rfl (fun h => ?_) (fun h => ?_)
  · repeat (first | refine awp_seq ?_ | refine thenA_normal ?_ | refine a_region ?_ | refine awp_ret ?_ | refine thenA_ret ?_ | refine r_done ?_ | (refine r_id ?_; first | refine r_ev tab_ok rfl rfl rfl rfl byE rfl ?_) | refine retM1 byO rfl rfl rfl rfl rfl ?_)
    exact Sub.of_eq (by unfold sg iA; rw [dif_neg (by omega)])
  · have hlt : (a + k).toNat < L.length := by omega
    repeat (first | refine awp_seq ?_ | refine thenA_normal ?_ | refine a_draw1 mixed_ok (by kernel_rfl) ?_ | refine awp_ret ?_ | refine awp_skip ?_ | refine r_done' ?_ | (refine r_id ?_; first | refine r_ev tab_ok rfl rfl rfl rfl byE rfl ?_ | refine r_ld tab_ok rfl rfl rfl rfl rfl ?_ | refine r_idx tab_ok rfl rfl rfl rfl rfl rfl rfl (by first | exact ⟨by omega, by omega⟩ | (simp; omega)) rfl rfl ?_ | refine r_nilck rfl rfl rfl rfl rfl rfl rfl ?_) | refine retM1 byO rfl rfl rfl rfl rfl ?_)
    exact Sub.of_eq (by
      unfold sg iA
      rw [dif_pos ⟨by omega, hlt⟩])
theorem pescaped_ok (L : List Int) (a k : Int) (hL : L.length ≤ 1099511627776) (ha : 0 ≤ a ∧ a ≤ 2199023255552) (hk : 0 ≤ k ∧ k ≤ 1099511627776) : MCalls Tryz.prog 103 [rdP L a] [.ptr 0 0, kA k] [rdP L a] (.val (.bool (escF L (a + k)))) := by
  refine m_start Tryz.func103 Tryz.ntmps103 rfl rfl rfl fun S w β => ?_
  repeat (first | refine awp_seq ?_ | refine thenA_normal ?_ | refine a_region ?_ | refine awp_ret ?_ | refine r_done ?_ | (refine r_id ?_; first | refine r_ev tab_ok rfl rfl rfl rfl byE rfl ?_ | refine r_ev_cnd tab_ok rfl rfl rfl rfl rfl rfl byC (by first | exact fun _ => trivial | (intro h; simp at h; first | exact ⟨by omega, by omega⟩ | omega)) rfl ?_ | refine r_and rfl rfl rfl rfl rfl rfl rfl rfl ?_) | refine retM1 byO rfl rfl rfl rfl rfl ?_ | refine r_mro [0] (see_ok _ _ _ hL (by omega) (by omega)) call66 rfl rfl ⟨rfl, trivial⟩ (by decide) ⟨Sub.refl _, Sub.refl _, trivial⟩ rfl rfl rfl rfl rfl rfl ?_ | refine r_mro_cnd [0] (fun _ => see_ok _ _ _ hL (by omega) (by omega)) call66 rfl rfl rfl rfl byC ⟨rfl, trivial⟩ (by decide) ⟨Sub.refl _, Sub.refl _, trivial⟩ rfl rfl rfl rfl rfl rfl ?_)
  exact Sub.of_eq (by rw [escF, Int.add_assoc])
theorem pbegins_ok (L : List Int) (a k : Int) (hL : L.length ≤ 1099511627776) (ha : 0 ≤ a ∧ a ≤ 2199023255552) (hk : 0 ≤ k ∧ k ≤ 549755813888) : MCalls Tryz.prog 72 [rdP L a] [.ptr 0 0, kA k] [rdP L a] (.val (.bool (namesF L (a + k)))) := by
  refine m_start Tryz.func72 Tryz.ntmps72 rfl rfl rfl fun S w β => ?_
  repeat (first | refine awp_seq ?_ | refine thenA_normal ?_ | refine a_region ?_ | refine r_done ?_ | (refine r_id ?_; first | refine r_ev tab_ok rfl rfl rfl rfl byE rfl ?_) | refine r_mro [0] (see_ok _ _ _ hL (by omega) (by omega)) call66 rfl rfl ⟨rfl, trivial⟩ (by decide) ⟨Sub.refl _, Sub.refl _, trivial⟩ rfl rfl rfl rfl rfl rfl ?_)
  refine awp_cond_p rfl (fun h => ?_) (fun h => ?_)
  · repeat (first | refine awp_seq ?_ | refine thenA_normal ?_ | refine a_region ?_ | refine awp_ret ?_ | refine thenA_ret ?_ | refine r_done ?_ | (refine r_id ?_; first | refine r_ev tab_ok rfl rfl rfl rfl byE rfl ?_ | refine r_ev_cnd tab_ok rfl rfl rfl rfl rfl rfl byC (by first | exact fun _ => trivial | (intro h; simp at h; first | exact ⟨by omega, by omega⟩ | omega)) rfl ?_ | refine r_or rfl rfl rfl rfl rfl rfl rfl rfl ?_) | refine retM1 byO rfl rfl rfl rfl rfl ?_ | refine r_mro [0] (see_ok _ _ _ hL (by omega) (by omega)) call66 rfl rfl ⟨rfl, trivial⟩ (by decide) ⟨Sub.refl _, Sub.refl _, trivial⟩ rfl rfl rfl rfl rfl rfl ?_ | refine r_mro_cnd [0] (fun _ => see_ok _ _ _ hL (by omega) (by omega)) call66 rfl rfl rfl rfl byC ⟨rfl, trivial⟩ (by decide) ⟨Sub.refl _, Sub.refl _, trivial⟩ rfl rfl rfl rfl rfl rfl ?_ | refine r_mro_cnd [0] (fun _ => pescaped_ok _ _ _ hL (by omega) (by omega)) call103 rfl rfl rfl rfl byC ⟨rfl, trivial⟩ (by decide) ⟨Sub.refl _, Sub.refl _, trivial⟩ rfl rfl rfl rfl rfl rfl ?_ | refine r_call (pLetter _) call104 rfl rfl ⟨Sub.refl _, trivial⟩ rfl rfl rfl rfl ?_)
    exact Sub.of_eq (by rw [namesF, if_pos h, Int.add_assoc])
  · repeat (first | refine awp_seq ?_ | refine thenA_normal ?_ | refine a_region ?_ | refine awp_ret ?_ | refine awp_skip ?_ | refine r_done ?_ | (refine r_id ?_; first | refine r_ev tab_ok rfl rfl rfl rfl byE rfl ?_ | refine r_ev_cnd tab_ok rfl rfl rfl rfl rfl rfl byC (by first | exact fun _ => trivial | (intro h; simp at h; first | exact ⟨by omega, by omega⟩ | omega)) rfl ?_ | refine r_or rfl rfl rfl rfl rfl rfl rfl rfl ?_) | refine retM1 byO rfl rfl rfl rfl rfl ?_ | refine r_mro [0] (see_ok _ _ _ hL (by omega) (by omega)) call66 rfl rfl ⟨rfl, trivial⟩ (by decide) ⟨Sub.refl _, Sub.refl _, trivial⟩ rfl rfl rfl rfl rfl rfl ?_ | refine r_mro_cnd [0] (fun _ => pescaped_ok _ _ _ hL (by omega) (by omega)) call103 rfl rfl rfl rfl byC ⟨rfl, trivial⟩ (by decide) ⟨Sub.refl _, Sub.refl _, trivial⟩ rfl rfl rfl rfl rfl rfl ?_ | refine r_call (pLetter _) call104 rfl rfl ⟨Sub.refl _, trivial⟩ rfl rfl rfl rfl ?_)
    exact Sub.of_eq (by rw [namesF, if_neg h])
theorem pnumber_ok (L : List Int) (a : Int) (hL : L.length ≤ 1099511627776) (ha : 0 ≤ a ∧ a ≤ 2199023255552) : MCalls Tryz.prog 69 [rdP L a] [.ptr 0 0] [rdP L a] (.val (.bool (numsF L a))) := by
  refine m_start Tryz.func69 Tryz.ntmps69 rfl rfl rfl fun S w β => ?_
  repeat (first | refine awp_seq ?_ | refine thenA_normal ?_ | refine a_region ?_ | refine r_done ?_ | (refine r_id ?_; first | refine r_ev tab_ok rfl rfl rfl rfl byE rfl ?_ | refine r_ev_cnd tab_ok rfl rfl rfl rfl rfl rfl byC (by first | exact fun _ => trivial | (intro h; simp at h; first | exact ⟨by omega, by omega⟩ | omega)) rfl ?_ | refine r_or rfl rfl rfl rfl rfl rfl rfl rfl ?_) | refine r_mro [0] (see_ok _ _ _ hL (by omega) (by omega)) call66 rfl rfl ⟨rfl, trivial⟩ (by decide) ⟨Sub.refl _, Sub.refl _, trivial⟩ rfl rfl rfl rfl rfl rfl ?_ | refine r_mro_cnd [0] (fun _ => see_ok _ _ _ hL (by omega) (by omega)) call66 rfl rfl rfl rfl byC ⟨rfl, trivial⟩ (by decide) ⟨Sub.refl _, Sub.refl _, trivial⟩ rfl rfl rfl rfl rfl rfl ?_)
  refine awp_cond rfl (fun h => ?_) (fun h => ?_)
  · have h' : sg L a = 43 ∨ sg L a = 45 := by simpa [Int.add_zero] using h
    repeat (first | refine awp_seq ?_ | refine thenA_normal ?_ | refine a_region ?_ | refine awp_ret ?_ | refine r_done ?_ | (refine r_id ?_; first | refine r_ev tab_ok rfl rfl rfl rfl byE rfl ?_ | refine r_ev_cnd tab_ok rfl rfl rfl rfl rfl rfl byC (by first | exact fun _ => trivial | (intro h; simp at h; first | exact ⟨by omega, by omega⟩ | omega)) rfl ?_ | refine r_and_cnd rfl rfl rfl rfl rfl rfl rfl rfl rfl rfl ?_ | refine r_or rfl rfl rfl rfl rfl rfl rfl rfl ?_) | refine retM1 byO rfl rfl rfl rfl rfl ?_ | refine r_mro [0] (see_ok _ _ _ hL (by omega) (by omega)) call66 rfl rfl ⟨rfl, trivial⟩ (by decide) ⟨Sub.refl _, Sub.refl _, trivial⟩ rfl rfl rfl rfl rfl rfl ?_ | refine r_mro_cnd [0] (fun _ => see_ok _ _ _ hL (by omega) (by omega)) call66 rfl rfl rfl rfl byC ⟨rfl, trivial⟩ (by decide) ⟨Sub.refl _, Sub.refl _, trivial⟩ rfl rfl rfl rfl rfl rfl ?_ | refine r_call (pDigit _) call97 rfl rfl ⟨Sub.refl _, trivial⟩ rfl rfl rfl rfl ?_ | refine r_call_cnd (fun _ => pDigit _) call97 rfl rfl rfl rfl byC ⟨Sub.refl _, trivial⟩ rfl rfl rfl rfl ?_)
    exact Sub.of_eq (by simp only [numsF, if_pos h']; rfl)
  · have h' : ¬ (sg L a = 43 ∨ sg L a = 45) := by
      rw [Int.add_zero] at h
      simp at h
      omega
    repeat (first | refine awp_seq ?_ | refine thenA_normal ?_ | refine a_region ?_ | refine awp_ret ?_ | refine awp_skip ?_ | refine r_done ?_ | (refine r_id ?_; first | refine r_ev tab_ok rfl rfl rfl rfl byE rfl ?_ | refine r_ev_cnd tab_ok rfl rfl rfl rfl rfl rfl byC (by first | exact fun _ => trivial | (intro h; simp at h; first | exact ⟨by omega, by omega⟩ | omega)) rfl ?_ | refine r_and_cnd rfl rfl rfl rfl rfl rfl rfl rfl rfl rfl ?_ | refine r_or rfl rfl rfl rfl rfl rfl rfl rfl ?_) | refine retM1 byO rfl rfl rfl rfl rfl ?_ | refine r_mro [0] (see_ok _ _ _ hL (by omega) (by omega)) call66 rfl rfl ⟨rfl, trivial⟩ (by decide) ⟨Sub.refl _, Sub.refl _, trivial⟩ rfl rfl rfl rfl rfl rfl ?_ | refine r_mro_cnd [0] (fun _ => see_ok _ _ _ hL (by omega) (by omega)) call66 rfl rfl rfl rfl byC ⟨rfl, trivial⟩ (by decide) ⟨Sub.refl _, Sub.refl _, trivial⟩ rfl rfl rfl rfl rfl rfl ?_ | refine r_call (pDigit _) call97 rfl rfl ⟨Sub.refl _, trivial⟩ rfl rfl rfl rfl ?_ | refine r_call_cnd (fun _ => pDigit _) call97 rfl rfl rfl rfl byC ⟨Sub.refl _, trivial⟩ rfl rfl rfl rfl ?_)
    exact Sub.of_eq (by simp only [numsF, if_neg h', Int.add_zero]; rfl)
theorem podd (r : Int) : PCalls Tryz.prog 114 [iA r] (.val (.bool (badF r))) := by
  refine p_start Tryz.func114 Tryz.ntmps114 rfl rfl rfl fun S w => ?_
  repeat (first | refine awp_seq ?_ | refine thenA_normal ?_ | refine a_region ?_ | refine awp_ret ?_ | refine r_done ?_ | (refine r_id ?_; first | refine r_ev tab_ok rfl rfl rfl rfl byE rfl ?_ | refine r_ev_cnd tab_ok rfl rfl rfl rfl rfl rfl byC (by first | exact fun _ => trivial | (intro h; simp at h; first | exact ⟨by omega, by omega⟩ | omega)) rfl ?_ | refine r_and_cnd rfl rfl rfl rfl rfl rfl rfl rfl rfl rfl ?_ | refine r_or rfl rfl rfl rfl rfl rfl rfl rfl ?_) | refine ret1 byO rfl rfl rfl ?_)
  exact Sub.refl _
end Go.Proofs.YtiolnmfaeenlmaaGreatDoor

/- The program's reader: escapes, names. -/
namespace Go.Proofs.YtiolnmfaeenlmaaGreatDoor
open Go Go.RowKit
set_option maxRecDepth 20000

theorem enc_sur {n : Int} (h : 55296 ≤ n ∧ n ≤ 57343) : Utf8.encode n = Utf8.encode 65533 := by
  have h1 : Utf8.valid n = false := by unfold Utf8.valid; simp; omega
  have h2 : Utf8.valid 65533 = true := by decide
  unfold Utf8.encode
  simp only [h1, h2, if_true]
  rfl
theorem runes_code (n : Int) : runesBytes [if n = 0 ∨ 1114111 < n then 65533 else n] = runesBytes [codeF n] := by
  unfold codeF
  by_cases h : 55296 ≤ n ∧ n ≤ 57343
  · rw [if_neg (by omega), if_pos (.inr (.inl h)), runesBytes, runesBytes, List.foldl_cons, List.foldl_nil, List.foldl_cons, List.foldl_nil, enc_sur h]
  · by_cases h2 : n = 0 ∨ 1114111 < n
    · rw [if_pos h2, if_pos (by omega)]
    · rw [if_neg h2, if_neg (by omega)]
theorem code_t {n : Int} (h : n = 0 ∨ 1114111 < n) : runesBytes [65533] = runesBytes [codeF n] := by rw [← runes_code, if_pos h]
theorem code_f {n : Int} (h : ¬ (n = 0 ∨ 1114111 < n)) : runesBytes [n] = runesBytes [codeF n] := by rw [← runes_code, if_neg h]
theorem retM2 {P : Program} {fn : Func} {n : Nat} {x y r1 r2 : AV} {e : Exit} {M M1 : List AB} {F : List (Nat × AV)} {t u : Tmp} (he : e = .normal ∨ e = .ret) (hr : fn.results.toList = [.tmp t, .tmp u]) (hx : nf (look F t) = some x) (hy : nf (look F u) = some y) (hf : (x.under n && y.under n) = true) (hM : M.take n = M1) (hu : M1.all (AB.under n) = true) (h : Sub x r1) (k : Sub y r2) : retM P fn n M1 (.tup [r1, r2]) e ⟨M, F⟩ := by
  rw [Bool.and_eq_true] at hf
  refine ⟨he, hM, hu, [x, y], by rw [hr]; exact .cons (.tmp (by rw [nf_eq hx]; exact Sub.refl _) (by rw [nf_eq hx]; exact hf.1)) (.cons (.tmp (by rw [nf_eq hy]; exact Sub.refl _) (by rw [nf_eq hy]; exact hf.2)) .nil), ?_⟩
  rintro M β w imm v ⟨cs, h1, ⟨v1, r, e1, s1, v2, r', e2, s2, s3⟩⟩
  exact ⟨cs, h1, v1, r, e1, h _ _ _ _ _ s1, v2, r', e2, k _ _ _ _ _ s2, s3⟩
theorem info5 : (Tryz.prog.info? 5).map (fun i => (i.zero, i.size, i.bytes)) = some (some (.int .u8 0), 1, 1) := by kernel_rfl
/-- (*strings.Builder).WriteString. -/
theorem writeS_ok (v : Nat) (l : List UInt8) (s : ByteArray) (hl : l.length + s.size ≤ 70368744177664) : MCalls Tryz.prog 94 [.box 89 [selfP, .row 1 v], .row v 5 1 (l.map bD)] [.ptr 0 0, .val (.string s)] [.box 89 [selfP, .row 1 (v + 2)], .row (v + 2) 5 1 ((l ++ s.data.toList).map bD)] (.tup [.val (.int .i64 s.size), .val .nilIface]) := by
  refine m_start Tryz.func94 Tryz.ntmps94 rfl rfl rfl fun S w β => ?_
  repeat (first | refine awp_seq ?_ | refine a_region ?_ | refine r_done ?_ | (refine r_id ?_; first | refine r_ev tab_ok rfl rfl rfl rfl byE rfl ?_))
  refine r_mcall [0, 1] (check_ok v l) call90 rfl rfl ⟨rfl, rfl, trivial⟩ (by decide) ⟨Sub.refl _, trivial⟩ rfl rfl rfl rfl rfl rfl rfl ?_
  repeat (first | refine awp_seq ?_ | refine a_region ?_ | refine r_done ?_ | (refine r_id ?_; first | refine r_ev tab_ok rfl rfl rfl rfl byE rfl ?_ | refine r_ld tab_ok rfl rfl rfl rfl rfl ?_ | refine r_nilck rfl rfl rfl rfl rfl rfl rfl ?_))
  refine r_append_str tab_ok rfl rfl rfl info5 rfl rfl rfl rfl rfl rfl (by omega) rfl ?_
  repeat (first | (refine r_id ?_; first | refine r_ev tab_ok rfl rfl rfl rfl byE rfl ?_ | refine r_nilck rfl rfl rfl rfl rfl rfl rfl ?_))
  refine r_st_row tab_ok rfl rfl rfl rfl rfl rfl rfl rfl rfl rfl rfl rfl ?_
  repeat (first | refine awp_seq ?_ | refine thenA_normal ?_ | refine a_region ?_ | refine awp_ret ?_ | refine r_done ?_ | (refine r_id ?_; first | refine r_ev tab_ok rfl rfl rfl rfl byE rfl ?_))
  exact retM2 byO rfl rfl rfl rfl rfl rfl (Sub.refl _) (Sub.refl _)
theorem sg_neg {L : List Int} (hN : ∀ x ∈ L, 0 ≤ x) (i : Int) : sg L i = -1 ∨ 0 ≤ sg L i := by
  unfold sg
  split
  · exact .inr (hN _ (List.getElem_mem _))
  · exact .inl rfl
structure HS2 (L : List Int) (i0 : Nat) where
  k : Nat
  i : Nat
  n : Int
  hk : k ≤ 6
  hi : i ≤ L.length
  h0 : 0 ≤ n
  hn : n < 16 ^ k
  eq : hexR L (6 - k) i n = hexR L 6 i0 0
  k0 : k = 0 ↔ i = i0
  ki : i0 ≤ i
set_option maxHeartbeats 4000000 in
/-- An escape, from its backslash on. -/
theorem pescape_ok (L : List Int) (i : Nat) (hL : L.length ≤ 1099511627776) (hN : ∀ x ∈ L, 0 ≤ x) (hi : i < L.length) : MCalls Tryz.prog 96 [rdP L i] [.ptr 0 0] [rdP L (escE L (i + 1)).2] (.val (.string (runesBytes [(escE L (i + 1)).1]))) := by
  refine m_start Tryz.func96 Tryz.ntmps96 rfl rfl rfl fun S w β => ?_
  repeat (first | refine awp_seq ?_ | refine thenA_normal ?_ | refine a_region ?_ | refine r_done ?_ | (refine r_id ?_; first | refine r_ev tab_ok rfl rfl rfl rfl byE rfl ?_ | refine r_ld tab_ok rfl rfl rfl rfl rfl ?_ | refine r_st tab_ok rfl rfl rfl rfl ?_ | refine r_nilck rfl rfl rfl rfl rfl rfl rfl ?_) | refine r_mro [0] (see_ok _ _ _ hL (by omega) (by omega)) call66 rfl rfl ⟨rfl, trivial⟩ (by decide) ⟨Sub.refl _, Sub.refl _, trivial⟩ rfl rfl rfl rfl rfl rfl ?_)
  rw [Int.add_zero]
  refine awp_cond_p rfl (fun h => ?_) (fun h => ?_)
  · have h1 : sg L ((i + 1 : Nat) : Int) = -1 := h
    rw [escE, if_pos (by omega)]
    repeat (first | refine awp_seq ?_ | refine thenA_normal ?_ | refine a_region ?_ | refine awp_ret ?_ | refine thenA_ret ?_ | refine r_done ?_ | (refine r_id ?_; first | refine r_ev tab_ok rfl rfl rfl rfl byE rfl ?_) | refine retM1 byO rfl rfl rfl rfl rfl ?_ | refine r_call (pPut _) call95 rfl rfl ⟨Sub.refl _, trivial⟩ rfl rfl rfl rfl ?_)
    exact Sub.refl _
  have h1 : ¬ sg L ((i + 1 : Nat) : Int) = -1 := h
  repeat (first | refine awp_seq ?_ | refine awp_block ?_ | refine a_region ?_ | refine awp_skip ?_ | refine r_done ?_ | (refine r_id ?_; first | refine r_ev tab_ok rfl rfl rfl rfl byE rfl ?_))
  refine a_loop (σ := HS2 L (i + 1)) (fun x => [rdP L x.i]) (fun x => [(0, .ptr 0 0), (3, .val (.int .i64 x.n)), (4, .val (.int .i64 x.k))]) (fun x => 6 - x.k) ⟨0, i + 1, 0, by omega, by omega, by omega, by decide, rfl, by simp, Nat.le_refl _⟩ (fits_convM byV byV ⟨trivial, trivial⟩) ?_
  rintro ⟨k, j, n, hk, hj, h0, hn, heq, hk0, hki⟩
  dsimp only
  have hp := pow16 hk
  have hbeg : ¬ sg L ((i + 1 : Nat) : Int) < 0 := by
    have := sg_neg hN ((i + 1 : Nat) : Int)
    omega
  repeat (first | refine awp_seq ?_ | refine thenA_normal ?_ | refine a_region ?_ | refine r_done ?_ | (refine r_id ?_; first | refine r_ev tab_ok rfl rfl rfl rfl byE rfl ?_))
  refine awp_cond_p rfl (fun hlt => ?_) (fun hge => ?_)
  · obtain ⟨m, hm⟩ : ∃ m, 6 - k = m + 1 := ⟨5 - k, by omega⟩
    have hm' : 6 - (k + 1) = m := by omega
    rw [hm, hexR] at heq
    have hlt16 := hexF_lt (sg L j)
    repeat (first | refine awp_seq ?_ | refine thenA_normal ?_ | refine awp_block ?_ | refine a_region ?_ | refine awp_skip ?_ | refine r_done ?_ | (refine r_id ?_; first | refine r_ev tab_ok rfl rfl rfl rfl byE rfl ?_) | refine r_mro [0] (see_ok _ _ _ hL (by omega) (by omega)) call66 rfl rfl ⟨rfl, trivial⟩ (by decide) ⟨Sub.refl _, Sub.refl _, trivial⟩ rfl rfl rfl rfl rfl rfl ?_ | refine r_call (pHex _) call112 rfl rfl ⟨Sub.refl _, trivial⟩ rfl rfl rfl rfl ?_)
    rw [Int.add_zero]
    refine awp_cond rfl (fun hd => ?_) (fun hd => ?_)
    · have hd' : ¬ (hexF (sg L j)).2 = true := by simpa using hd
      rw [if_neg hd'] at heq
      repeat (first | refine awp_seq ?_ | refine thenA_normal ?_ | refine a_region ?_ | refine awp_exit ?_ | refine r_done ?_ | (refine r_id ?_; first | refine r_ev tab_ok rfl rfl rfl rfl byE rfl ?_))
      refine awp_cond_p rfl (fun hz => ?_) (fun hz => ?_)
      · have hji : j = i + 1 := hk0.1 (by omega)
        subst hji
        have hin : i + 1 < L.length := sg_ge (L := L) (i := i + 1) (by omega)
        have hsg : sg L ((i + 1 : Nat) : Int) = L[i + 1] := by
          rw [sg, dif_pos ⟨by omega, hin⟩]; rfl
        rw [escE, if_neg hbeg, if_pos (by simpa using hd')]
        repeat (first | refine awp_seq ?_ | refine thenA_normal ?_ | refine a_region ?_ | refine a_draw1 mixed_ok (by kernel_rfl) ?_ | refine awp_ret ?_ | refine thenA_ret ?_ | refine r_done ?_ | refine r_done' ?_ | (refine r_id ?_; first | refine r_ev tab_ok rfl rfl rfl rfl byE rfl ?_ | refine r_ld tab_ok rfl rfl rfl rfl rfl ?_ | refine r_idx tab_ok rfl rfl rfl rfl rfl rfl rfl (by first | exact ⟨by omega, by omega⟩ | (simp; omega)) rfl rfl ?_ | refine r_st tab_ok rfl rfl rfl rfl ?_ | refine r_nilck rfl rfl rfl rfl rfl rfl rfl ?_) | refine retM1 byO rfl rfl rfl rfl rfl ?_ | refine r_call (pPut _) call95 rfl rfl ⟨Sub.refl _, trivial⟩ rfl rfl rfl rfl ?_)
        have e : ((((i + 1 : Nat) : Int)) + 1 - 1).toNat = i + 1 := by omega
        exact Sub.of_eq (by simp only [e, hsg])
      · have hx : ¬ (hexF (sg L ((i + 1 : Nat) : Int))).2 = false := fun h => by
          have h2 : hexR L 6 (i + 1) 0 = (0, i + 1) := by rw [hexR, if_neg (by rw [h]; decide)]
          rw [h2] at heq
          have := congrArg Prod.snd heq
          simp only at this
          omega
        rw [escE, if_neg hbeg, if_neg hx, ← heq]
        dsimp only
        repeat (first | refine awp_seq ?_ | refine thenA_normal ?_ | refine a_region ?_ | refine awp_skip ?_ | refine r_done ?_ | (refine r_id ?_; first | refine r_ev tab_ok rfl rfl rfl rfl byE rfl ?_) | refine r_mro [0] (see_ok _ _ _ hL (by omega) (by omega)) call66 rfl rfl ⟨rfl, trivial⟩ (by decide) ⟨Sub.refl _, Sub.refl _, trivial⟩ rfl rfl rfl rfl rfl rfl ?_ | refine r_call (pWhite _) call93 rfl rfl ⟨Sub.refl _, trivial⟩ rfl rfl rfl rfl ?_)
        rw [Int.add_zero]
        refine awp_cond rfl (fun hw => ?_) (fun hw => ?_)
        · rw [if_pos hw]
          repeat (first | refine awp_seq ?_ | refine thenA_normal ?_ | refine a_region ?_ | refine r_done ?_ | (refine r_id ?_; first | refine r_ev tab_ok rfl rfl rfl rfl byE rfl ?_ | refine r_ld tab_ok rfl rfl rfl rfl rfl ?_ | refine r_st tab_ok rfl rfl rfl rfl ?_ | refine r_ev_cnd tab_ok rfl rfl rfl rfl rfl rfl byC (by first | exact fun _ => trivial | (intro h; simp at h; first | exact ⟨by omega, by omega⟩ | omega)) rfl ?_ | refine r_or rfl rfl rfl rfl rfl rfl rfl rfl ?_ | refine r_nilck rfl rfl rfl rfl rfl rfl rfl ?_))
          refine awp_cond rfl (fun hc => ?_) (fun hc => ?_)
          · repeat (first | refine awp_seq ?_ | refine thenA_normal ?_ | refine a_region ?_ | refine awp_ret ?_ | refine r_done ?_ | (refine r_id ?_; first | refine r_ev tab_ok rfl rfl rfl rfl byE rfl ?_) | refine retM1 byO rfl rfl rfl rfl rfl ?_ | refine r_call (pPut _) call95 rfl rfl ⟨Sub.refl _, trivial⟩ rfl rfl rfl rfl ?_)
            exact Sub.of_eq (by rw [code_t (by simpa using hc)])
          · repeat (first | refine awp_seq ?_ | refine thenA_normal ?_ | refine a_region ?_ | refine awp_ret ?_ | refine awp_skip ?_ | refine r_done ?_ | (refine r_id ?_; first | refine r_ev tab_ok rfl rfl rfl rfl byE rfl ?_) | refine retM1 byO rfl rfl rfl rfl rfl ?_ | refine r_call (pPut _) call95 rfl rfl ⟨Sub.refl _, trivial⟩ rfl rfl rfl rfl ?_)
            exact Sub.of_eq (by rw [code_f (by simp only [Bool.or_eq_false_iff, decide_eq_false_iff_not] at hc; omega)])
        · rw [if_neg (by rw [hw]; decide)]
          repeat (first | refine awp_seq ?_ | refine thenA_normal ?_ | refine a_region ?_ | refine awp_skip ?_ | refine r_done ?_ | (refine r_id ?_; first | refine r_ev tab_ok rfl rfl rfl rfl byE rfl ?_ | refine r_ev_cnd tab_ok rfl rfl rfl rfl rfl rfl byC (by first | exact fun _ => trivial | (intro h; simp at h; first | exact ⟨by omega, by omega⟩ | omega)) rfl ?_ | refine r_or rfl rfl rfl rfl rfl rfl rfl rfl ?_))
          refine awp_cond rfl (fun hc => ?_) (fun hc => ?_)
          · repeat (first | refine awp_seq ?_ | refine thenA_normal ?_ | refine a_region ?_ | refine awp_ret ?_ | refine r_done ?_ | (refine r_id ?_; first | refine r_ev tab_ok rfl rfl rfl rfl byE rfl ?_) | refine retM1 byO rfl rfl rfl rfl rfl ?_ | refine r_call (pPut _) call95 rfl rfl ⟨Sub.refl _, trivial⟩ rfl rfl rfl rfl ?_)
            exact Sub.of_eq (by rw [code_t (by simpa using hc)])
          · repeat (first | refine awp_seq ?_ | refine thenA_normal ?_ | refine a_region ?_ | refine awp_ret ?_ | refine awp_skip ?_ | refine r_done ?_ | (refine r_id ?_; first | refine r_ev tab_ok rfl rfl rfl rfl byE rfl ?_) | refine retM1 byO rfl rfl rfl rfl rfl ?_ | refine r_call (pPut _) call95 rfl rfl ⟨Sub.refl _, trivial⟩ rfl rfl rfl rfl ?_)
            exact Sub.of_eq (by rw [code_f (by simp only [Bool.or_eq_false_iff, decide_eq_false_iff_not] at hc; omega)])
    · have hd' : (hexF (sg L j)).2 = true := by simpa using hd
      rw [if_pos hd', Int.mul_comm] at heq
      have hin := hexF_in hd'
      repeat (first | refine awp_seq ?_ | refine thenA_normal ?_ | refine a_region ?_ | refine awp_skip ?_ | refine r_done ?_ | (refine r_id ?_; first | refine r_ev tab_ok rfl rfl rfl rfl byE rfl ?_ | refine r_ld tab_ok rfl rfl rfl rfl rfl ?_ | refine r_st tab_ok rfl rfl rfl rfl ?_ | refine r_nilck rfl rfl rfl rfl rfl rfl rfl ?_))
      exact ⟨⟨k + 1, j + 1, 16 * n + (hexF (sg L j)).1, by omega, hin, by omega, by rw [Int.pow_succ]; omega, by rw [hm']; exact heq, by omega, by omega⟩, by dsimp only; omega, fits_convM byV byV ⟨trivial, trivial⟩⟩
  · have hk6 : 6 - k = 0 := by omega
    rw [hk6, hexR] at heq
    have hx : ¬ (hexF (sg L ((i + 1 : Nat) : Int))).2 = false := fun h => by
      have h2 : hexR L 6 (i + 1) 0 = (0, i + 1) := by rw [hexR, if_neg (by rw [h]; decide)]
      rw [h2] at heq
      have := congrArg Prod.snd heq
      simp only at this
      omega
    rw [escE, if_neg hbeg, if_neg hx, ← heq]
    dsimp only
    repeat (first | refine awp_seq ?_ | refine thenA_normal ?_ | refine a_region ?_ | refine awp_exit ?_ | refine r_done ?_ | (refine r_id ?_; first | refine r_ev tab_ok rfl rfl rfl rfl byE rfl ?_))
    refine awp_cond_p rfl (fun hz => absurd hz (by omega)) (fun hz => ?_)
    repeat (first | refine awp_seq ?_ | refine thenA_normal ?_ | refine a_region ?_ | refine awp_skip ?_ | refine r_done ?_ | (refine r_id ?_; first | refine r_ev tab_ok rfl rfl rfl rfl byE rfl ?_) | refine r_mro [0] (see_ok _ _ _ hL (by omega) (by omega)) call66 rfl rfl ⟨rfl, trivial⟩ (by decide) ⟨Sub.refl _, Sub.refl _, trivial⟩ rfl rfl rfl rfl rfl rfl ?_ | refine r_call (pWhite _) call93 rfl rfl ⟨Sub.refl _, trivial⟩ rfl rfl rfl rfl ?_)
    rw [Int.add_zero]
    refine awp_cond rfl (fun hw => ?_) (fun hw => ?_)
    · rw [if_pos hw]
      repeat (first | refine awp_seq ?_ | refine thenA_normal ?_ | refine a_region ?_ | refine r_done ?_ | (refine r_id ?_; first | refine r_ev tab_ok rfl rfl rfl rfl byE rfl ?_ | refine r_ld tab_ok rfl rfl rfl rfl rfl ?_ | refine r_st tab_ok rfl rfl rfl rfl ?_ | refine r_ev_cnd tab_ok rfl rfl rfl rfl rfl rfl byC (by first | exact fun _ => trivial | (intro h; simp at h; first | exact ⟨by omega, by omega⟩ | omega)) rfl ?_ | refine r_or rfl rfl rfl rfl rfl rfl rfl rfl ?_ | refine r_nilck rfl rfl rfl rfl rfl rfl rfl ?_))
      refine awp_cond rfl (fun hc => ?_) (fun hc => ?_)
      · repeat (first | refine awp_seq ?_ | refine thenA_normal ?_ | refine a_region ?_ | refine awp_ret ?_ | refine r_done ?_ | (refine r_id ?_; first | refine r_ev tab_ok rfl rfl rfl rfl byE rfl ?_) | refine retM1 byO rfl rfl rfl rfl rfl ?_ | refine r_call (pPut _) call95 rfl rfl ⟨Sub.refl _, trivial⟩ rfl rfl rfl rfl ?_)
        exact Sub.of_eq (by rw [code_t (by simpa using hc)])
      · repeat (first | refine awp_seq ?_ | refine thenA_normal ?_ | refine a_region ?_ | refine awp_ret ?_ | refine awp_skip ?_ | refine r_done ?_ | (refine r_id ?_; first | refine r_ev tab_ok rfl rfl rfl rfl byE rfl ?_) | refine retM1 byO rfl rfl rfl rfl rfl ?_ | refine r_call (pPut _) call95 rfl rfl ⟨Sub.refl _, trivial⟩ rfl rfl rfl rfl ?_)
        exact Sub.of_eq (by rw [code_f (by simp only [Bool.or_eq_false_iff, decide_eq_false_iff_not] at hc; omega)])
    · rw [if_neg (by rw [hw]; decide)]
      repeat (first | refine awp_seq ?_ | refine thenA_normal ?_ | refine a_region ?_ | refine awp_skip ?_ | refine r_done ?_ | (refine r_id ?_; first | refine r_ev tab_ok rfl rfl rfl rfl byE rfl ?_ | refine r_ev_cnd tab_ok rfl rfl rfl rfl rfl rfl byC (by first | exact fun _ => trivial | (intro h; simp at h; first | exact ⟨by omega, by omega⟩ | omega)) rfl ?_ | refine r_or rfl rfl rfl rfl rfl rfl rfl rfl ?_))
      refine awp_cond rfl (fun hc => ?_) (fun hc => ?_)
      · repeat (first | refine awp_seq ?_ | refine thenA_normal ?_ | refine a_region ?_ | refine awp_ret ?_ | refine r_done ?_ | (refine r_id ?_; first | refine r_ev tab_ok rfl rfl rfl rfl byE rfl ?_) | refine retM1 byO rfl rfl rfl rfl rfl ?_ | refine r_call (pPut _) call95 rfl rfl ⟨Sub.refl _, trivial⟩ rfl rfl rfl rfl ?_)
        exact Sub.of_eq (by rw [code_t (by simpa using hc)])
      · repeat (first | refine awp_seq ?_ | refine thenA_normal ?_ | refine a_region ?_ | refine awp_ret ?_ | refine awp_skip ?_ | refine r_done ?_ | (refine r_id ?_; first | refine r_ev tab_ok rfl rfl rfl rfl byE rfl ?_) | refine retM1 byO rfl rfl rfl rfl rfl ?_ | refine r_call (pPut _) call95 rfl rfl ⟨Sub.refl _, trivial⟩ rfl rfl rfl rfl ?_)
        exact Sub.of_eq (by rw [code_f (by simp only [Bool.or_eq_false_iff, decide_eq_false_iff_not] at hc; omega)])
end Go.Proofs.YtiolnmfaeenlmaaGreatDoor

/- The program's reader: names, digits, white, signs ahead. -/
namespace Go.Proofs.YtiolnmfaeenlmaaGreatDoor
open Go Go.RowKit
set_option maxRecDepth 20000

def rbL (l : List Int) : List UInt8 := (runesBytes l).data.toList
theorem rb_app (a b : List Int) : rbL (a ++ b) = rbL a ++ rbL b := by rw [rbL, runes_append, ByteArray.data_append, Array.toList_append]; rfl
theorem rb_len (l : List Int) : (rbL l).length = (runesBytes l).size := rfl
/-- A builder in a frame, at place k, its bytes behind. -/
def bldB (k : Nat) : AB := .box 89 [.alt (.val (.pointer none)) (.ptr k 0), .row (k + 1) 0]
def bytB (l : List Int) : AB := .row 0 5 1 ((rbL l).map bD)
set_option maxHeartbeats 4000000 in
theorem pname_ok (L : List Int) (i : Nat) (hL : L.length ≤ 1099511627776) (hN : ∀ x ∈ L, 0 ≤ x) (hi : i ≤ L.length) : MCalls Tryz.prog 101 [rdP L i] [.ptr 0 0] [rdP L (nameEnd L i)] (.val (.string (runesBytes (nameAt L i)))) := by
  refine m_start Tryz.func101 Tryz.ntmps101 rfl rfl rfl fun S w β => ?_
  repeat (first | refine awp_seq ?_ | refine thenA_normal ?_ | refine awp_block ?_ | refine a_region ?_ | refine r_done ?_ | (refine r_id ?_; first | refine r_ev tab_ok rfl rfl rfl rfl byE rfl ?_ | refine r_wr tab_ok rfl rfl rfl rfl rfl ?_))
  refine a_loop (σ := GS L.length (nameStep L) i) (fun x => [rdP L x.i, .box 89 [.alt (.val (.pointer none)) (.ptr 1 0), .row 2 0], .row 0 5 1 ((rbL x.out).map bD)]) (fun x => [(0, .ptr 0 0), (3, .ptr 1 0)]) (fun x => L.length - x.i) (GS.start hi) (fits_convM byV byV ⟨trivial, trivial⟩) ?_
  intro x
  have hlen := x.len
  have hle := x.le
  have hsz := runesBytes_size_le x.out
  have hs1 := runesBytes_size_le [sg L x.i]
  have hs1' : [sg L x.i].length = 1 := rfl
  have hrl := rb_len x.out
  repeat (first | refine awp_seq ?_ | refine thenA_normal ?_ | refine awp_block ?_ | refine a_region ?_ | refine r_done ?_ | (refine r_id ?_; first | refine r_ev tab_ok rfl rfl rfl rfl byE rfl ?_) | refine r_mro [0] (see_ok _ _ _ hL (by omega) (by omega)) call66 rfl rfl ⟨rfl, trivial⟩ (by decide) ⟨Sub.refl _, Sub.refl _, trivial⟩ rfl rfl rfl rfl rfl rfl ?_ | refine r_call (pName _) call102 rfl rfl ⟨Sub.refl _, trivial⟩ rfl rfl rfl rfl ?_)
  rw [Int.add_zero]
  refine awp_cond rfl (fun h => ?_) (fun h => ?_)
  · have hst : nameStep L x.i = .inl ([sg L x.i], x.i + 1) := if_pos h
    have hg := nameStep_goes L _ _ _ hle hst
    repeat (first | refine awp_seq ?_ | refine a_region ?_ | (refine r_id ?_; first | refine r_ev tab_ok rfl rfl rfl rfl byE rfl ?_) | refine r_mro [0] (see_ok _ _ _ hL (by omega) (by omega)) call66 rfl rfl ⟨rfl, trivial⟩ (by decide) ⟨Sub.refl _, Sub.refl _, trivial⟩ rfl rfl rfl rfl rfl rfl ?_ | refine r_call (pPut _) call95 rfl rfl ⟨Sub.refl _, trivial⟩ rfl rfl rfl rfl ?_)
    rw [Int.add_zero]
    refine r_mcall [1, 2] (writeS_ok 0 (rbL x.out) (runesBytes [sg L x.i]) (by omega)) call94 rfl rfl ⟨rfl, rfl, trivial⟩ (by decide) ⟨Sub.refl _, Sub.refl _, trivial⟩ rfl rfl rfl rfl rfl rfl rfl ?_
    repeat (first | refine thenA_normal ?_ | refine a_region ?_ | refine blockA_normal ?_ | refine r_done ?_ | (refine r_id ?_; first | refine r_ev tab_ok rfl rfl rfl rfl byE rfl ?_ | refine r_ld tab_ok rfl rfl rfl rfl rfl ?_ | refine r_st tab_ok rfl rfl rfl rfl ?_ | refine r_nilck rfl rfl rfl rfl rfl rfl rfl ?_))
    refine ⟨x.next (nameStep_goes L) hst, by dsimp only [GS.next]; omega, ?_⟩
    dsimp only [GS.next]
    rw [rb_app]
    exact fits_convM byV byV ⟨trivial, trivial⟩
  have hn' : ¬ nameF (sg L x.i) = true := by rw [h]; decide
  repeat (first | refine awp_seq ?_ | refine thenA_normal ?_ | refine a_region ?_ | refine r_done ?_ | (refine r_id ?_; first | refine r_ev tab_ok rfl rfl rfl rfl byE rfl ?_) | refine r_mro [0] (pescaped_ok _ _ _ hL (by omega) (by omega)) call103 rfl rfl ⟨rfl, trivial⟩ (by decide) ⟨Sub.refl _, Sub.refl _, trivial⟩ rfl rfl rfl rfl rfl rfl ?_)
  rw [Int.add_zero]
  refine awp_cond rfl (fun h2 => ?_) (fun h2 => ?_)
  · have hst : nameStep L x.i = .inl ([(escE L (x.i + 1)).1], (escE L (x.i + 1)).2) := by rw [nameStep, if_neg hn', if_pos h2]
    have hg := nameStep_goes L _ _ _ hle hst
    have hin := esc_in h2
    have hs2 := runesBytes_size_le [(escE L (x.i + 1)).1]
    have hs2' : [(escE L (x.i + 1)).1].length = 1 := rfl
    repeat (first | refine a_region ?_ | (refine r_id ?_; first | refine r_ev tab_ok rfl rfl rfl rfl byE rfl ?_))
    refine r_mcall [0] (pescape_ok L x.i hL hN hin) call96 rfl rfl ⟨rfl, trivial⟩ (by decide) ⟨Sub.refl _, trivial⟩ rfl rfl rfl rfl rfl rfl rfl ?_
    refine r_mcall [1, 2] (writeS_ok 0 (rbL x.out) (runesBytes [(escE L (x.i + 1)).1]) (by omega)) call94 rfl rfl ⟨rfl, rfl, trivial⟩ (by decide) ⟨Sub.refl _, Sub.refl _, trivial⟩ rfl rfl rfl rfl rfl rfl rfl ?_
    repeat (first | refine thenA_normal ?_ | refine blockA_normal ?_ | refine r_done ?_)
    refine ⟨x.next (nameStep_goes L) hst, by dsimp only [GS.next]; omega, ?_⟩
    dsimp only [GS.next]
    rw [rb_app]
    exact fits_convM byV byV ⟨trivial, trivial⟩
  · have hst : nameStep L x.i = .inr x.i := by rw [nameStep, if_neg hn', if_neg (by rw [h2]; decide)]
    have := x.stop hst
    rw [nameEnd, nameAt, this]
    repeat (first | refine awp_seq ?_ | refine a_region ?_)
    refine r_mcall [1, 2] (string_ok 0 (rbL x.out) (by omega)) call59 rfl rfl ⟨rfl, rfl, trivial⟩ (by decide) ⟨Sub.refl _, trivial⟩ rfl rfl rfl rfl rfl rfl rfl ?_
    repeat (first | refine thenA_normal ?_ | refine awp_ret ?_ | refine thenA_ret ?_ | refine blockA_ret ?_ | refine r_done ?_ | (refine r_id ?_; first | refine r_ev tab_ok rfl rfl rfl rfl byE rfl ?_) | refine retM1 byO rfl rfl rfl rfl rfl ?_)
    exact Sub.refl _
theorem pdigits_ok (L : List Int) (i : Nat) (hL : L.length ≤ 1099511627776) (hi : i ≤ L.length) : MCalls Tryz.prog 98 [rdP L i] [.ptr 0 0] [rdP L (digEnd L i)] (.tup []) := by
  refine m_start Tryz.func98 Tryz.ntmps98 rfl rfl rfl fun S w β => ?_
  repeat (first | refine awp_block ?_)
  refine a_loop (σ := GS L.length (digStep L) i) (fun x => [rdP L x.i]) (fun x => [(0, .ptr 0 0)]) (fun x => L.length - x.i) (GS.start hi) (fits_convM byV byV ⟨trivial, trivial⟩) ?_
  intro x
  have hle := x.le
  repeat (first | refine awp_seq ?_ | refine thenA_normal ?_ | refine a_region ?_ | refine r_done ?_ | (refine r_id ?_; first | refine r_ev tab_ok rfl rfl rfl rfl byE rfl ?_) | refine r_mro [0] (see_ok _ _ _ hL (by omega) (by omega)) call66 rfl rfl ⟨rfl, trivial⟩ (by decide) ⟨Sub.refl _, Sub.refl _, trivial⟩ rfl rfl rfl rfl rfl rfl ?_ | refine r_call (pDigit _) call97 rfl rfl ⟨Sub.refl _, trivial⟩ rfl rfl rfl rfl ?_)
  rw [Int.add_zero]
  refine awp_cond rfl (fun h => ?_) (fun h => ?_)
  · have hst : digStep L x.i = .inl ([sg L x.i], x.i + 1) := if_pos h
    have hg := digStep_goes L _ _ _ hle hst
    repeat (first | refine thenA_normal ?_ | refine awp_block ?_ | refine a_region ?_ | refine blockA_normal ?_ | refine awp_skip ?_ | refine r_done ?_ | (refine r_id ?_; first | refine r_ev tab_ok rfl rfl rfl rfl byE rfl ?_ | refine r_ld tab_ok rfl rfl rfl rfl rfl ?_ | refine r_st tab_ok rfl rfl rfl rfl ?_ | refine r_nilck rfl rfl rfl rfl rfl rfl rfl ?_))
    exact ⟨x.next (digStep_goes L) hst, by dsimp only [GS.next]; omega, fits_convM byV byV ⟨trivial, trivial⟩⟩
  · have hst : digStep L x.i = .inr x.i := if_neg (by rw [h]; decide)
    have := x.stop hst
    rw [digEnd, this]
    repeat (first | refine awp_exit ?_ | refine thenA_exit ?_ | refine blockA_hit rfl ?_ | exact retM0 byO rfl rfl rfl)
theorem pwhite_ok (L : List Int) (i : Nat) (hL : L.length ≤ 1099511627776) (hi : i ≤ L.length) : MCalls Tryz.prog 67 [rdP L i] [.ptr 0 0] [rdP L (wEnd L i)] (.val (.bool (decide (i < wEnd L i)))) := by
  refine m_start Tryz.func67 Tryz.ntmps67 rfl rfl rfl fun S w β => ?_
  repeat (first | refine awp_seq ?_ | refine awp_block ?_ | refine a_region ?_ | refine r_done ?_ | (refine r_id ?_; first | refine r_ev tab_ok rfl rfl rfl rfl byE rfl ?_ | refine r_ld tab_ok rfl rfl rfl rfl rfl ?_ | refine r_nilck rfl rfl rfl rfl rfl rfl rfl ?_))
  refine a_loop (σ := {x : GS L.length (wStep L) i // i ≤ x.i}) (fun x => [rdP L x.1.i]) (fun x => [(0, .ptr 0 0), (3, .val (.int .i64 i))]) (fun x => L.length - x.1.i) ⟨GS.start hi, Nat.le_refl _⟩ (fits_convM byV byV ⟨trivial, trivial⟩) ?_
  rintro ⟨x, hx⟩
  dsimp only
  have hle := x.le
  repeat (first | refine awp_seq ?_ | refine thenA_normal ?_ | refine a_region ?_ | refine r_done ?_ | (refine r_id ?_; first | refine r_ev tab_ok rfl rfl rfl rfl byE rfl ?_) | refine r_mro [0] (see_ok _ _ _ hL (by omega) (by omega)) call66 rfl rfl ⟨rfl, trivial⟩ (by decide) ⟨Sub.refl _, Sub.refl _, trivial⟩ rfl rfl rfl rfl rfl rfl ?_ | refine r_call (pWhite _) call93 rfl rfl ⟨Sub.refl _, trivial⟩ rfl rfl rfl rfl ?_)
  rw [Int.add_zero]
  refine awp_cond rfl (fun h => ?_) (fun h => ?_)
  · have hst : wStep L x.i = .inl ([], x.i + 1) := if_pos h
    have hin := white_in h
    repeat (first | refine thenA_normal ?_ | refine awp_block ?_ | refine a_region ?_ | refine blockA_normal ?_ | refine awp_skip ?_ | refine r_done ?_ | (refine r_id ?_; first | refine r_ev tab_ok rfl rfl rfl rfl byE rfl ?_ | refine r_ld tab_ok rfl rfl rfl rfl rfl ?_ | refine r_st tab_ok rfl rfl rfl rfl ?_ | refine r_nilck rfl rfl rfl rfl rfl rfl rfl ?_))
    exact ⟨⟨x.next (wStep_goes L) hst, by dsimp only [GS.next]; omega⟩, by dsimp only [GS.next]; omega, fits_convM byV byV ⟨trivial, trivial⟩⟩
  · have hst : wStep L x.i = .inr x.i := if_neg (by rw [h]; decide)
    have hj0 : wEnd L i = x.i := by rw [wEnd, x.stop hst]; rfl
    rw [hj0]
    repeat (first | refine awp_seq ?_ | refine thenA_normal ?_ | refine a_region ?_ | refine awp_ret ?_ | refine awp_exit ?_ | refine r_done ?_ | (refine r_id ?_; first | refine r_ev tab_ok rfl rfl rfl rfl byE rfl ?_ | refine r_ld tab_ok rfl rfl rfl rfl rfl ?_ | refine r_nilck rfl rfl rfl rfl rfl rfl rfl ?_) | refine retM1 byO rfl rfl rfl rfl rfl ?_)
    exact Sub.of_eq (by congr 2; rw [decide_eq_decide]; omega)
theorem pexp_ok (L : List Int) (j : Nat) (hL : L.length ≤ 1099511627776) (hj : j ≤ L.length) : MCalls Tryz.prog 99 [rdP L j] [.ptr 0 0] [rdP L (n4 L j)] (.val (.bool (nEx L j))) := by
  refine m_start Tryz.func99 Tryz.ntmps99 rfl rfl rfl fun S w β => ?_
  repeat (first | refine awp_seq ?_ | refine thenA_normal ?_ | refine a_region ?_ | refine r_done ?_ | (refine r_id ?_; first | refine r_ev tab_ok rfl rfl rfl rfl byE rfl ?_ | refine r_ev_cnd tab_ok rfl rfl rfl rfl rfl rfl byC (by first | exact fun _ => trivial | (intro h; simp at h; first | exact ⟨by omega, by omega⟩ | omega)) rfl ?_ | refine r_and rfl rfl rfl rfl rfl rfl rfl rfl ?_) | refine r_mro [0] (see_ok _ _ _ hL (by omega) (by omega)) call66 rfl rfl ⟨rfl, trivial⟩ (by decide) ⟨Sub.refl _, Sub.refl _, trivial⟩ rfl rfl rfl rfl rfl rfl ?_ | refine r_mro_cnd [0] (fun _ => see_ok _ _ _ hL (by omega) (by omega)) call66 rfl rfl rfl rfl byC ⟨rfl, trivial⟩ (by decide) ⟨Sub.refl _, Sub.refl _, trivial⟩ rfl rfl rfl rfl rfl rfl ?_)
  rw [Int.add_zero]
  refine awp_cond rfl (fun h => ?_) (fun h => ?_)
  · have hE : nE L j = false := by
      simp only [Bool.and_eq_true, Bool.not_eq_true', decide_eq_false_iff_not] at h
      rw [nE, decide_eq_false h.1, decide_eq_false h.2]; rfl
    have hx : nEx L j = false := by rw [nEx, hE]; rfl
    rw [n4, hx, if_neg (by decide)]
    repeat (first | refine awp_seq ?_ | refine thenA_normal ?_ | refine a_region ?_ | refine awp_ret ?_ | refine thenA_ret ?_ | refine r_done ?_ | (refine r_id ?_; first | refine r_ev tab_ok rfl rfl rfl rfl byE rfl ?_) | refine retM1 byO rfl rfl rfl rfl rfl ?_)
    exact Sub.refl _
  have hE : nE L j = true := by
    simp only [Bool.and_eq_false_iff, Bool.not_eq_false', decide_eq_true_eq] at h
    rw [nE, Bool.or_eq_true, decide_eq_true_eq, decide_eq_true_eq]; exact h
  have hjl : j < L.length := by
    refine sg_in fun h' => ?_
    rw [nE, h'] at hE
    cases hE
  repeat (first | refine awp_seq ?_ | refine thenA_normal ?_ | refine a_region ?_ | refine awp_skip ?_ | refine r_done ?_ | (refine r_id ?_; first | refine r_ev tab_ok rfl rfl rfl rfl byE rfl ?_ | refine r_ev_cnd tab_ok rfl rfl rfl rfl rfl rfl byC (by first | exact fun _ => trivial | (intro h; simp at h; first | exact ⟨by omega, by omega⟩ | omega)) rfl ?_ | refine r_or rfl rfl rfl rfl rfl rfl rfl rfl ?_) | refine r_mro [0] (see_ok _ _ _ hL (by omega) (by omega)) call66 rfl rfl ⟨rfl, trivial⟩ (by decide) ⟨Sub.refl _, Sub.refl _, trivial⟩ rfl rfl rfl rfl rfl rfl ?_ | refine r_mro_cnd [0] (fun _ => see_ok _ _ _ hL (by omega) (by omega)) call66 rfl rfl rfl rfl byC ⟨rfl, trivial⟩ (by decide) ⟨Sub.refl _, Sub.refl _, trivial⟩ rfl rfl rfl rfl rfl rfl ?_)
  refine awp_cut ⟨[rdP L j], [(0, .ptr 0 0), (3, .val (.int .i64 (nK L j)))]⟩ ?_ ?_
  · refine awp_cond rfl (fun h => ?_) (fun h => ?_)
    · rw [nK, if_pos (show nEs L j = true from h)]
      repeat (first | refine a_region ?_ | refine r_done ?_ | (refine r_id ?_; first | refine r_ev tab_ok rfl rfl rfl rfl byE rfl ?_))
      exact ⟨rfl, fits_convM byV byV ⟨trivial, trivial⟩⟩
    · rw [nK, if_neg (by rw [show nEs L j = false from h]; decide)]
      repeat (first | refine awp_skip ?_)
      exact ⟨rfl, fits_convM byV byV ⟨trivial, trivial⟩⟩
  have hk : nK L j ≤ 2 := by unfold nK; split <;> omega
  repeat (first | refine awp_seq ?_ | refine thenA_normal ?_ | refine a_region ?_ | refine r_done ?_ | (refine r_id ?_; first | refine r_ev tab_ok rfl rfl rfl rfl byE rfl ?_) | refine r_mro [0] (see_ok _ _ _ hL (by omega) (by omega)) call66 rfl rfl ⟨rfl, trivial⟩ (by decide) ⟨Sub.refl _, Sub.refl _, trivial⟩ rfl rfl rfl rfl rfl rfl ?_ | refine r_call (pDigit _) call97 rfl rfl ⟨Sub.refl _, trivial⟩ rfl rfl rfl rfl ?_)
  refine awp_cond rfl (fun h => ?_) (fun h => ?_)
  · have hx : nEx L j = false := by rw [nEx, hE]; simpa using h
    rw [n4, hx, if_neg (by decide)]
    repeat (first | refine awp_seq ?_ | refine thenA_normal ?_ | refine a_region ?_ | refine awp_ret ?_ | refine thenA_ret ?_ | refine r_done ?_ | (refine r_id ?_; first | refine r_ev tab_ok rfl rfl rfl rfl byE rfl ?_) | refine retM1 byO rfl rfl rfl rfl rfl ?_)
    exact Sub.refl _
  · have hx : nEx L j = true := by rw [nEx, hE]; simpa using h
    have hin := nEx_in (L := L) (j := j) (by rw [nEx, hE] at hx; exact hx)
    rw [n4, hx, if_pos rfl]
    repeat (first | refine awp_seq ?_ | refine a_region ?_ | refine awp_skip ?_ | refine r_done ?_ | (refine r_id ?_; first | refine r_ev tab_ok rfl rfl rfl rfl byE rfl ?_ | refine r_ld tab_ok rfl rfl rfl rfl rfl ?_ | refine r_st tab_ok rfl rfl rfl rfl ?_ | refine r_nilck rfl rfl rfl rfl rfl rfl rfl ?_))
    refine r_mcall [0] (pdigits_ok L (j + nK L j) hL (by omega)) call98 rfl rfl ⟨rfl, trivial⟩ (by decide) ⟨Sub.refl _, trivial⟩ rfl rfl rfl rfl rfl rfl rfl ?_
    repeat (first | refine awp_seq ?_ | refine thenA_normal ?_ | refine a_region ?_ | refine awp_ret ?_ | refine r_done ?_ | (refine r_id ?_; first | refine r_ev tab_ok rfl rfl rfl rfl byE rfl ?_) | refine retM1 byO rfl rfl rfl rfl rfl ?_)
    exact Sub.refl _
/-- Do signs stand ahead? -/
def isF (L : List Int) (a : Nat) : List UInt8 → Bool
  | [] => true
  | c :: r => decide (sg L a = (c.toNat : Int)) && isF L (a + 1) r
theorem isF_split (L : List Int) : ∀ (a : Nat) (l r : List UInt8), isF L a (l ++ r) = (isF L a l && isF L (a + l.length) r)
  | a, [], r => by rw [List.nil_append, isF, Bool.true_and]; rfl
  | a, c :: l, r => by rw [List.cons_append, isF, isF, isF_split L (a + 1) l r, Bool.and_assoc, List.length_cons, show a + 1 + l.length = a + (l.length + 1) by omega]
theorem pis_ok (L : List Int) (a : Nat) (s : ByteArray) (hL : L.length ≤ 1099511627776) (ha : a ≤ L.length) (hs : s.size ≤ 1000) (hA : ∀ j (h : j < s.size), (s[j]'h).toNat < 128) : MCalls Tryz.prog 92 [rdP L a] [.ptr 0 0, .val (.string s)] [rdP L a] (.val (.bool (isF L a s.data.toList))) := by
  refine m_start Tryz.func92 Tryz.ntmps92 rfl rfl rfl fun S w β => ?_
  have hsz := str_size s
  repeat (first | refine awp_seq ?_ | refine thenA_normal ?_ | refine awp_block ?_ | refine a_region ?_ | refine r_done ?_ | (refine r_id ?_; first | refine r_ev tab_ok rfl rfl rfl rfl byE rfl ?_ | refine r_range tab_ok rfl rfl rfl rfl rfl rfl rfl ?_))
  refine a_loop (σ := {j : Nat // j ≤ s.size ∧ isF L a (s.data.toList.take j) = true}) (fun x => [rdP L a, .iter s x.1]) (fun x => [(0, .ptr 0 0), (8, .ptr 1 0)]) (fun x => s.size - x.1) ⟨0, Nat.zero_le _, rfl⟩ (fits_convM byV byV ⟨trivial, trivial⟩) ?_
  rintro ⟨j, hj, hp⟩
  dsimp only
  by_cases hlt : j < s.size
  · have hlt' : j < s.data.toList.length := by omega
    have hd := decode_ascii s j hlt (hA j hlt)
    have htake : s.data.toList.take (j + 1) = s.data.toList.take j ++ [s.data.toList[j]] := by rw [List.take_add_one, List.getElem?_eq_getElem hlt']; rfl
    have hspl := isF_split L a (s.data.toList.take j) [s.data.toList[j]]
    rw [← htake, hp, Bool.true_and, isF, isF, Bool.and_true, List.length_take, Nat.min_eq_left (by omega)] at hspl
    have hb : s[j] = s.data.toList[j] := by simp; rfl
    rw [hb] at hd
    have hall : isF L a s.data.toList = (isF L a (s.data.toList.take (j + 1)) && isF L (a + (s.data.toList.take (j + 1)).length) (s.data.toList.drop (j + 1))) := by rw [← isF_split, List.take_append_drop]
    repeat (first | refine awp_seq ?_ | refine thenA_normal ?_ | refine awp_block ?_ | refine a_region ?_ | refine awp_skip ?_ | refine r_done ?_ | (refine r_id ?_; first | refine r_ev tab_ok rfl rfl rfl rfl byE rfl ?_ | refine r_next rfl rfl rfl rfl (by assumption) rfl rfl rfl ?_) | refine awp_cond_t rfl ?_ | refine r_mro [0] (see_ok _ _ _ hL (by omega) (by omega)) call66 rfl rfl ⟨rfl, trivial⟩ (by decide) ⟨Sub.refl _, Sub.refl _, trivial⟩ rfl rfl rfl rfl rfl rfl ?_)
    simp only [hd]
    refine awp_cond rfl (fun h => ?_) (fun h => ?_)
    · have h' : ¬ sg L ((a + j : Nat) : Int) = (s.data.toList[j].toNat : Int) := by simpa using h
      rw [hall, hspl, decide_eq_false h', Bool.false_and]
      repeat (first | refine awp_seq ?_ | refine thenA_normal ?_ | refine a_region ?_ | refine awp_ret ?_ | refine thenA_ret ?_ | refine blockA_ret ?_ | refine r_done ?_ | (refine r_id ?_; first | refine r_ev tab_ok rfl rfl rfl rfl byE rfl ?_) | refine retM1 byO rfl rfl rfl rfl rfl ?_)
      exact Sub.refl _
    · have h' : sg L ((a + j : Nat) : Int) = (s.data.toList[j].toNat : Int) := by simpa using h
      rw [decide_eq_true h'] at hspl
      repeat (first | refine thenA_normal ?_ | refine blockA_normal ?_ | refine awp_skip ?_)
      exact ⟨⟨j + 1, hlt, hspl⟩, by dsimp only; omega, fits_convM byV byV ⟨trivial, trivial⟩⟩
  · have : j = s.data.toList.length := by omega
    rw [this, List.take_length] at hp
    rw [hp]
    repeat (first | refine awp_seq ?_ | refine thenA_normal ?_ | refine a_region ?_ | refine awp_ret ?_ | refine awp_exit ?_ | refine r_done ?_ | (refine r_id ?_; first | refine r_ev tab_ok rfl rfl rfl rfl byE rfl ?_ | refine r_next_end rfl rfl rfl rfl (by assumption) rfl rfl rfl ?_) | refine retM1 byO rfl rfl rfl rfl rfl ?_ | refine awp_cond_f rfl ?_)
    exact Sub.refl _
end Go.Proofs.YtiolnmfaeenlmaaGreatDoor
