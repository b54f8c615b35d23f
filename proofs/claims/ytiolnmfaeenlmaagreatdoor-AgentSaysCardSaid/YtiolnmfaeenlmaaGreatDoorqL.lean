/- AgentSays, walked. -/
import Derived.Test.YtiolnmfaeenlmaaGreatDoorqS
namespace Go.Proofs.YtiolnmfaeenlmaaGreatDoor
open Go Go.RowKit
set_option maxRecDepth 20000

theorem r_ld_o0 {P : Program} {ops : Array Oper} {N : Nat} {K : AS → Prop} {o : Oper} {r : List Oper} {fo fo' : Option (List Nat)} {M : List AB} {F : List (Nat × AV)} {dt : Tmp} {tab : List (Nat × TE)} {out : AV} (ht : TyTab P tab) {T i ver j off e k' : Nat} {te : TE} {x : Operand} {mo : Nat} {cells : List AV} (hg : o.guard = none) (ho : o.op = .load T x) (hT : tget tab T = some te) (hx : aval (look F) x = .eptr i ver j off) (hM : M[i]? = some (.rowo ver e k' [] mo cells)) (hl : ldAV te (cells.drop (j * k' + off)) = some out)
    (hdd : o.dst = some dt) (hd : dstB o.dst N = true) (hp : popF fo 1 = some fo') (k : RunX P ops N K r fo' M ((dt, out) :: F)) : RunX P ops N K (o :: r) fo M F :=
  r_ld_o ht hg ho hT hx hM (o' := j * k' + off) (by rw [List.length_nil, Nat.zero_mul, Nat.zero_add]) hl hdd hd hp k
def agM : List AB := [.gone, .box 45 (cA 1), .row 0 49 7 (agR0.pre.map nF), .row 0 51 3 (agR0.decls.map dcD), .box 45 (cA 1), .rowo 0 45 4 [] 1 (cA 1), .rowo 14 45 4 [] 8 [.val (.string ⟨#[]⟩), .row 2 0, .val (.bool true), .row 3 0, .val (.string ⟨#[]⟩), .row 8 0, .val (.bool true), .row 9 0, .val (.string ⟨#[]⟩), .row 13 0, .val (.bool true), .row 14 0, .val (.string ⟨#[]⟩), .row 18 0, .val (.bool true), .row 19 0, .val (.string ⟨#[]⟩), .row 23 0, .val (.bool true), .row 24 0, .val (.string ⟨#[]⟩), .row 28 0, .val (.bool true), .row 29 0, .val (.string ⟨#[]⟩), .row 33 0, .val (.bool true), .row 34 0, .val (.string ⟨#[]⟩), .row 38 0, .val (.bool true), .row 39 0], .box 45 (cA 7), .row 0 49 7 (agR1.pre.map nF), .row 0 51 3 (agR1.decls.map dcD), .box 45 (cA 7), .rowo 0 45 4 [] 1 (cA 7), .box 45 (cA 12), .row 0 49 7 (agR2.pre.map nF), .row 0 51 3 (agR2.decls.map dcD), .box 45 (cA 12), .rowo 0 45 4 [] 1 (cA 12), .box 45 (cA 17), .row 0 49 7 (agR3.pre.map nF), .row 0 51 3 (agR3.decls.map dcD), .box 45 (cA 17), .rowo 0 45 4 [] 1 (cA 17), .box 45 (cA 22), .row 0 49 7 (agR4.pre.map nF), .row 0 51 3 (agR4.decls.map dcD), .box 45 (cA 22), .rowo 0 45 4 [] 1 (cA 22), .box 45 (cA 27), .row 0 49 7 (agR5.pre.map nF), .row 0 51 3 (agR5.decls.map dcD), .box 45 (cA 27), .rowo 0 45 4 [] 1 (cA 27), .box 45 (cA 32), .row 0 49 7 (agR6.pre.map nF), .row 0 51 3 (agR6.decls.map dcD), .box 45 (cA 32), .rowo 0 45 4 [] 1 (cA 32), .box 45 (cA 37), .row 0 49 7 (agR7.pre.map nF), .row 0 51 3 (agR7.decls.map dcD), .box 45 (cA 37), .rowo 0 45 4 [] 1 (cA 37)]
set_option maxHeartbeats 4000000 in
theorem agRulesM_ok : MCalls Tryz.prog 24 [] [] agM (.row 6 14) := by
  refine mcalls_ofn Tryz.func24 Tryz.ntmps24 rfl rfl rfl 42 (by decide) fun S w β => ?_
  repeat (first | refine awp_seq ?_ | refine a_region ?_ | refine r_done ?_ | (refine r_id ?_; first | refine r_ev tab_ok rfl rfl rfl rfl byE rfl ?_))
  refine r_built_row tab_ok rfl rfl rfl rfl rfl rfl rfl rfl rfl ?_
  refine r_mark tab_ok rfl rfl rfl rfl rfl rfl (by simp) rfl rfl rfl ?_
  refine r_rcall (M'' := agM) sheetM_ok call12 rfl rfl ⟨Sub.refl _, trivial⟩ rfl rfl rfl rfl rfl rfl ?_
  repeat (first | refine awp_seq ?_ | refine thenA_normal ?_ | refine a_region ?_ | refine awp_ret ?_ | refine r_done ?_ | (refine r_id ?_; first | refine r_ev tab_ok rfl rfl rfl rfl byE rfl ?_) | refine retM1 byO rfl rfl rfl rfl rfl ?_)
  exact Sub.refl _
set_option maxHeartbeats 16000000 in
theorem lawSays (k : Int) : PCalls Tryz.prog 9 [.val (.int .i64 k)] (.val (.bool true)) := by
  refine p_start Tryz.func9 Tryz.ntmps9 rfl rfl rfl fun S w => ?_
  have h1 := Int.tmod_lt_of_pos k (show (0 : Int) < 8 by decide)
  have h2 := Int.lt_tmod_of_pos k (show (0 : Int) < 8 by decide)
  have h3 := round_eq k 8 (by decide)
  obtain ⟨i, hi⟩ : ∃ i : Nat, k % 8 = i := ⟨(k % 8).toNat, by omega⟩
  have hi8 : i < 8 := by omega
  rw [hi, Int.tmod_eq_emod_of_nonneg (by omega)] at h3
  repeat (first | refine awp_seq ?_ | refine a_region ?_ | refine r_done ?_ | (refine r_id ?_; first | refine r_ev tab_ok rfl rfl rfl rfl byE rfl ?_))
  refine r_rcall (M'' := [.gone, .box 45 (cA 1), .row 0 49 7 (agR0.pre.map nF), .row 0 51 3 (agR0.decls.map dcD), .box 45 (cA 1), .rowo 0 45 4 [] 1 (cA 1), .rowo 14 45 4 [] 8 [.val (.string ⟨#[]⟩), .row 2 0, .val (.bool true), .row 3 0, .val (.string ⟨#[]⟩), .row 8 0, .val (.bool true), .row 9 0, .val (.string ⟨#[]⟩), .row 13 0, .val (.bool true), .row 14 0, .val (.string ⟨#[]⟩), .row 18 0, .val (.bool true), .row 19 0, .val (.string ⟨#[]⟩), .row 23 0, .val (.bool true), .row 24 0, .val (.string ⟨#[]⟩), .row 28 0, .val (.bool true), .row 29 0, .val (.string ⟨#[]⟩), .row 33 0, .val (.bool true), .row 34 0, .val (.string ⟨#[]⟩), .row 38 0, .val (.bool true), .row 39 0], .box 45 (cA 7), .row 0 49 7 (agR1.pre.map nF), .row 0 51 3 (agR1.decls.map dcD), .box 45 (cA 7), .rowo 0 45 4 [] 1 (cA 7), .box 45 (cA 12), .row 0 49 7 (agR2.pre.map nF), .row 0 51 3 (agR2.decls.map dcD), .box 45 (cA 12), .rowo 0 45 4 [] 1 (cA 12), .box 45 (cA 17), .row 0 49 7 (agR3.pre.map nF), .row 0 51 3 (agR3.decls.map dcD), .box 45 (cA 17), .rowo 0 45 4 [] 1 (cA 17), .box 45 (cA 22), .row 0 49 7 (agR4.pre.map nF), .row 0 51 3 (agR4.decls.map dcD), .box 45 (cA 22), .rowo 0 45 4 [] 1 (cA 22), .box 45 (cA 27), .row 0 49 7 (agR5.pre.map nF), .row 0 51 3 (agR5.decls.map dcD), .box 45 (cA 27), .rowo 0 45 4 [] 1 (cA 27), .box 45 (cA 32), .row 0 49 7 (agR6.pre.map nF), .row 0 51 3 (agR6.decls.map dcD), .box 45 (cA 32), .rowo 0 45 4 [] 1 (cA 32), .box 45 (cA 37), .row 0 49 7 (agR7.pre.map nF), .row 0 51 3 (agR7.decls.map dcD), .box 45 (cA 37), .rowo 0 45 4 [] 1 (cA 37)]) agRulesM_ok call24 rfl rfl trivial rfl rfl rfl rfl rfl rfl ?_
  repeat (first | refine awp_seq ?_ | refine thenA_normal ?_ | refine a_region ?_ | refine awp_skip ?_ | refine r_done ?_ | (refine r_id ?_; first | refine r_ev tab_ok rfl rfl rfl rfl byE rfl ?_ | refine r_rem rfl rfl rfl rfl rfl rfl (by omega) rfl ?_) | refine awp_cond_f rfl ?_ | refine r_len_o tab_ok rfl rfl rfl rfl rfl rfl rfl rfl ?_)
  simp only [h3]
  have hcase : i = 0 ∨ i = 1 ∨ i = 2 ∨ i = 3 ∨ i = 4 ∨ i = 5 ∨ i = 6 ∨ i = 7 := by omega
  clear h1 h2 h3 hi hi8
  rcases hcase with rfl | rfl | rfl | rfl | rfl | rfl | rfl | rfl
  · repeat (first | refine awp_seq ?_ | refine thenA_normal ?_ | refine a_region ?_ | refine awp_skip ?_ | refine r_done ?_ | (refine r_id ?_; first | refine r_ev tab_ok rfl rfl rfl rfl byE rfl ?_ | refine r_ld tab_ok rfl rfl rfl rfl rfl ?_ | refine r_pick_f rfl rfl rfl rfl rfl rfl rfl ?_ | refine r_ev_on tab_ok rfl rfl rfl rfl rfl rfl (by first | exact trivial | exact ⟨by omega, by omega⟩ | omega) rfl ?_ | refine r_ld_on tab_ok rfl rfl rfl rfl rfl rfl rfl ?_ | refine r_fielde tab_ok rfl rfl rfl rfl rfl rfl rfl rfl ?_) | refine awp_cond_f rfl ?_ | refine r_g rfl rfl rfl ?_ | refine r_idx_o tab_ok rfl rfl rfl rfl rfl rfl rfl rfl (by decide) (by decide) rfl ?_ | refine r_field_o tab_ok rfl rfl rfl rfl rfl rfl rfl rfl ?_ | refine r_ld_o0 tab_ok rfl rfl rfl rfl rfl rfl rfl rfl rfl ?_ | refine r_idxr tab_ok rfl rfl rfl rfl rfl rfl rfl rfl (by decide) rfl ?_)
    refine r_by2n (astep_store_e tab_ok rfl rfl rfl rfl rfl rfl rfl rfl rfl rfl) rfl rfl rfl ?_
    repeat (first | refine awp_seq ?_ | refine a_region ?_ | refine r_done ?_ | (refine r_id ?_; first | refine r_ev tab_ok rfl rfl rfl rfl byE rfl ?_ | refine r_build tab_ok rfl rfl rfl rfl rfl rfl ?_) | refine r_idx_o tab_ok rfl rfl rfl rfl rfl rfl rfl rfl (by decide) (by decide) rfl ?_ | refine r_field_o tab_ok rfl rfl rfl rfl rfl rfl rfl rfl ?_ | refine r_ld_o0 tab_ok rfl rfl rfl rfl rfl rfl rfl rfl rfl ?_ | refine r_idxr tab_ok rfl rfl rfl rfl rfl rfl rfl rfl (by decide) rfl ?_)
    refine r_by2n (astep_store_e tab_ok rfl rfl rfl rfl rfl rfl rfl rfl rfl rfl) rfl rfl rfl ?_
    repeat (first | refine awp_seq ?_ | refine a_region ?_ | refine r_done ?_)
    refine r_call agRules_ok call24 rfl rfl trivial rfl rfl rfl rfl ?_
    refine r_call agRules_ok call24 rfl rfl trivial rfl rfl rfl rfl ?_
    refine r_call agSame call17 rfl rfl ⟨Sub.refl _, Sub.refl _, trivial⟩ rfl rfl rfl rfl ?_
    repeat (first | (refine r_id ?_; first | refine r_ev tab_ok rfl rfl rfl rfl byE rfl ?_) | refine r_g rfl rfl rfl ?_)
    refine r_call agRules_ok call24 rfl rfl trivial rfl rfl rfl rfl ?_
    repeat (first | (refine r_id ?_; first | refine r_ev tab_ok rfl rfl rfl rfl byE rfl ?_ | refine r_idxd tab_ok rfl rfl rfl rfl rfl rfl rfl (by decide) rfl rfl rfl ?_ | refine r_pick_t rfl rfl rfl rfl rfl rfl rfl ?_ | refine r_ev_on tab_ok rfl rfl rfl rfl rfl rfl (by first | exact trivial | exact ⟨by omega, by omega⟩ | omega) rfl ?_) | refine r_g rfl rfl rfl ?_)
    refine r_call awake21_ok call25 rfl rfl trivial rfl rfl rfl rfl ?_
    repeat (first | refine thenA_normal ?_ | refine awp_ret ?_ | refine r_done ?_ | (refine r_id ?_; first | refine r_ev tab_ok rfl rfl rfl rfl byE rfl ?_ | refine r_pick_t rfl rfl rfl rfl rfl rfl rfl ?_) | refine ret1 byO rfl rfl rfl ?_)
    exact Sub.refl _
  · repeat (first | refine awp_seq ?_ | refine thenA_normal ?_ | refine a_region ?_ | refine awp_skip ?_ | refine r_done ?_ | (refine r_id ?_; first | refine r_ev tab_ok rfl rfl rfl rfl byE rfl ?_ | refine r_ld tab_ok rfl rfl rfl rfl rfl ?_ | refine r_pick_f rfl rfl rfl rfl rfl rfl rfl ?_ | refine r_ev_on tab_ok rfl rfl rfl rfl rfl rfl (by first | exact trivial | exact ⟨by omega, by omega⟩ | omega) rfl ?_ | refine r_ld_on tab_ok rfl rfl rfl rfl rfl rfl rfl ?_ | refine r_fielde tab_ok rfl rfl rfl rfl rfl rfl rfl rfl ?_) | refine awp_cond_f rfl ?_ | refine r_g rfl rfl rfl ?_ | refine r_idx_o tab_ok rfl rfl rfl rfl rfl rfl rfl rfl (by decide) (by decide) rfl ?_ | refine r_field_o tab_ok rfl rfl rfl rfl rfl rfl rfl rfl ?_ | refine r_ld_o0 tab_ok rfl rfl rfl rfl rfl rfl rfl rfl rfl ?_ | refine r_idxr tab_ok rfl rfl rfl rfl rfl rfl rfl rfl (by decide) rfl ?_)
    refine r_by2n (astep_store_e tab_ok rfl rfl rfl rfl rfl rfl rfl rfl rfl rfl) rfl rfl rfl ?_
    repeat (first | refine awp_seq ?_ | refine a_region ?_ | refine r_done ?_ | (refine r_id ?_; first | refine r_ev tab_ok rfl rfl rfl rfl byE rfl ?_ | refine r_build tab_ok rfl rfl rfl rfl rfl rfl ?_) | refine r_idx_o tab_ok rfl rfl rfl rfl rfl rfl rfl rfl (by decide) (by decide) rfl ?_ | refine r_field_o tab_ok rfl rfl rfl rfl rfl rfl rfl rfl ?_ | refine r_ld_o0 tab_ok rfl rfl rfl rfl rfl rfl rfl rfl rfl ?_ | refine r_idxr tab_ok rfl rfl rfl rfl rfl rfl rfl rfl (by decide) rfl ?_)
    refine r_by2n (astep_store_e tab_ok rfl rfl rfl rfl rfl rfl rfl rfl rfl rfl) rfl rfl rfl ?_
    repeat (first | refine awp_seq ?_ | refine a_region ?_ | refine r_done ?_)
    refine r_call agRules_ok call24 rfl rfl trivial rfl rfl rfl rfl ?_
    refine r_call agRules_ok call24 rfl rfl trivial rfl rfl rfl rfl ?_
    refine r_call agSame call17 rfl rfl ⟨Sub.refl _, Sub.refl _, trivial⟩ rfl rfl rfl rfl ?_
    repeat (first | (refine r_id ?_; first | refine r_ev tab_ok rfl rfl rfl rfl byE rfl ?_) | refine r_g rfl rfl rfl ?_)
    refine r_call agRules_ok call24 rfl rfl trivial rfl rfl rfl rfl ?_
    repeat (first | (refine r_id ?_; first | refine r_ev tab_ok rfl rfl rfl rfl byE rfl ?_ | refine r_idxd tab_ok rfl rfl rfl rfl rfl rfl rfl (by decide) rfl rfl rfl ?_ | refine r_pick_t rfl rfl rfl rfl rfl rfl rfl ?_ | refine r_ev_on tab_ok rfl rfl rfl rfl rfl rfl (by first | exact trivial | exact ⟨by omega, by omega⟩ | omega) rfl ?_) | refine r_g rfl rfl rfl ?_)
    refine r_call awake21_ok call25 rfl rfl trivial rfl rfl rfl rfl ?_
    repeat (first | refine thenA_normal ?_ | refine awp_ret ?_ | refine r_done ?_ | (refine r_id ?_; first | refine r_ev tab_ok rfl rfl rfl rfl byE rfl ?_ | refine r_pick_t rfl rfl rfl rfl rfl rfl rfl ?_) | refine ret1 byO rfl rfl rfl ?_)
    exact Sub.refl _
  · repeat (first | refine awp_seq ?_ | refine thenA_normal ?_ | refine a_region ?_ | refine awp_skip ?_ | refine r_done ?_ | (refine r_id ?_; first | refine r_ev tab_ok rfl rfl rfl rfl byE rfl ?_ | refine r_ld tab_ok rfl rfl rfl rfl rfl ?_ | refine r_pick_f rfl rfl rfl rfl rfl rfl rfl ?_ | refine r_ev_on tab_ok rfl rfl rfl rfl rfl rfl (by first | exact trivial | exact ⟨by omega, by omega⟩ | omega) rfl ?_ | refine r_ld_on tab_ok rfl rfl rfl rfl rfl rfl rfl ?_ | refine r_fielde tab_ok rfl rfl rfl rfl rfl rfl rfl rfl ?_) | refine awp_cond_f rfl ?_ | refine r_g rfl rfl rfl ?_ | refine r_idx_o tab_ok rfl rfl rfl rfl rfl rfl rfl rfl (by decide) (by decide) rfl ?_ | refine r_field_o tab_ok rfl rfl rfl rfl rfl rfl rfl rfl ?_ | refine r_ld_o0 tab_ok rfl rfl rfl rfl rfl rfl rfl rfl rfl ?_ | refine r_idxr tab_ok rfl rfl rfl rfl rfl rfl rfl rfl (by decide) rfl ?_)
    refine r_by2n (astep_store_e tab_ok rfl rfl rfl rfl rfl rfl rfl rfl rfl rfl) rfl rfl rfl ?_
    repeat (first | refine awp_seq ?_ | refine a_region ?_ | refine r_done ?_ | (refine r_id ?_; first | refine r_ev tab_ok rfl rfl rfl rfl byE rfl ?_ | refine r_build tab_ok rfl rfl rfl rfl rfl rfl ?_) | refine r_idx_o tab_ok rfl rfl rfl rfl rfl rfl rfl rfl (by decide) (by decide) rfl ?_ | refine r_field_o tab_ok rfl rfl rfl rfl rfl rfl rfl rfl ?_ | refine r_ld_o0 tab_ok rfl rfl rfl rfl rfl rfl rfl rfl rfl ?_ | refine r_idxr tab_ok rfl rfl rfl rfl rfl rfl rfl rfl (by decide) rfl ?_)
    refine r_by2n (astep_store_e tab_ok rfl rfl rfl rfl rfl rfl rfl rfl rfl rfl) rfl rfl rfl ?_
    repeat (first | refine awp_seq ?_ | refine a_region ?_ | refine r_done ?_)
    refine r_call agRules_ok call24 rfl rfl trivial rfl rfl rfl rfl ?_
    refine r_call agRules_ok call24 rfl rfl trivial rfl rfl rfl rfl ?_
    refine r_call agSame call17 rfl rfl ⟨Sub.refl _, Sub.refl _, trivial⟩ rfl rfl rfl rfl ?_
    repeat (first | (refine r_id ?_; first | refine r_ev tab_ok rfl rfl rfl rfl byE rfl ?_) | refine r_g rfl rfl rfl ?_)
    refine r_call agRules_ok call24 rfl rfl trivial rfl rfl rfl rfl ?_
    repeat (first | (refine r_id ?_; first | refine r_ev tab_ok rfl rfl rfl rfl byE rfl ?_ | refine r_idxd tab_ok rfl rfl rfl rfl rfl rfl rfl (by decide) rfl rfl rfl ?_ | refine r_pick_t rfl rfl rfl rfl rfl rfl rfl ?_ | refine r_ev_on tab_ok rfl rfl rfl rfl rfl rfl (by first | exact trivial | exact ⟨by omega, by omega⟩ | omega) rfl ?_) | refine r_g rfl rfl rfl ?_)
    refine r_call awake21_ok call25 rfl rfl trivial rfl rfl rfl rfl ?_
    repeat (first | refine thenA_normal ?_ | refine awp_ret ?_ | refine r_done ?_ | (refine r_id ?_; first | refine r_ev tab_ok rfl rfl rfl rfl byE rfl ?_ | refine r_pick_t rfl rfl rfl rfl rfl rfl rfl ?_) | refine ret1 byO rfl rfl rfl ?_)
    exact Sub.refl _
  · repeat (first | refine awp_seq ?_ | refine thenA_normal ?_ | refine a_region ?_ | refine awp_skip ?_ | refine r_done ?_ | (refine r_id ?_; first | refine r_ev tab_ok rfl rfl rfl rfl byE rfl ?_ | refine r_ld tab_ok rfl rfl rfl rfl rfl ?_ | refine r_pick_f rfl rfl rfl rfl rfl rfl rfl ?_ | refine r_ev_on tab_ok rfl rfl rfl rfl rfl rfl (by first | exact trivial | exact ⟨by omega, by omega⟩ | omega) rfl ?_ | refine r_ld_on tab_ok rfl rfl rfl rfl rfl rfl rfl ?_ | refine r_fielde tab_ok rfl rfl rfl rfl rfl rfl rfl rfl ?_) | refine awp_cond_f rfl ?_ | refine r_g rfl rfl rfl ?_ | refine r_idx_o tab_ok rfl rfl rfl rfl rfl rfl rfl rfl (by decide) (by decide) rfl ?_ | refine r_field_o tab_ok rfl rfl rfl rfl rfl rfl rfl rfl ?_ | refine r_ld_o0 tab_ok rfl rfl rfl rfl rfl rfl rfl rfl rfl ?_ | refine r_idxr tab_ok rfl rfl rfl rfl rfl rfl rfl rfl (by decide) rfl ?_)
    refine r_by2n (astep_store_e tab_ok rfl rfl rfl rfl rfl rfl rfl rfl rfl rfl) rfl rfl rfl ?_
    repeat (first | refine awp_seq ?_ | refine a_region ?_ | refine r_done ?_ | (refine r_id ?_; first | refine r_ev tab_ok rfl rfl rfl rfl byE rfl ?_ | refine r_build tab_ok rfl rfl rfl rfl rfl rfl ?_) | refine r_idx_o tab_ok rfl rfl rfl rfl rfl rfl rfl rfl (by decide) (by decide) rfl ?_ | refine r_field_o tab_ok rfl rfl rfl rfl rfl rfl rfl rfl ?_ | refine r_ld_o0 tab_ok rfl rfl rfl rfl rfl rfl rfl rfl rfl ?_ | refine r_idxr tab_ok rfl rfl rfl rfl rfl rfl rfl rfl (by decide) rfl ?_)
    refine r_by2n (astep_store_e tab_ok rfl rfl rfl rfl rfl rfl rfl rfl rfl rfl) rfl rfl rfl ?_
    repeat (first | refine awp_seq ?_ | refine a_region ?_ | refine r_done ?_)
    refine r_call agRules_ok call24 rfl rfl trivial rfl rfl rfl rfl ?_
    refine r_call agRules_ok call24 rfl rfl trivial rfl rfl rfl rfl ?_
    refine r_call agSame call17 rfl rfl ⟨Sub.refl _, Sub.refl _, trivial⟩ rfl rfl rfl rfl ?_
    repeat (first | (refine r_id ?_; first | refine r_ev tab_ok rfl rfl rfl rfl byE rfl ?_) | refine r_g rfl rfl rfl ?_)
    refine r_call agRules_ok call24 rfl rfl trivial rfl rfl rfl rfl ?_
    repeat (first | (refine r_id ?_; first | refine r_ev tab_ok rfl rfl rfl rfl byE rfl ?_ | refine r_idxd tab_ok rfl rfl rfl rfl rfl rfl rfl (by decide) rfl rfl rfl ?_ | refine r_pick_t rfl rfl rfl rfl rfl rfl rfl ?_ | refine r_ev_on tab_ok rfl rfl rfl rfl rfl rfl (by first | exact trivial | exact ⟨by omega, by omega⟩ | omega) rfl ?_) | refine r_g rfl rfl rfl ?_)
    refine r_call awake21_ok call25 rfl rfl trivial rfl rfl rfl rfl ?_
    repeat (first | refine thenA_normal ?_ | refine awp_ret ?_ | refine r_done ?_ | (refine r_id ?_; first | refine r_ev tab_ok rfl rfl rfl rfl byE rfl ?_ | refine r_pick_t rfl rfl rfl rfl rfl rfl rfl ?_) | refine ret1 byO rfl rfl rfl ?_)
    exact Sub.refl _
  · repeat (first | refine awp_seq ?_ | refine thenA_normal ?_ | refine a_region ?_ | refine awp_skip ?_ | refine r_done ?_ | (refine r_id ?_; first | refine r_ev tab_ok rfl rfl rfl rfl byE rfl ?_ | refine r_ld tab_ok rfl rfl rfl rfl rfl ?_ | refine r_pick_f rfl rfl rfl rfl rfl rfl rfl ?_ | refine r_ev_on tab_ok rfl rfl rfl rfl rfl rfl (by first | exact trivial | exact ⟨by omega, by omega⟩ | omega) rfl ?_ | refine r_ld_on tab_ok rfl rfl rfl rfl rfl rfl rfl ?_ | refine r_fielde tab_ok rfl rfl rfl rfl rfl rfl rfl rfl ?_) | refine awp_cond_f rfl ?_ | refine r_g rfl rfl rfl ?_ | refine r_idx_o tab_ok rfl rfl rfl rfl rfl rfl rfl rfl (by decide) (by decide) rfl ?_ | refine r_field_o tab_ok rfl rfl rfl rfl rfl rfl rfl rfl ?_ | refine r_ld_o0 tab_ok rfl rfl rfl rfl rfl rfl rfl rfl rfl ?_ | refine r_idxr tab_ok rfl rfl rfl rfl rfl rfl rfl rfl (by decide) rfl ?_)
    refine r_by2n (astep_store_e tab_ok rfl rfl rfl rfl rfl rfl rfl rfl rfl rfl) rfl rfl rfl ?_
    repeat (first | refine awp_seq ?_ | refine a_region ?_ | refine r_done ?_ | (refine r_id ?_; first | refine r_ev tab_ok rfl rfl rfl rfl byE rfl ?_ | refine r_build tab_ok rfl rfl rfl rfl rfl rfl ?_) | refine r_idx_o tab_ok rfl rfl rfl rfl rfl rfl rfl rfl (by decide) (by decide) rfl ?_ | refine r_field_o tab_ok rfl rfl rfl rfl rfl rfl rfl rfl ?_ | refine r_ld_o0 tab_ok rfl rfl rfl rfl rfl rfl rfl rfl rfl ?_ | refine r_idxr tab_ok rfl rfl rfl rfl rfl rfl rfl rfl (by decide) rfl ?_)
    refine r_by2n (astep_store_e tab_ok rfl rfl rfl rfl rfl rfl rfl rfl rfl rfl) rfl rfl rfl ?_
    repeat (first | refine awp_seq ?_ | refine a_region ?_ | refine r_done ?_)
    refine r_call agRules_ok call24 rfl rfl trivial rfl rfl rfl rfl ?_
    refine r_call agRules_ok call24 rfl rfl trivial rfl rfl rfl rfl ?_
    refine r_call agSame call17 rfl rfl ⟨Sub.refl _, Sub.refl _, trivial⟩ rfl rfl rfl rfl ?_
    repeat (first | (refine r_id ?_; first | refine r_ev tab_ok rfl rfl rfl rfl byE rfl ?_) | refine r_g rfl rfl rfl ?_)
    refine r_call agRules_ok call24 rfl rfl trivial rfl rfl rfl rfl ?_
    repeat (first | (refine r_id ?_; first | refine r_ev tab_ok rfl rfl rfl rfl byE rfl ?_ | refine r_idxd tab_ok rfl rfl rfl rfl rfl rfl rfl (by decide) rfl rfl rfl ?_ | refine r_pick_t rfl rfl rfl rfl rfl rfl rfl ?_ | refine r_ev_on tab_ok rfl rfl rfl rfl rfl rfl (by first | exact trivial | exact ⟨by omega, by omega⟩ | omega) rfl ?_) | refine r_g rfl rfl rfl ?_)
    refine r_call awake21_ok call25 rfl rfl trivial rfl rfl rfl rfl ?_
    repeat (first | refine thenA_normal ?_ | refine awp_ret ?_ | refine r_done ?_ | (refine r_id ?_; first | refine r_ev tab_ok rfl rfl rfl rfl byE rfl ?_ | refine r_pick_t rfl rfl rfl rfl rfl rfl rfl ?_) | refine ret1 byO rfl rfl rfl ?_)
    exact Sub.refl _
  · repeat (first | refine awp_seq ?_ | refine thenA_normal ?_ | refine a_region ?_ | refine awp_skip ?_ | refine r_done ?_ | (refine r_id ?_; first | refine r_ev tab_ok rfl rfl rfl rfl byE rfl ?_ | refine r_ld tab_ok rfl rfl rfl rfl rfl ?_ | refine r_pick_f rfl rfl rfl rfl rfl rfl rfl ?_ | refine r_ev_on tab_ok rfl rfl rfl rfl rfl rfl (by first | exact trivial | exact ⟨by omega, by omega⟩ | omega) rfl ?_ | refine r_ld_on tab_ok rfl rfl rfl rfl rfl rfl rfl ?_ | refine r_fielde tab_ok rfl rfl rfl rfl rfl rfl rfl rfl ?_) | refine awp_cond_f rfl ?_ | refine r_g rfl rfl rfl ?_ | refine r_idx_o tab_ok rfl rfl rfl rfl rfl rfl rfl rfl (by decide) (by decide) rfl ?_ | refine r_field_o tab_ok rfl rfl rfl rfl rfl rfl rfl rfl ?_ | refine r_ld_o0 tab_ok rfl rfl rfl rfl rfl rfl rfl rfl rfl ?_ | refine r_idxr tab_ok rfl rfl rfl rfl rfl rfl rfl rfl (by decide) rfl ?_)
    refine r_by2n (astep_store_e tab_ok rfl rfl rfl rfl rfl rfl rfl rfl rfl rfl) rfl rfl rfl ?_
    repeat (first | refine awp_seq ?_ | refine a_region ?_ | refine r_done ?_ | (refine r_id ?_; first | refine r_ev tab_ok rfl rfl rfl rfl byE rfl ?_ | refine r_build tab_ok rfl rfl rfl rfl rfl rfl ?_) | refine r_idx_o tab_ok rfl rfl rfl rfl rfl rfl rfl rfl (by decide) (by decide) rfl ?_ | refine r_field_o tab_ok rfl rfl rfl rfl rfl rfl rfl rfl ?_ | refine r_ld_o0 tab_ok rfl rfl rfl rfl rfl rfl rfl rfl rfl ?_ | refine r_idxr tab_ok rfl rfl rfl rfl rfl rfl rfl rfl (by decide) rfl ?_)
    refine r_by2n (astep_store_e tab_ok rfl rfl rfl rfl rfl rfl rfl rfl rfl rfl) rfl rfl rfl ?_
    repeat (first | refine awp_seq ?_ | refine a_region ?_ | refine r_done ?_)
    refine r_call agRules_ok call24 rfl rfl trivial rfl rfl rfl rfl ?_
    refine r_call agRules_ok call24 rfl rfl trivial rfl rfl rfl rfl ?_
    refine r_call agSame call17 rfl rfl ⟨Sub.refl _, Sub.refl _, trivial⟩ rfl rfl rfl rfl ?_
    repeat (first | (refine r_id ?_; first | refine r_ev tab_ok rfl rfl rfl rfl byE rfl ?_) | refine r_g rfl rfl rfl ?_)
    refine r_call agRules_ok call24 rfl rfl trivial rfl rfl rfl rfl ?_
    repeat (first | (refine r_id ?_; first | refine r_ev tab_ok rfl rfl rfl rfl byE rfl ?_ | refine r_idxd tab_ok rfl rfl rfl rfl rfl rfl rfl (by decide) rfl rfl rfl ?_ | refine r_pick_t rfl rfl rfl rfl rfl rfl rfl ?_ | refine r_ev_on tab_ok rfl rfl rfl rfl rfl rfl (by first | exact trivial | exact ⟨by omega, by omega⟩ | omega) rfl ?_) | refine r_g rfl rfl rfl ?_)
    refine r_call awake21_ok call25 rfl rfl trivial rfl rfl rfl rfl ?_
    repeat (first | refine thenA_normal ?_ | refine awp_ret ?_ | refine r_done ?_ | (refine r_id ?_; first | refine r_ev tab_ok rfl rfl rfl rfl byE rfl ?_ | refine r_pick_t rfl rfl rfl rfl rfl rfl rfl ?_) | refine ret1 byO rfl rfl rfl ?_)
    exact Sub.refl _
  · repeat (first | refine awp_seq ?_ | refine thenA_normal ?_ | refine a_region ?_ | refine awp_skip ?_ | refine r_done ?_ | (refine r_id ?_; first | refine r_ev tab_ok rfl rfl rfl rfl byE rfl ?_ | refine r_ld tab_ok rfl rfl rfl rfl rfl ?_ | refine r_pick_f rfl rfl rfl rfl rfl rfl rfl ?_ | refine r_ev_on tab_ok rfl rfl rfl rfl rfl rfl (by first | exact trivial | exact ⟨by omega, by omega⟩ | omega) rfl ?_ | refine r_ld_on tab_ok rfl rfl rfl rfl rfl rfl rfl ?_ | refine r_fielde tab_ok rfl rfl rfl rfl rfl rfl rfl rfl ?_) | refine awp_cond_f rfl ?_ | refine r_g rfl rfl rfl ?_ | refine r_idx_o tab_ok rfl rfl rfl rfl rfl rfl rfl rfl (by decide) (by decide) rfl ?_ | refine r_field_o tab_ok rfl rfl rfl rfl rfl rfl rfl rfl ?_ | refine r_ld_o0 tab_ok rfl rfl rfl rfl rfl rfl rfl rfl rfl ?_ | refine r_idxr tab_ok rfl rfl rfl rfl rfl rfl rfl rfl (by decide) rfl ?_)
    refine r_by2n (astep_store_e tab_ok rfl rfl rfl rfl rfl rfl rfl rfl rfl rfl) rfl rfl rfl ?_
    repeat (first | refine awp_seq ?_ | refine a_region ?_ | refine r_done ?_ | (refine r_id ?_; first | refine r_ev tab_ok rfl rfl rfl rfl byE rfl ?_ | refine r_build tab_ok rfl rfl rfl rfl rfl rfl ?_) | refine r_idx_o tab_ok rfl rfl rfl rfl rfl rfl rfl rfl (by decide) (by decide) rfl ?_ | refine r_field_o tab_ok rfl rfl rfl rfl rfl rfl rfl rfl ?_ | refine r_ld_o0 tab_ok rfl rfl rfl rfl rfl rfl rfl rfl rfl ?_ | refine r_idxr tab_ok rfl rfl rfl rfl rfl rfl rfl rfl (by decide) rfl ?_)
    refine r_by2n (astep_store_e tab_ok rfl rfl rfl rfl rfl rfl rfl rfl rfl rfl) rfl rfl rfl ?_
    repeat (first | refine awp_seq ?_ | refine a_region ?_ | refine r_done ?_)
    refine r_call agRules_ok call24 rfl rfl trivial rfl rfl rfl rfl ?_
    refine r_call agRules_ok call24 rfl rfl trivial rfl rfl rfl rfl ?_
    refine r_call agSame call17 rfl rfl ⟨Sub.refl _, Sub.refl _, trivial⟩ rfl rfl rfl rfl ?_
    repeat (first | (refine r_id ?_; first | refine r_ev tab_ok rfl rfl rfl rfl byE rfl ?_) | refine r_g rfl rfl rfl ?_)
    refine r_call agRules_ok call24 rfl rfl trivial rfl rfl rfl rfl ?_
    repeat (first | (refine r_id ?_; first | refine r_ev tab_ok rfl rfl rfl rfl byE rfl ?_ | refine r_idxd tab_ok rfl rfl rfl rfl rfl rfl rfl (by decide) rfl rfl rfl ?_ | refine r_pick_t rfl rfl rfl rfl rfl rfl rfl ?_ | refine r_ev_on tab_ok rfl rfl rfl rfl rfl rfl (by first | exact trivial | exact ⟨by omega, by omega⟩ | omega) rfl ?_) | refine r_g rfl rfl rfl ?_)
    refine r_call awake21_ok call25 rfl rfl trivial rfl rfl rfl rfl ?_
    repeat (first | refine thenA_normal ?_ | refine awp_ret ?_ | refine r_done ?_ | (refine r_id ?_; first | refine r_ev tab_ok rfl rfl rfl rfl byE rfl ?_ | refine r_pick_t rfl rfl rfl rfl rfl rfl rfl ?_) | refine ret1 byO rfl rfl rfl ?_)
    exact Sub.refl _
  · repeat (first | refine awp_seq ?_ | refine thenA_normal ?_ | refine a_region ?_ | refine awp_skip ?_ | refine r_done ?_ | (refine r_id ?_; first | refine r_ev tab_ok rfl rfl rfl rfl byE rfl ?_ | refine r_ld tab_ok rfl rfl rfl rfl rfl ?_ | refine r_pick_f rfl rfl rfl rfl rfl rfl rfl ?_ | refine r_ev_on tab_ok rfl rfl rfl rfl rfl rfl (by first | exact trivial | exact ⟨by omega, by omega⟩ | omega) rfl ?_ | refine r_ld_on tab_ok rfl rfl rfl rfl rfl rfl rfl ?_ | refine r_fielde tab_ok rfl rfl rfl rfl rfl rfl rfl rfl ?_) | refine awp_cond_f rfl ?_ | refine r_g rfl rfl rfl ?_ | refine r_idx_o tab_ok rfl rfl rfl rfl rfl rfl rfl rfl (by decide) (by decide) rfl ?_ | refine r_field_o tab_ok rfl rfl rfl rfl rfl rfl rfl rfl ?_ | refine r_ld_o0 tab_ok rfl rfl rfl rfl rfl rfl rfl rfl rfl ?_ | refine r_idxr tab_ok rfl rfl rfl rfl rfl rfl rfl rfl (by decide) rfl ?_)
    refine r_by2n (astep_store_e tab_ok rfl rfl rfl rfl rfl rfl rfl rfl rfl rfl) rfl rfl rfl ?_
    repeat (first | refine awp_seq ?_ | refine a_region ?_ | refine r_done ?_ | (refine r_id ?_; first | refine r_ev tab_ok rfl rfl rfl rfl byE rfl ?_ | refine r_build tab_ok rfl rfl rfl rfl rfl rfl ?_) | refine r_idx_o tab_ok rfl rfl rfl rfl rfl rfl rfl rfl (by decide) (by decide) rfl ?_ | refine r_field_o tab_ok rfl rfl rfl rfl rfl rfl rfl rfl ?_ | refine r_ld_o0 tab_ok rfl rfl rfl rfl rfl rfl rfl rfl rfl ?_ | refine r_idxr tab_ok rfl rfl rfl rfl rfl rfl rfl rfl (by decide) rfl ?_)
    refine r_by2n (astep_store_e tab_ok rfl rfl rfl rfl rfl rfl rfl rfl rfl rfl) rfl rfl rfl ?_
    repeat (first | refine awp_seq ?_ | refine a_region ?_ | refine r_done ?_)
    refine r_call agRules_ok call24 rfl rfl trivial rfl rfl rfl rfl ?_
    refine r_call agRules_ok call24 rfl rfl trivial rfl rfl rfl rfl ?_
    refine r_call agSame call17 rfl rfl ⟨Sub.refl _, Sub.refl _, trivial⟩ rfl rfl rfl rfl ?_
    repeat (first | (refine r_id ?_; first | refine r_ev tab_ok rfl rfl rfl rfl byE rfl ?_) | refine r_g rfl rfl rfl ?_)
    refine r_call agRules_ok call24 rfl rfl trivial rfl rfl rfl rfl ?_
    repeat (first | (refine r_id ?_; first | refine r_ev tab_ok rfl rfl rfl rfl byE rfl ?_ | refine r_idxd tab_ok rfl rfl rfl rfl rfl rfl rfl (by decide) rfl rfl rfl ?_ | refine r_pick_t rfl rfl rfl rfl rfl rfl rfl ?_ | refine r_ev_on tab_ok rfl rfl rfl rfl rfl rfl (by first | exact trivial | exact ⟨by omega, by omega⟩ | omega) rfl ?_) | refine r_g rfl rfl rfl ?_)
    refine r_call awake21_ok call25 rfl rfl trivial rfl rfl rfl rfl ?_
    repeat (first | refine thenA_normal ?_ | refine awp_ret ?_ | refine r_done ?_ | (refine r_id ?_; first | refine r_ev tab_ok rfl rfl rfl rfl byE rfl ?_ | refine r_pick_t rfl rfl rfl rfl rfl rfl rfl ?_) | refine ret1 byO rfl rfl rfl ?_)
    exact Sub.refl _
end Go.Proofs.YtiolnmfaeenlmaaGreatDoor
