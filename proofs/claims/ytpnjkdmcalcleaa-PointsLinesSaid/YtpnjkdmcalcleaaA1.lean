/- strings.Builder: its check, WriteByte, String (numbers of law1's seat). -/
import Derived.Test.YtpnjkdmcalcleaaZ
import Derived.Test.YtpnjkdmcalcleaaTy
namespace Go.Proofs.Ytpnjkdmcalcleaa
open Go Go.RowKit

theorem under39 : Try.prog.underlying 39 = some (.pointer 41) := by kernel_rfl
theorem under47 : Try.prog.underlying 47 = some .unsafePointer := by kernel_rfl
theorem under46 : Try.prog.underlying 46 = some (.pointer 5) := by kernel_rfl
theorem cells5 : Try.prog.cellsOf 5 = 1 := by kernel_rfl
theorem lies41 : liesAt Try.prog Try.prog.depth 41 (2 / Try.prog.cellsOf 41) 0 41 1 = true := by kernel_rfl

theorem check_nil (l : List UInt8) : MCalls Try.prog 28 [.box 41 [.val (.pointer none), .row 1 0], .row 0 5 1 (l.map bD)] [.ptr 0 0] [.box 41 [.ptr 0 0, .row 1 0], .row 0 5 1 (l.map bD)] (.tup []) := by
  refine m_start Try.func28 Try.ntmps28 rfl rfl rfl fun S w β => ?_
  repeat (first
    | refine awp_seq ?_
    | refine thenA_normal ?_
    | refine awp_block ?_
    | refine a_region ?_
    | refine a_draw1 mixed_ok (by kernel_rfl) ?_
    | refine awp_ret ?_
    | refine awp_exit ?_
    | refine thenA_exit ?_
    | refine thenA_ret ?_
    | refine blockA_normal ?_
    | refine blockA_ret ?_
    | refine blockA_hit rfl ?_
    | refine blockA_miss rfl ?_
    | refine awp_skip ?_
    | refine r_done ?_
    | refine r_done' ?_
    | (refine r_id ?_; first
      | refine r_len tab_ok rfl rfl rfl rfl rfl rfl rfl ?_
      | refine r_ev tab_ok rfl rfl rfl rfl (by first | exact trivial | exact ⟨by omega, by omega⟩ | omega | exact ⟨by omega, by omega, by omega, by omega⟩ | exact Nat.le_of_ble_eq_true rfl) rfl ?_
      | refine r_ld tab_ok rfl rfl rfl rfl rfl ?_
      | refine r_idx tab_ok rfl rfl rfl rfl rfl rfl rfl (by first | exact ⟨by omega, by omega⟩ | (simp; omega)) rfl rfl ?_
      | refine r_idxd tab_ok rfl rfl rfl rfl rfl rfl rfl (by decide) rfl rfl rfl ?_
      | refine r_wr tab_ok rfl rfl rfl rfl rfl ?_
      | refine r_st tab_ok rfl rfl rfl rfl ?_
      | refine r_len_cnd tab_ok rfl rfl rfl rfl rfl rfl (by first | exact fun _ => rfl | exact cs1) rfl rfl rfl ?_
      | refine r_ev_cnd tab_ok rfl rfl rfl rfl rfl rfl (by first | exact fun _ => rfl | exact cs1 | exact cs2 | exact cs3) (by first | exact fun _ => trivial | (intro h; simp at h; first | exact ⟨by omega, by omega⟩ | omega)) rfl ?_
      | refine r_ld_cnd tab_ok rfl rfl rfl rfl rfl rfl (by first | exact fun _ => rfl | exact cs1 | exact cs2 | exact cs3) rfl ?_
      | refine r_idx_cnd tab_ok rfl rfl rfl rfl rfl rfl rfl (by first | exact fun _ => rfl | exact cs1 | exact cs2) rfl rfl (by exact ⟨by omega, by omega⟩) rfl rfl ?_
      | refine r_idx_cnd' tab_ok rfl rfl rfl rfl rfl rfl rfl (by first | exact fun _ => rfl | exact cs1 | exact cs2) rfl rfl (by intro h; simp at h; exact ⟨by omega, by omega⟩) rfl rfl ?_
      | refine r_and_cnd rfl rfl rfl rfl rfl rfl rfl rfl rfl rfl ?_
      | refine r_or_cnd rfl rfl rfl rfl rfl rfl rfl rfl rfl rfl ?_
      | refine r_or rfl rfl rfl rfl rfl rfl rfl rfl ?_
      | refine r_and rfl rfl rfl rfl rfl rfl rfl rfl ?_
      | refine r_pick_t rfl rfl rfl rfl rfl rfl rfl ?_
      | refine r_pick_f rfl rfl rfl rfl rfl rfl rfl ?_
      | refine r_off rfl rfl rfl rfl rfl rfl ?_
      | refine r_len_on tab_ok rfl rfl rfl rfl rfl rfl rfl rfl rfl ?_
      | refine r_ev_on tab_ok rfl rfl rfl rfl rfl rfl (by first | exact trivial | exact ⟨by omega, by omega⟩ | omega) rfl ?_
      | refine r_ld_on tab_ok rfl rfl rfl rfl rfl rfl rfl ?_
      | refine r_build tab_ok rfl rfl rfl rfl rfl rfl ?_
      | refine r_bstr tab_ok rfl rfl rfl rfl rfl rfl rfl rfl rfl rfl ?_
      | refine r_build_cnd tab_ok rfl rfl rfl rfl rfl (by first | exact fun _ => rfl | exact cs1) rfl rfl rfl ?_
      | refine r_built_cnd tab_ok rfl rfl rfl rfl rfl rfl rfl rfl (by first | exact fun _ => rfl | exact cs1) rfl rfl rfl ?_
      | refine r_rem rfl rfl rfl rfl rfl rfl (by omega) rfl ?_
      | refine r_built0 tab_ok rfl rfl rfl rfl rfl rfl rfl ?_
      | refine r_built tab_ok rfl rfl rfl rfl rfl rfl rfl rfl rfl ?_
      | refine r_range tab_ok rfl rfl rfl rfl rfl rfl rfl ?_
      | refine r_next rfl rfl rfl rfl (by assumption) rfl rfl rfl ?_
      | refine r_next_end rfl rfl rfl rfl (by assumption) rfl rfl rfl ?_
      | refine r_nilck rfl rfl rfl rfl rfl rfl rfl ?_
      | refine r_rstr tab_ok rfl rfl rfl rfl rfl rfl rfl rfl ?_
      | refine r_rsstr tab_ok rfl rfl rfl rfl rfl rfl rfl rfl rfl rfl ?_
      | refine r_bstr' tab_ok rfl rfl rfl rfl rfl rfl rfl rfl rfl ?_
      | refine r_rowstr tab_ok rfl rfl rfl rfl rfl rfl rfl rfl rfl rfl ?_
      | refine r_strd tab_ok rfl rfl rfl rfl rfl rfl (by omega) rfl rfl rfl ?_
      | refine r_idxr tab_ok rfl rfl rfl rfl rfl rfl rfl rfl (by first | exact ⟨by omega, by omega⟩ | (simp; omega)) rfl ?_
      | refine r_lde tab_ok rfl rfl rfl rfl rfl (by omega) rfl rfl rfl rfl ?_
      | refine r_idxr_cnd tab_ok rfl rfl rfl rfl rfl rfl rfl rfl (by first | exact fun _ => rfl | exact cs1 | exact cs2) rfl rfl (by first | (intro _; exact ⟨by omega, by omega⟩) | (intro h; simp at h ⊢; omega)) rfl ?_
      | refine r_lde_cnd tab_ok rfl rfl rfl rfl rfl rfl rfl (by first | exact fun _ => rfl | exact cs1 | exact cs2) (by omega) rfl rfl rfl rfl ?_
      | refine r_cut tab_ok rfl rfl rfl rfl rfl rfl rfl rfl (by first | exact ⟨by simp, by simp; omega, by simp⟩ | (simp; omega)) rfl ?_
      | refine r_append tab_ok rfl rfl rfl rfl rfl rfl rfl rfl rfl (by first | omega | (simp; omega)) rfl ?_
      | refine r_append_nil tab_ok rfl rfl rfl rfl rfl rfl rfl rfl (by first | omega | (simp; omega)) rfl ?_)
    | refine ret1 (by first | exact .inl rfl | exact .inr rfl) rfl rfl rfl ?_
    | refine ret1_row (by first | exact .inl rfl | exact .inr rfl) rfl rfl rfl ?_
    | refine ret2 (by first | exact .inl rfl | exact .inr rfl) rfl rfl rfl rfl ?_ ?_
    | refine retM1 (by first | exact .inl rfl | exact .inr rfl) rfl rfl rfl rfl rfl ?_
    | exact retM0 (by first | exact .inl rfl | exact .inr rfl) rfl rfl rfl
    | refine awp_cond_t rfl ?_
    | refine awp_cond_f rfl ?_)
  refine r_by (fun _ => astep_eqnil_nil under39 rfl rfl rfl) rfl rfl rfl rfl rfl ?_
  repeat (first
    | refine awp_seq ?_
    | refine thenA_normal ?_
    | refine awp_block ?_
    | refine a_region ?_
    | refine a_draw1 mixed_ok (by kernel_rfl) ?_
    | refine awp_ret ?_
    | refine awp_exit ?_
    | refine thenA_exit ?_
    | refine thenA_ret ?_
    | refine blockA_normal ?_
    | refine blockA_ret ?_
    | refine blockA_hit rfl ?_
    | refine blockA_miss rfl ?_
    | refine awp_skip ?_
    | refine r_done ?_
    | refine r_done' ?_
    | (refine r_id ?_; first
      | refine r_len tab_ok rfl rfl rfl rfl rfl rfl rfl ?_
      | refine r_ev tab_ok rfl rfl rfl rfl (by first | exact trivial | exact ⟨by omega, by omega⟩ | omega | exact ⟨by omega, by omega, by omega, by omega⟩ | exact Nat.le_of_ble_eq_true rfl) rfl ?_
      | refine r_ld tab_ok rfl rfl rfl rfl rfl ?_
      | refine r_idx tab_ok rfl rfl rfl rfl rfl rfl rfl (by first | exact ⟨by omega, by omega⟩ | (simp; omega)) rfl rfl ?_
      | refine r_idxd tab_ok rfl rfl rfl rfl rfl rfl rfl (by decide) rfl rfl rfl ?_
      | refine r_wr tab_ok rfl rfl rfl rfl rfl ?_
      | refine r_st tab_ok rfl rfl rfl rfl ?_
      | refine r_len_cnd tab_ok rfl rfl rfl rfl rfl rfl (by first | exact fun _ => rfl | exact cs1) rfl rfl rfl ?_
      | refine r_ev_cnd tab_ok rfl rfl rfl rfl rfl rfl (by first | exact fun _ => rfl | exact cs1 | exact cs2 | exact cs3) (by first | exact fun _ => trivial | (intro h; simp at h; first | exact ⟨by omega, by omega⟩ | omega)) rfl ?_
      | refine r_ld_cnd tab_ok rfl rfl rfl rfl rfl rfl (by first | exact fun _ => rfl | exact cs1 | exact cs2 | exact cs3) rfl ?_
      | refine r_idx_cnd tab_ok rfl rfl rfl rfl rfl rfl rfl (by first | exact fun _ => rfl | exact cs1 | exact cs2) rfl rfl (by exact ⟨by omega, by omega⟩) rfl rfl ?_
      | refine r_idx_cnd' tab_ok rfl rfl rfl rfl rfl rfl rfl (by first | exact fun _ => rfl | exact cs1 | exact cs2) rfl rfl (by intro h; simp at h; exact ⟨by omega, by omega⟩) rfl rfl ?_
      | refine r_and_cnd rfl rfl rfl rfl rfl rfl rfl rfl rfl rfl ?_
      | refine r_or_cnd rfl rfl rfl rfl rfl rfl rfl rfl rfl rfl ?_
      | refine r_or rfl rfl rfl rfl rfl rfl rfl rfl ?_
      | refine r_and rfl rfl rfl rfl rfl rfl rfl rfl ?_
      | refine r_pick_t rfl rfl rfl rfl rfl rfl rfl ?_
      | refine r_pick_f rfl rfl rfl rfl rfl rfl rfl ?_
      | refine r_off rfl rfl rfl rfl rfl rfl ?_
      | refine r_len_on tab_ok rfl rfl rfl rfl rfl rfl rfl rfl rfl ?_
      | refine r_ev_on tab_ok rfl rfl rfl rfl rfl rfl (by first | exact trivial | exact ⟨by omega, by omega⟩ | omega) rfl ?_
      | refine r_ld_on tab_ok rfl rfl rfl rfl rfl rfl rfl ?_
      | refine r_build tab_ok rfl rfl rfl rfl rfl rfl ?_
      | refine r_bstr tab_ok rfl rfl rfl rfl rfl rfl rfl rfl rfl rfl ?_
      | refine r_build_cnd tab_ok rfl rfl rfl rfl rfl (by first | exact fun _ => rfl | exact cs1) rfl rfl rfl ?_
      | refine r_built_cnd tab_ok rfl rfl rfl rfl rfl rfl rfl rfl (by first | exact fun _ => rfl | exact cs1) rfl rfl rfl ?_
      | refine r_rem rfl rfl rfl rfl rfl rfl (by omega) rfl ?_
      | refine r_built0 tab_ok rfl rfl rfl rfl rfl rfl rfl ?_
      | refine r_built tab_ok rfl rfl rfl rfl rfl rfl rfl rfl rfl ?_
      | refine r_range tab_ok rfl rfl rfl rfl rfl rfl rfl ?_
      | refine r_next rfl rfl rfl rfl (by assumption) rfl rfl rfl ?_
      | refine r_next_end rfl rfl rfl rfl (by assumption) rfl rfl rfl ?_
      | refine r_nilck rfl rfl rfl rfl rfl rfl rfl ?_
      | refine r_rstr tab_ok rfl rfl rfl rfl rfl rfl rfl rfl ?_
      | refine r_rsstr tab_ok rfl rfl rfl rfl rfl rfl rfl rfl rfl rfl ?_
      | refine r_bstr' tab_ok rfl rfl rfl rfl rfl rfl rfl rfl rfl ?_
      | refine r_rowstr tab_ok rfl rfl rfl rfl rfl rfl rfl rfl rfl rfl ?_
      | refine r_strd tab_ok rfl rfl rfl rfl rfl rfl (by omega) rfl rfl rfl ?_
      | refine r_idxr tab_ok rfl rfl rfl rfl rfl rfl rfl rfl (by first | exact ⟨by omega, by omega⟩ | (simp; omega)) rfl ?_
      | refine r_lde tab_ok rfl rfl rfl rfl rfl (by omega) rfl rfl rfl rfl ?_
      | refine r_idxr_cnd tab_ok rfl rfl rfl rfl rfl rfl rfl rfl (by first | exact fun _ => rfl | exact cs1 | exact cs2) rfl rfl (by first | (intro _; exact ⟨by omega, by omega⟩) | (intro h; simp at h ⊢; omega)) rfl ?_
      | refine r_lde_cnd tab_ok rfl rfl rfl rfl rfl rfl rfl (by first | exact fun _ => rfl | exact cs1 | exact cs2) (by omega) rfl rfl rfl rfl ?_
      | refine r_cut tab_ok rfl rfl rfl rfl rfl rfl rfl rfl (by first | exact ⟨by simp, by simp; omega, by simp⟩ | (simp; omega)) rfl ?_
      | refine r_append tab_ok rfl rfl rfl rfl rfl rfl rfl rfl rfl (by first | omega | (simp; omega)) rfl ?_
      | refine r_append_nil tab_ok rfl rfl rfl rfl rfl rfl rfl rfl (by first | omega | (simp; omega)) rfl ?_)
    | refine ret1 (by first | exact .inl rfl | exact .inr rfl) rfl rfl rfl ?_
    | refine ret1_row (by first | exact .inl rfl | exact .inr rfl) rfl rfl rfl ?_
    | refine ret2 (by first | exact .inl rfl | exact .inr rfl) rfl rfl rfl rfl ?_ ?_
    | refine retM1 (by first | exact .inl rfl | exact .inr rfl) rfl rfl rfl rfl rfl ?_
    | exact retM0 (by first | exact .inl rfl | exact .inr rfl) rfl rfl rfl
    | refine awp_cond_t rfl ?_
    | refine awp_cond_f rfl ?_)
  refine r_by1 (astep_tounsafe tab_ok under39 under47 rfl rfl rfl rfl rfl) rfl rfl rfl rfl rfl ?_
  refine r_by (fun _ => astep_noescape Try.func29 rfl rfl rfl rfl rfl) rfl rfl rfl rfl rfl ?_
  refine r_by1 (astep_fromunsafe tab_ok under47 under39 rfl rfl rfl rfl lies41) rfl rfl rfl rfl rfl ?_
  repeat (first
    | refine awp_seq ?_
    | refine thenA_normal ?_
    | refine awp_block ?_
    | refine a_region ?_
    | refine a_draw1 mixed_ok (by kernel_rfl) ?_
    | refine awp_ret ?_
    | refine awp_exit ?_
    | refine thenA_exit ?_
    | refine thenA_ret ?_
    | refine blockA_normal ?_
    | refine blockA_ret ?_
    | refine blockA_hit rfl ?_
    | refine blockA_miss rfl ?_
    | refine awp_skip ?_
    | refine r_done ?_
    | refine r_done' ?_
    | (refine r_id ?_; first
      | refine r_len tab_ok rfl rfl rfl rfl rfl rfl rfl ?_
      | refine r_ev tab_ok rfl rfl rfl rfl (by first | exact trivial | exact ⟨by omega, by omega⟩ | omega | exact ⟨by omega, by omega, by omega, by omega⟩ | exact Nat.le_of_ble_eq_true rfl) rfl ?_
      | refine r_ld tab_ok rfl rfl rfl rfl rfl ?_
      | refine r_idx tab_ok rfl rfl rfl rfl rfl rfl rfl (by first | exact ⟨by omega, by omega⟩ | (simp; omega)) rfl rfl ?_
      | refine r_idxd tab_ok rfl rfl rfl rfl rfl rfl rfl (by decide) rfl rfl rfl ?_
      | refine r_wr tab_ok rfl rfl rfl rfl rfl ?_
      | refine r_st tab_ok rfl rfl rfl rfl ?_
      | refine r_len_cnd tab_ok rfl rfl rfl rfl rfl rfl (by first | exact fun _ => rfl | exact cs1) rfl rfl rfl ?_
      | refine r_ev_cnd tab_ok rfl rfl rfl rfl rfl rfl (by first | exact fun _ => rfl | exact cs1 | exact cs2 | exact cs3) (by first | exact fun _ => trivial | (intro h; simp at h; first | exact ⟨by omega, by omega⟩ | omega)) rfl ?_
      | refine r_ld_cnd tab_ok rfl rfl rfl rfl rfl rfl (by first | exact fun _ => rfl | exact cs1 | exact cs2 | exact cs3) rfl ?_
      | refine r_idx_cnd tab_ok rfl rfl rfl rfl rfl rfl rfl (by first | exact fun _ => rfl | exact cs1 | exact cs2) rfl rfl (by exact ⟨by omega, by omega⟩) rfl rfl ?_
      | refine r_idx_cnd' tab_ok rfl rfl rfl rfl rfl rfl rfl (by first | exact fun _ => rfl | exact cs1 | exact cs2) rfl rfl (by intro h; simp at h; exact ⟨by omega, by omega⟩) rfl rfl ?_
      | refine r_and_cnd rfl rfl rfl rfl rfl rfl rfl rfl rfl rfl ?_
      | refine r_or_cnd rfl rfl rfl rfl rfl rfl rfl rfl rfl rfl ?_
      | refine r_or rfl rfl rfl rfl rfl rfl rfl rfl ?_
      | refine r_and rfl rfl rfl rfl rfl rfl rfl rfl ?_
      | refine r_pick_t rfl rfl rfl rfl rfl rfl rfl ?_
      | refine r_pick_f rfl rfl rfl rfl rfl rfl rfl ?_
      | refine r_off rfl rfl rfl rfl rfl rfl ?_
      | refine r_len_on tab_ok rfl rfl rfl rfl rfl rfl rfl rfl rfl ?_
      | refine r_ev_on tab_ok rfl rfl rfl rfl rfl rfl (by first | exact trivial | exact ⟨by omega, by omega⟩ | omega) rfl ?_
      | refine r_ld_on tab_ok rfl rfl rfl rfl rfl rfl rfl ?_
      | refine r_build tab_ok rfl rfl rfl rfl rfl rfl ?_
      | refine r_bstr tab_ok rfl rfl rfl rfl rfl rfl rfl rfl rfl rfl ?_
      | refine r_build_cnd tab_ok rfl rfl rfl rfl rfl (by first | exact fun _ => rfl | exact cs1) rfl rfl rfl ?_
      | refine r_built_cnd tab_ok rfl rfl rfl rfl rfl rfl rfl rfl (by first | exact fun _ => rfl | exact cs1) rfl rfl rfl ?_
      | refine r_rem rfl rfl rfl rfl rfl rfl (by omega) rfl ?_
      | refine r_built0 tab_ok rfl rfl rfl rfl rfl rfl rfl ?_
      | refine r_built tab_ok rfl rfl rfl rfl rfl rfl rfl rfl rfl ?_
      | refine r_range tab_ok rfl rfl rfl rfl rfl rfl rfl ?_
      | refine r_next rfl rfl rfl rfl (by assumption) rfl rfl rfl ?_
      | refine r_next_end rfl rfl rfl rfl (by assumption) rfl rfl rfl ?_
      | refine r_nilck rfl rfl rfl rfl rfl rfl rfl ?_
      | refine r_rstr tab_ok rfl rfl rfl rfl rfl rfl rfl rfl ?_
      | refine r_rsstr tab_ok rfl rfl rfl rfl rfl rfl rfl rfl rfl rfl ?_
      | refine r_bstr' tab_ok rfl rfl rfl rfl rfl rfl rfl rfl rfl ?_
      | refine r_rowstr tab_ok rfl rfl rfl rfl rfl rfl rfl rfl rfl rfl ?_
      | refine r_strd tab_ok rfl rfl rfl rfl rfl rfl (by omega) rfl rfl rfl ?_
      | refine r_idxr tab_ok rfl rfl rfl rfl rfl rfl rfl rfl (by first | exact ⟨by omega, by omega⟩ | (simp; omega)) rfl ?_
      | refine r_lde tab_ok rfl rfl rfl rfl rfl (by omega) rfl rfl rfl rfl ?_
      | refine r_idxr_cnd tab_ok rfl rfl rfl rfl rfl rfl rfl rfl (by first | exact fun _ => rfl | exact cs1 | exact cs2) rfl rfl (by first | (intro _; exact ⟨by omega, by omega⟩) | (intro h; simp at h ⊢; omega)) rfl ?_
      | refine r_lde_cnd tab_ok rfl rfl rfl rfl rfl rfl rfl (by first | exact fun _ => rfl | exact cs1 | exact cs2) (by omega) rfl rfl rfl rfl ?_
      | refine r_cut tab_ok rfl rfl rfl rfl rfl rfl rfl rfl (by first | exact ⟨by simp, by simp; omega, by simp⟩ | (simp; omega)) rfl ?_
      | refine r_append tab_ok rfl rfl rfl rfl rfl rfl rfl rfl rfl (by first | omega | (simp; omega)) rfl ?_
      | refine r_append_nil tab_ok rfl rfl rfl rfl rfl rfl rfl rfl (by first | omega | (simp; omega)) rfl ?_)
    | refine ret1 (by first | exact .inl rfl | exact .inr rfl) rfl rfl rfl ?_
    | refine ret1_row (by first | exact .inl rfl | exact .inr rfl) rfl rfl rfl ?_
    | refine ret2 (by first | exact .inl rfl | exact .inr rfl) rfl rfl rfl rfl ?_ ?_
    | refine retM1 (by first | exact .inl rfl | exact .inr rfl) rfl rfl rfl rfl rfl ?_
    | exact retM0 (by first | exact .inl rfl | exact .inr rfl) rfl rfl rfl
    | refine awp_cond_t rfl ?_
    | refine awp_cond_f rfl ?_)
theorem check_ptr (l : List UInt8) : MCalls Try.prog 28 [.box 41 [.ptr 0 0, .row 1 0], .row 0 5 1 (l.map bD)] [.ptr 0 0] [.box 41 [.ptr 0 0, .row 1 0], .row 0 5 1 (l.map bD)] (.tup []) := by
  refine m_start Try.func28 Try.ntmps28 rfl rfl rfl fun S w β => ?_
  repeat (first
    | refine awp_seq ?_
    | refine thenA_normal ?_
    | refine awp_block ?_
    | refine a_region ?_
    | refine a_draw1 mixed_ok (by kernel_rfl) ?_
    | refine awp_ret ?_
    | refine awp_exit ?_
    | refine thenA_exit ?_
    | refine thenA_ret ?_
    | refine blockA_normal ?_
    | refine blockA_ret ?_
    | refine blockA_hit rfl ?_
    | refine blockA_miss rfl ?_
    | refine awp_skip ?_
    | refine r_done ?_
    | refine r_done' ?_
    | (refine r_id ?_; first
      | refine r_len tab_ok rfl rfl rfl rfl rfl rfl rfl ?_
      | refine r_ev tab_ok rfl rfl rfl rfl (by first | exact trivial | exact ⟨by omega, by omega⟩ | omega | exact ⟨by omega, by omega, by omega, by omega⟩ | exact Nat.le_of_ble_eq_true rfl) rfl ?_
      | refine r_ld tab_ok rfl rfl rfl rfl rfl ?_
      | refine r_idx tab_ok rfl rfl rfl rfl rfl rfl rfl (by first | exact ⟨by omega, by omega⟩ | (simp; omega)) rfl rfl ?_
      | refine r_idxd tab_ok rfl rfl rfl rfl rfl rfl rfl (by decide) rfl rfl rfl ?_
      | refine r_wr tab_ok rfl rfl rfl rfl rfl ?_
      | refine r_st tab_ok rfl rfl rfl rfl ?_
      | refine r_len_cnd tab_ok rfl rfl rfl rfl rfl rfl (by first | exact fun _ => rfl | exact cs1) rfl rfl rfl ?_
      | refine r_ev_cnd tab_ok rfl rfl rfl rfl rfl rfl (by first | exact fun _ => rfl | exact cs1 | exact cs2 | exact cs3) (by first | exact fun _ => trivial | (intro h; simp at h; first | exact ⟨by omega, by omega⟩ | omega)) rfl ?_
      | refine r_ld_cnd tab_ok rfl rfl rfl rfl rfl rfl (by first | exact fun _ => rfl | exact cs1 | exact cs2 | exact cs3) rfl ?_
      | refine r_idx_cnd tab_ok rfl rfl rfl rfl rfl rfl rfl (by first | exact fun _ => rfl | exact cs1 | exact cs2) rfl rfl (by exact ⟨by omega, by omega⟩) rfl rfl ?_
      | refine r_idx_cnd' tab_ok rfl rfl rfl rfl rfl rfl rfl (by first | exact fun _ => rfl | exact cs1 | exact cs2) rfl rfl (by intro h; simp at h; exact ⟨by omega, by omega⟩) rfl rfl ?_
      | refine r_and_cnd rfl rfl rfl rfl rfl rfl rfl rfl rfl rfl ?_
      | refine r_or_cnd rfl rfl rfl rfl rfl rfl rfl rfl rfl rfl ?_
      | refine r_or rfl rfl rfl rfl rfl rfl rfl rfl ?_
      | refine r_and rfl rfl rfl rfl rfl rfl rfl rfl ?_
      | refine r_pick_t rfl rfl rfl rfl rfl rfl rfl ?_
      | refine r_pick_f rfl rfl rfl rfl rfl rfl rfl ?_
      | refine r_off rfl rfl rfl rfl rfl rfl ?_
      | refine r_len_on tab_ok rfl rfl rfl rfl rfl rfl rfl rfl rfl ?_
      | refine r_ev_on tab_ok rfl rfl rfl rfl rfl rfl (by first | exact trivial | exact ⟨by omega, by omega⟩ | omega) rfl ?_
      | refine r_ld_on tab_ok rfl rfl rfl rfl rfl rfl rfl ?_
      | refine r_build tab_ok rfl rfl rfl rfl rfl rfl ?_
      | refine r_bstr tab_ok rfl rfl rfl rfl rfl rfl rfl rfl rfl rfl ?_
      | refine r_build_cnd tab_ok rfl rfl rfl rfl rfl (by first | exact fun _ => rfl | exact cs1) rfl rfl rfl ?_
      | refine r_built_cnd tab_ok rfl rfl rfl rfl rfl rfl rfl rfl (by first | exact fun _ => rfl | exact cs1) rfl rfl rfl ?_
      | refine r_rem rfl rfl rfl rfl rfl rfl (by omega) rfl ?_
      | refine r_built0 tab_ok rfl rfl rfl rfl rfl rfl rfl ?_
      | refine r_built tab_ok rfl rfl rfl rfl rfl rfl rfl rfl rfl ?_
      | refine r_range tab_ok rfl rfl rfl rfl rfl rfl rfl ?_
      | refine r_next rfl rfl rfl rfl (by assumption) rfl rfl rfl ?_
      | refine r_next_end rfl rfl rfl rfl (by assumption) rfl rfl rfl ?_
      | refine r_nilck rfl rfl rfl rfl rfl rfl rfl ?_
      | refine r_rstr tab_ok rfl rfl rfl rfl rfl rfl rfl rfl ?_
      | refine r_rsstr tab_ok rfl rfl rfl rfl rfl rfl rfl rfl rfl rfl ?_
      | refine r_bstr' tab_ok rfl rfl rfl rfl rfl rfl rfl rfl rfl ?_
      | refine r_rowstr tab_ok rfl rfl rfl rfl rfl rfl rfl rfl rfl rfl ?_
      | refine r_strd tab_ok rfl rfl rfl rfl rfl rfl (by omega) rfl rfl rfl ?_
      | refine r_idxr tab_ok rfl rfl rfl rfl rfl rfl rfl rfl (by first | exact ⟨by omega, by omega⟩ | (simp; omega)) rfl ?_
      | refine r_lde tab_ok rfl rfl rfl rfl rfl (by omega) rfl rfl rfl rfl ?_
      | refine r_idxr_cnd tab_ok rfl rfl rfl rfl rfl rfl rfl rfl (by first | exact fun _ => rfl | exact cs1 | exact cs2) rfl rfl (by first | (intro _; exact ⟨by omega, by omega⟩) | (intro h; simp at h ⊢; omega)) rfl ?_
      | refine r_lde_cnd tab_ok rfl rfl rfl rfl rfl rfl rfl (by first | exact fun _ => rfl | exact cs1 | exact cs2) (by omega) rfl rfl rfl rfl ?_
      | refine r_cut tab_ok rfl rfl rfl rfl rfl rfl rfl rfl (by first | exact ⟨by simp, by simp; omega, by simp⟩ | (simp; omega)) rfl ?_
      | refine r_append tab_ok rfl rfl rfl rfl rfl rfl rfl rfl rfl (by first | omega | (simp; omega)) rfl ?_
      | refine r_append_nil tab_ok rfl rfl rfl rfl rfl rfl rfl rfl (by first | omega | (simp; omega)) rfl ?_)
    | refine ret1 (by first | exact .inl rfl | exact .inr rfl) rfl rfl rfl ?_
    | refine ret1_row (by first | exact .inl rfl | exact .inr rfl) rfl rfl rfl ?_
    | refine ret2 (by first | exact .inl rfl | exact .inr rfl) rfl rfl rfl rfl ?_ ?_
    | refine retM1 (by first | exact .inl rfl | exact .inr rfl) rfl rfl rfl rfl rfl ?_
    | exact retM0 (by first | exact .inl rfl | exact .inr rfl) rfl rfl rfl
    | refine awp_cond_t rfl ?_
    | refine awp_cond_f rfl ?_)
  refine r_by (fun _ => astep_eqnil_ptr under39 rfl rfl rfl) rfl rfl rfl rfl rfl ?_
  repeat (first
    | refine awp_seq ?_
    | refine thenA_normal ?_
    | refine awp_block ?_
    | refine a_region ?_
    | refine a_draw1 mixed_ok (by kernel_rfl) ?_
    | refine awp_ret ?_
    | refine awp_exit ?_
    | refine thenA_exit ?_
    | refine thenA_ret ?_
    | refine blockA_normal ?_
    | refine blockA_ret ?_
    | refine blockA_hit rfl ?_
    | refine blockA_miss rfl ?_
    | refine awp_skip ?_
    | refine r_done ?_
    | refine r_done' ?_
    | (refine r_id ?_; first
      | refine r_len tab_ok rfl rfl rfl rfl rfl rfl rfl ?_
      | refine r_ev tab_ok rfl rfl rfl rfl (by first | exact trivial | exact ⟨by omega, by omega⟩ | omega | exact ⟨by omega, by omega, by omega, by omega⟩ | exact Nat.le_of_ble_eq_true rfl) rfl ?_
      | refine r_ld tab_ok rfl rfl rfl rfl rfl ?_
      | refine r_idx tab_ok rfl rfl rfl rfl rfl rfl rfl (by first | exact ⟨by omega, by omega⟩ | (simp; omega)) rfl rfl ?_
      | refine r_idxd tab_ok rfl rfl rfl rfl rfl rfl rfl (by decide) rfl rfl rfl ?_
      | refine r_wr tab_ok rfl rfl rfl rfl rfl ?_
      | refine r_st tab_ok rfl rfl rfl rfl ?_
      | refine r_len_cnd tab_ok rfl rfl rfl rfl rfl rfl (by first | exact fun _ => rfl | exact cs1) rfl rfl rfl ?_
      | refine r_ev_cnd tab_ok rfl rfl rfl rfl rfl rfl (by first | exact fun _ => rfl | exact cs1 | exact cs2 | exact cs3) (by first | exact fun _ => trivial | (intro h; simp at h; first | exact ⟨by omega, by omega⟩ | omega)) rfl ?_
      | refine r_ld_cnd tab_ok rfl rfl rfl rfl rfl rfl (by first | exact fun _ => rfl | exact cs1 | exact cs2 | exact cs3) rfl ?_
      | refine r_idx_cnd tab_ok rfl rfl rfl rfl rfl rfl rfl (by first | exact fun _ => rfl | exact cs1 | exact cs2) rfl rfl (by exact ⟨by omega, by omega⟩) rfl rfl ?_
      | refine r_idx_cnd' tab_ok rfl rfl rfl rfl rfl rfl rfl (by first | exact fun _ => rfl | exact cs1 | exact cs2) rfl rfl (by intro h; simp at h; exact ⟨by omega, by omega⟩) rfl rfl ?_
      | refine r_and_cnd rfl rfl rfl rfl rfl rfl rfl rfl rfl rfl ?_
      | refine r_or_cnd rfl rfl rfl rfl rfl rfl rfl rfl rfl rfl ?_
      | refine r_or rfl rfl rfl rfl rfl rfl rfl rfl ?_
      | refine r_and rfl rfl rfl rfl rfl rfl rfl rfl ?_
      | refine r_pick_t rfl rfl rfl rfl rfl rfl rfl ?_
      | refine r_pick_f rfl rfl rfl rfl rfl rfl rfl ?_
      | refine r_off rfl rfl rfl rfl rfl rfl ?_
      | refine r_len_on tab_ok rfl rfl rfl rfl rfl rfl rfl rfl rfl ?_
      | refine r_ev_on tab_ok rfl rfl rfl rfl rfl rfl (by first | exact trivial | exact ⟨by omega, by omega⟩ | omega) rfl ?_
      | refine r_ld_on tab_ok rfl rfl rfl rfl rfl rfl rfl ?_
      | refine r_build tab_ok rfl rfl rfl rfl rfl rfl ?_
      | refine r_bstr tab_ok rfl rfl rfl rfl rfl rfl rfl rfl rfl rfl ?_
      | refine r_build_cnd tab_ok rfl rfl rfl rfl rfl (by first | exact fun _ => rfl | exact cs1) rfl rfl rfl ?_
      | refine r_built_cnd tab_ok rfl rfl rfl rfl rfl rfl rfl rfl (by first | exact fun _ => rfl | exact cs1) rfl rfl rfl ?_
      | refine r_rem rfl rfl rfl rfl rfl rfl (by omega) rfl ?_
      | refine r_built0 tab_ok rfl rfl rfl rfl rfl rfl rfl ?_
      | refine r_built tab_ok rfl rfl rfl rfl rfl rfl rfl rfl rfl ?_
      | refine r_range tab_ok rfl rfl rfl rfl rfl rfl rfl ?_
      | refine r_next rfl rfl rfl rfl (by assumption) rfl rfl rfl ?_
      | refine r_next_end rfl rfl rfl rfl (by assumption) rfl rfl rfl ?_
      | refine r_nilck rfl rfl rfl rfl rfl rfl rfl ?_
      | refine r_rstr tab_ok rfl rfl rfl rfl rfl rfl rfl rfl ?_
      | refine r_rsstr tab_ok rfl rfl rfl rfl rfl rfl rfl rfl rfl rfl ?_
      | refine r_bstr' tab_ok rfl rfl rfl rfl rfl rfl rfl rfl rfl ?_
      | refine r_rowstr tab_ok rfl rfl rfl rfl rfl rfl rfl rfl rfl rfl ?_
      | refine r_strd tab_ok rfl rfl rfl rfl rfl rfl (by omega) rfl rfl rfl ?_
      | refine r_idxr tab_ok rfl rfl rfl rfl rfl rfl rfl rfl (by first | exact ⟨by omega, by omega⟩ | (simp; omega)) rfl ?_
      | refine r_lde tab_ok rfl rfl rfl rfl rfl (by omega) rfl rfl rfl rfl ?_
      | refine r_idxr_cnd tab_ok rfl rfl rfl rfl rfl rfl rfl rfl (by first | exact fun _ => rfl | exact cs1 | exact cs2) rfl rfl (by first | (intro _; exact ⟨by omega, by omega⟩) | (intro h; simp at h ⊢; omega)) rfl ?_
      | refine r_lde_cnd tab_ok rfl rfl rfl rfl rfl rfl rfl (by first | exact fun _ => rfl | exact cs1 | exact cs2) (by omega) rfl rfl rfl rfl ?_
      | refine r_cut tab_ok rfl rfl rfl rfl rfl rfl rfl rfl (by first | exact ⟨by simp, by simp; omega, by simp⟩ | (simp; omega)) rfl ?_
      | refine r_append tab_ok rfl rfl rfl rfl rfl rfl rfl rfl rfl (by first | omega | (simp; omega)) rfl ?_
      | refine r_append_nil tab_ok rfl rfl rfl rfl rfl rfl rfl rfl (by first | omega | (simp; omega)) rfl ?_)
    | refine ret1 (by first | exact .inl rfl | exact .inr rfl) rfl rfl rfl ?_
    | refine ret1_row (by first | exact .inl rfl | exact .inr rfl) rfl rfl rfl ?_
    | refine ret2 (by first | exact .inl rfl | exact .inr rfl) rfl rfl rfl rfl ?_ ?_
    | refine retM1 (by first | exact .inl rfl | exact .inr rfl) rfl rfl rfl rfl rfl ?_
    | exact retM0 (by first | exact .inl rfl | exact .inr rfl) rfl rfl rfl
    | refine awp_cond_t rfl ?_
    | refine awp_cond_f rfl ?_)
  refine r_by (fun _ => astep_neqself tab_ok under39 rfl rfl rfl rfl) rfl rfl rfl rfl rfl ?_
  repeat (first
    | refine awp_seq ?_
    | refine thenA_normal ?_
    | refine awp_block ?_
    | refine a_region ?_
    | refine a_draw1 mixed_ok (by kernel_rfl) ?_
    | refine awp_ret ?_
    | refine awp_exit ?_
    | refine thenA_exit ?_
    | refine thenA_ret ?_
    | refine blockA_normal ?_
    | refine blockA_ret ?_
    | refine blockA_hit rfl ?_
    | refine blockA_miss rfl ?_
    | refine awp_skip ?_
    | refine r_done ?_
    | refine r_done' ?_
    | (refine r_id ?_; first
      | refine r_len tab_ok rfl rfl rfl rfl rfl rfl rfl ?_
      | refine r_ev tab_ok rfl rfl rfl rfl (by first | exact trivial | exact ⟨by omega, by omega⟩ | omega | exact ⟨by omega, by omega, by omega, by omega⟩ | exact Nat.le_of_ble_eq_true rfl) rfl ?_
      | refine r_ld tab_ok rfl rfl rfl rfl rfl ?_
      | refine r_idx tab_ok rfl rfl rfl rfl rfl rfl rfl (by first | exact ⟨by omega, by omega⟩ | (simp; omega)) rfl rfl ?_
      | refine r_idxd tab_ok rfl rfl rfl rfl rfl rfl rfl (by decide) rfl rfl rfl ?_
      | refine r_wr tab_ok rfl rfl rfl rfl rfl ?_
      | refine r_st tab_ok rfl rfl rfl rfl ?_
      | refine r_len_cnd tab_ok rfl rfl rfl rfl rfl rfl (by first | exact fun _ => rfl | exact cs1) rfl rfl rfl ?_
      | refine r_ev_cnd tab_ok rfl rfl rfl rfl rfl rfl (by first | exact fun _ => rfl | exact cs1 | exact cs2 | exact cs3) (by first | exact fun _ => trivial | (intro h; simp at h; first | exact ⟨by omega, by omega⟩ | omega)) rfl ?_
      | refine r_ld_cnd tab_ok rfl rfl rfl rfl rfl rfl (by first | exact fun _ => rfl | exact cs1 | exact cs2 | exact cs3) rfl ?_
      | refine r_idx_cnd tab_ok rfl rfl rfl rfl rfl rfl rfl (by first | exact fun _ => rfl | exact cs1 | exact cs2) rfl rfl (by exact ⟨by omega, by omega⟩) rfl rfl ?_
      | refine r_idx_cnd' tab_ok rfl rfl rfl rfl rfl rfl rfl (by first | exact fun _ => rfl | exact cs1 | exact cs2) rfl rfl (by intro h; simp at h; exact ⟨by omega, by omega⟩) rfl rfl ?_
      | refine r_and_cnd rfl rfl rfl rfl rfl rfl rfl rfl rfl rfl ?_
      | refine r_or_cnd rfl rfl rfl rfl rfl rfl rfl rfl rfl rfl ?_
      | refine r_or rfl rfl rfl rfl rfl rfl rfl rfl ?_
      | refine r_and rfl rfl rfl rfl rfl rfl rfl rfl ?_
      | refine r_pick_t rfl rfl rfl rfl rfl rfl rfl ?_
      | refine r_pick_f rfl rfl rfl rfl rfl rfl rfl ?_
      | refine r_off rfl rfl rfl rfl rfl rfl ?_
      | refine r_len_on tab_ok rfl rfl rfl rfl rfl rfl rfl rfl rfl ?_
      | refine r_ev_on tab_ok rfl rfl rfl rfl rfl rfl (by first | exact trivial | exact ⟨by omega, by omega⟩ | omega) rfl ?_
      | refine r_ld_on tab_ok rfl rfl rfl rfl rfl rfl rfl ?_
      | refine r_build tab_ok rfl rfl rfl rfl rfl rfl ?_
      | refine r_bstr tab_ok rfl rfl rfl rfl rfl rfl rfl rfl rfl rfl ?_
      | refine r_build_cnd tab_ok rfl rfl rfl rfl rfl (by first | exact fun _ => rfl | exact cs1) rfl rfl rfl ?_
      | refine r_built_cnd tab_ok rfl rfl rfl rfl rfl rfl rfl rfl (by first | exact fun _ => rfl | exact cs1) rfl rfl rfl ?_
      | refine r_rem rfl rfl rfl rfl rfl rfl (by omega) rfl ?_
      | refine r_built0 tab_ok rfl rfl rfl rfl rfl rfl rfl ?_
      | refine r_built tab_ok rfl rfl rfl rfl rfl rfl rfl rfl rfl ?_
      | refine r_range tab_ok rfl rfl rfl rfl rfl rfl rfl ?_
      | refine r_next rfl rfl rfl rfl (by assumption) rfl rfl rfl ?_
      | refine r_next_end rfl rfl rfl rfl (by assumption) rfl rfl rfl ?_
      | refine r_nilck rfl rfl rfl rfl rfl rfl rfl ?_
      | refine r_rstr tab_ok rfl rfl rfl rfl rfl rfl rfl rfl ?_
      | refine r_rsstr tab_ok rfl rfl rfl rfl rfl rfl rfl rfl rfl rfl ?_
      | refine r_bstr' tab_ok rfl rfl rfl rfl rfl rfl rfl rfl rfl ?_
      | refine r_rowstr tab_ok rfl rfl rfl rfl rfl rfl rfl rfl rfl rfl ?_
      | refine r_strd tab_ok rfl rfl rfl rfl rfl rfl (by omega) rfl rfl rfl ?_
      | refine r_idxr tab_ok rfl rfl rfl rfl rfl rfl rfl rfl (by first | exact ⟨by omega, by omega⟩ | (simp; omega)) rfl ?_
      | refine r_lde tab_ok rfl rfl rfl rfl rfl (by omega) rfl rfl rfl rfl ?_
      | refine r_idxr_cnd tab_ok rfl rfl rfl rfl rfl rfl rfl rfl (by first | exact fun _ => rfl | exact cs1 | exact cs2) rfl rfl (by first | (intro _; exact ⟨by omega, by omega⟩) | (intro h; simp at h ⊢; omega)) rfl ?_
      | refine r_lde_cnd tab_ok rfl rfl rfl rfl rfl rfl rfl (by first | exact fun _ => rfl | exact cs1 | exact cs2) (by omega) rfl rfl rfl rfl ?_
      | refine r_cut tab_ok rfl rfl rfl rfl rfl rfl rfl rfl (by first | exact ⟨by simp, by simp; omega, by simp⟩ | (simp; omega)) rfl ?_
      | refine r_append tab_ok rfl rfl rfl rfl rfl rfl rfl rfl rfl (by first | omega | (simp; omega)) rfl ?_
      | refine r_append_nil tab_ok rfl rfl rfl rfl rfl rfl rfl rfl (by first | omega | (simp; omega)) rfl ?_)
    | refine ret1 (by first | exact .inl rfl | exact .inr rfl) rfl rfl rfl ?_
    | refine ret1_row (by first | exact .inl rfl | exact .inr rfl) rfl rfl rfl ?_
    | refine ret2 (by first | exact .inl rfl | exact .inr rfl) rfl rfl rfl rfl ?_ ?_
    | refine retM1 (by first | exact .inl rfl | exact .inr rfl) rfl rfl rfl rfl rfl ?_
    | exact retM0 (by first | exact .inl rfl | exact .inr rfl) rfl rfl rfl
    | refine awp_cond_t rfl ?_
    | refine awp_cond_f rfl ?_)
theorem check_ok (l : List UInt8) : MCalls Try.prog 28 [.box 41 [selfP, .row 1 0], .row 0 5 1 (l.map bD)] [.ptr 0 0] [.box 41 [selfP, .row 1 0], .row 0 5 1 (l.map bD)] (.tup []) := mcall_self (check_nil l) (check_ptr l)

/-- (*strings.Builder).WriteByte. -/
theorem write_ok (l : List UInt8) (c : UInt8) (hl : l.length ≤ 70368744177664) : MCalls Try.prog 26 [.box 41 [selfP, .row 1 0], .row 0 5 1 (l.map bD)] [.ptr 0 0, .val (.int .u8 c.toNat)] [.box 41 [selfP, .row 1 1], .row 1 5 1 ((l ++ [c]).map bD)] (.val .nilIface) := by
  rw [List.map_append]
  refine m_start Try.func26 Try.ntmps26 rfl rfl rfl fun S w β => ?_
  repeat (first
    | refine awp_seq ?_
    | refine thenA_normal ?_
    | refine awp_block ?_
    | refine a_region ?_
    | refine a_draw1 mixed_ok (by kernel_rfl) ?_
    | refine awp_ret ?_
    | refine awp_exit ?_
    | refine thenA_exit ?_
    | refine thenA_ret ?_
    | refine blockA_normal ?_
    | refine blockA_ret ?_
    | refine blockA_hit rfl ?_
    | refine blockA_miss rfl ?_
    | refine awp_skip ?_
    | refine r_done ?_
    | refine r_done' ?_
    | (refine r_id ?_; first
      | refine r_len tab_ok rfl rfl rfl rfl rfl rfl rfl ?_
      | refine r_ev tab_ok rfl rfl rfl rfl (by first | exact trivial | exact ⟨by omega, by omega⟩ | omega | exact ⟨by omega, by omega, by omega, by omega⟩ | exact Nat.le_of_ble_eq_true rfl) rfl ?_
      | refine r_ld tab_ok rfl rfl rfl rfl rfl ?_
      | refine r_idx tab_ok rfl rfl rfl rfl rfl rfl rfl (by first | exact ⟨by omega, by omega⟩ | (simp; omega)) rfl rfl ?_
      | refine r_idxd tab_ok rfl rfl rfl rfl rfl rfl rfl (by decide) rfl rfl rfl ?_
      | refine r_wr tab_ok rfl rfl rfl rfl rfl ?_
      | refine r_st tab_ok rfl rfl rfl rfl ?_
      | refine r_len_cnd tab_ok rfl rfl rfl rfl rfl rfl (by first | exact fun _ => rfl | exact cs1) rfl rfl rfl ?_
      | refine r_ev_cnd tab_ok rfl rfl rfl rfl rfl rfl (by first | exact fun _ => rfl | exact cs1 | exact cs2 | exact cs3) (by first | exact fun _ => trivial | (intro h; simp at h; first | exact ⟨by omega, by omega⟩ | omega)) rfl ?_
      | refine r_ld_cnd tab_ok rfl rfl rfl rfl rfl rfl (by first | exact fun _ => rfl | exact cs1 | exact cs2 | exact cs3) rfl ?_
      | refine r_idx_cnd tab_ok rfl rfl rfl rfl rfl rfl rfl (by first | exact fun _ => rfl | exact cs1 | exact cs2) rfl rfl (by exact ⟨by omega, by omega⟩) rfl rfl ?_
      | refine r_idx_cnd' tab_ok rfl rfl rfl rfl rfl rfl rfl (by first | exact fun _ => rfl | exact cs1 | exact cs2) rfl rfl (by intro h; simp at h; exact ⟨by omega, by omega⟩) rfl rfl ?_
      | refine r_and_cnd rfl rfl rfl rfl rfl rfl rfl rfl rfl rfl ?_
      | refine r_or_cnd rfl rfl rfl rfl rfl rfl rfl rfl rfl rfl ?_
      | refine r_or rfl rfl rfl rfl rfl rfl rfl rfl ?_
      | refine r_and rfl rfl rfl rfl rfl rfl rfl rfl ?_
      | refine r_pick_t rfl rfl rfl rfl rfl rfl rfl ?_
      | refine r_pick_f rfl rfl rfl rfl rfl rfl rfl ?_
      | refine r_off rfl rfl rfl rfl rfl rfl ?_
      | refine r_len_on tab_ok rfl rfl rfl rfl rfl rfl rfl rfl rfl ?_
      | refine r_ev_on tab_ok rfl rfl rfl rfl rfl rfl (by first | exact trivial | exact ⟨by omega, by omega⟩ | omega) rfl ?_
      | refine r_ld_on tab_ok rfl rfl rfl rfl rfl rfl rfl ?_
      | refine r_build tab_ok rfl rfl rfl rfl rfl rfl ?_
      | refine r_bstr tab_ok rfl rfl rfl rfl rfl rfl rfl rfl rfl rfl ?_
      | refine r_build_cnd tab_ok rfl rfl rfl rfl rfl (by first | exact fun _ => rfl | exact cs1) rfl rfl rfl ?_
      | refine r_built_cnd tab_ok rfl rfl rfl rfl rfl rfl rfl rfl (by first | exact fun _ => rfl | exact cs1) rfl rfl rfl ?_
      | refine r_rem rfl rfl rfl rfl rfl rfl (by omega) rfl ?_
      | refine r_built0 tab_ok rfl rfl rfl rfl rfl rfl rfl ?_
      | refine r_built tab_ok rfl rfl rfl rfl rfl rfl rfl rfl rfl ?_
      | refine r_range tab_ok rfl rfl rfl rfl rfl rfl rfl ?_
      | refine r_next rfl rfl rfl rfl (by assumption) rfl rfl rfl ?_
      | refine r_next_end rfl rfl rfl rfl (by assumption) rfl rfl rfl ?_
      | refine r_nilck rfl rfl rfl rfl rfl rfl rfl ?_
      | refine r_rstr tab_ok rfl rfl rfl rfl rfl rfl rfl rfl ?_
      | refine r_rsstr tab_ok rfl rfl rfl rfl rfl rfl rfl rfl rfl rfl ?_
      | refine r_bstr' tab_ok rfl rfl rfl rfl rfl rfl rfl rfl rfl ?_
      | refine r_rowstr tab_ok rfl rfl rfl rfl rfl rfl rfl rfl rfl rfl ?_
      | refine r_strd tab_ok rfl rfl rfl rfl rfl rfl (by omega) rfl rfl rfl ?_
      | refine r_idxr tab_ok rfl rfl rfl rfl rfl rfl rfl rfl (by first | exact ⟨by omega, by omega⟩ | (simp; omega)) rfl ?_
      | refine r_lde tab_ok rfl rfl rfl rfl rfl (by omega) rfl rfl rfl rfl ?_
      | refine r_idxr_cnd tab_ok rfl rfl rfl rfl rfl rfl rfl rfl (by first | exact fun _ => rfl | exact cs1 | exact cs2) rfl rfl (by first | (intro _; exact ⟨by omega, by omega⟩) | (intro h; simp at h ⊢; omega)) rfl ?_
      | refine r_lde_cnd tab_ok rfl rfl rfl rfl rfl rfl rfl (by first | exact fun _ => rfl | exact cs1 | exact cs2) (by omega) rfl rfl rfl rfl ?_
      | refine r_cut tab_ok rfl rfl rfl rfl rfl rfl rfl rfl (by first | exact ⟨by simp, by simp; omega, by simp⟩ | (simp; omega)) rfl ?_
      | refine r_append tab_ok rfl rfl rfl rfl rfl rfl rfl rfl rfl (by first | omega | (simp; omega)) rfl ?_
      | refine r_append_nil tab_ok rfl rfl rfl rfl rfl rfl rfl rfl (by first | omega | (simp; omega)) rfl ?_)
    | refine ret1 (by first | exact .inl rfl | exact .inr rfl) rfl rfl rfl ?_
    | refine ret1_row (by first | exact .inl rfl | exact .inr rfl) rfl rfl rfl ?_
    | refine ret2 (by first | exact .inl rfl | exact .inr rfl) rfl rfl rfl rfl ?_ ?_
    | refine retM1 (by first | exact .inl rfl | exact .inr rfl) rfl rfl rfl rfl rfl ?_
    | exact retM0 (by first | exact .inl rfl | exact .inr rfl) rfl rfl rfl
    | refine awp_cond_t rfl ?_
    | refine awp_cond_f rfl ?_)
  refine r_mcall [0, 1] (check_ok l) call28 rfl rfl ⟨rfl, rfl, trivial⟩ (by decide) ⟨Sub.refl _, trivial⟩ rfl rfl rfl rfl rfl rfl rfl ?_
  repeat (first
    | refine awp_seq ?_
    | refine thenA_normal ?_
    | refine awp_block ?_
    | refine a_region ?_
    | refine a_draw1 mixed_ok (by kernel_rfl) ?_
    | refine awp_ret ?_
    | refine awp_exit ?_
    | refine thenA_exit ?_
    | refine thenA_ret ?_
    | refine blockA_normal ?_
    | refine blockA_ret ?_
    | refine blockA_hit rfl ?_
    | refine blockA_miss rfl ?_
    | refine awp_skip ?_
    | refine r_done ?_
    | refine r_done' ?_
    | (refine r_id ?_; first
      | refine r_len tab_ok rfl rfl rfl rfl rfl rfl rfl ?_
      | refine r_ev tab_ok rfl rfl rfl rfl (by first | exact trivial | exact ⟨by omega, by omega⟩ | omega | exact ⟨by omega, by omega, by omega, by omega⟩ | exact Nat.le_of_ble_eq_true rfl) rfl ?_
      | refine r_ld tab_ok rfl rfl rfl rfl rfl ?_
      | refine r_idx tab_ok rfl rfl rfl rfl rfl rfl rfl (by first | exact ⟨by omega, by omega⟩ | (simp; omega)) rfl rfl ?_
      | refine r_idxd tab_ok rfl rfl rfl rfl rfl rfl rfl (by decide) rfl rfl rfl ?_
      | refine r_wr tab_ok rfl rfl rfl rfl rfl ?_
      | refine r_st tab_ok rfl rfl rfl rfl ?_
      | refine r_len_cnd tab_ok rfl rfl rfl rfl rfl rfl (by first | exact fun _ => rfl | exact cs1) rfl rfl rfl ?_
      | refine r_ev_cnd tab_ok rfl rfl rfl rfl rfl rfl (by first | exact fun _ => rfl | exact cs1 | exact cs2 | exact cs3) (by first | exact fun _ => trivial | (intro h; simp at h; first | exact ⟨by omega, by omega⟩ | omega)) rfl ?_
      | refine r_ld_cnd tab_ok rfl rfl rfl rfl rfl rfl (by first | exact fun _ => rfl | exact cs1 | exact cs2 | exact cs3) rfl ?_
      | refine r_idx_cnd tab_ok rfl rfl rfl rfl rfl rfl rfl (by first | exact fun _ => rfl | exact cs1 | exact cs2) rfl rfl (by exact ⟨by omega, by omega⟩) rfl rfl ?_
      | refine r_idx_cnd' tab_ok rfl rfl rfl rfl rfl rfl rfl (by first | exact fun _ => rfl | exact cs1 | exact cs2) rfl rfl (by intro h; simp at h; exact ⟨by omega, by omega⟩) rfl rfl ?_
      | refine r_and_cnd rfl rfl rfl rfl rfl rfl rfl rfl rfl rfl ?_
      | refine r_or_cnd rfl rfl rfl rfl rfl rfl rfl rfl rfl rfl ?_
      | refine r_or rfl rfl rfl rfl rfl rfl rfl rfl ?_
      | refine r_and rfl rfl rfl rfl rfl rfl rfl rfl ?_
      | refine r_pick_t rfl rfl rfl rfl rfl rfl rfl ?_
      | refine r_pick_f rfl rfl rfl rfl rfl rfl rfl ?_
      | refine r_off rfl rfl rfl rfl rfl rfl ?_
      | refine r_len_on tab_ok rfl rfl rfl rfl rfl rfl rfl rfl rfl ?_
      | refine r_ev_on tab_ok rfl rfl rfl rfl rfl rfl (by first | exact trivial | exact ⟨by omega, by omega⟩ | omega) rfl ?_
      | refine r_ld_on tab_ok rfl rfl rfl rfl rfl rfl rfl ?_
      | refine r_build tab_ok rfl rfl rfl rfl rfl rfl ?_
      | refine r_bstr tab_ok rfl rfl rfl rfl rfl rfl rfl rfl rfl rfl ?_
      | refine r_build_cnd tab_ok rfl rfl rfl rfl rfl (by first | exact fun _ => rfl | exact cs1) rfl rfl rfl ?_
      | refine r_built_cnd tab_ok rfl rfl rfl rfl rfl rfl rfl rfl (by first | exact fun _ => rfl | exact cs1) rfl rfl rfl ?_
      | refine r_rem rfl rfl rfl rfl rfl rfl (by omega) rfl ?_
      | refine r_built0 tab_ok rfl rfl rfl rfl rfl rfl rfl ?_
      | refine r_built tab_ok rfl rfl rfl rfl rfl rfl rfl rfl rfl ?_
      | refine r_range tab_ok rfl rfl rfl rfl rfl rfl rfl ?_
      | refine r_next rfl rfl rfl rfl (by assumption) rfl rfl rfl ?_
      | refine r_next_end rfl rfl rfl rfl (by assumption) rfl rfl rfl ?_
      | refine r_nilck rfl rfl rfl rfl rfl rfl rfl ?_
      | refine r_rstr tab_ok rfl rfl rfl rfl rfl rfl rfl rfl ?_
      | refine r_rsstr tab_ok rfl rfl rfl rfl rfl rfl rfl rfl rfl rfl ?_
      | refine r_bstr' tab_ok rfl rfl rfl rfl rfl rfl rfl rfl rfl ?_
      | refine r_rowstr tab_ok rfl rfl rfl rfl rfl rfl rfl rfl rfl rfl ?_
      | refine r_strd tab_ok rfl rfl rfl rfl rfl rfl (by omega) rfl rfl rfl ?_
      | refine r_idxr tab_ok rfl rfl rfl rfl rfl rfl rfl rfl (by first | exact ⟨by omega, by omega⟩ | (simp; omega)) rfl ?_
      | refine r_lde tab_ok rfl rfl rfl rfl rfl (by omega) rfl rfl rfl rfl ?_
      | refine r_idxr_cnd tab_ok rfl rfl rfl rfl rfl rfl rfl rfl (by first | exact fun _ => rfl | exact cs1 | exact cs2) rfl rfl (by first | (intro _; exact ⟨by omega, by omega⟩) | (intro h; simp at h ⊢; omega)) rfl ?_
      | refine r_lde_cnd tab_ok rfl rfl rfl rfl rfl rfl rfl (by first | exact fun _ => rfl | exact cs1 | exact cs2) (by omega) rfl rfl rfl rfl ?_
      | refine r_cut tab_ok rfl rfl rfl rfl rfl rfl rfl rfl (by first | exact ⟨by simp, by simp; omega, by simp⟩ | (simp; omega)) rfl ?_
      | refine r_append tab_ok rfl rfl rfl rfl rfl rfl rfl rfl rfl (by first | omega | (simp; omega)) rfl ?_
      | refine r_append_nil tab_ok rfl rfl rfl rfl rfl rfl rfl rfl (by first | omega | (simp; omega)) rfl ?_)
    | refine ret1 (by first | exact .inl rfl | exact .inr rfl) rfl rfl rfl ?_
    | refine ret1_row (by first | exact .inl rfl | exact .inr rfl) rfl rfl rfl ?_
    | refine ret2 (by first | exact .inl rfl | exact .inr rfl) rfl rfl rfl rfl ?_ ?_
    | refine retM1 (by first | exact .inl rfl | exact .inr rfl) rfl rfl rfl rfl rfl ?_
    | exact retM0 (by first | exact .inl rfl | exact .inr rfl) rfl rfl rfl
    | refine awp_cond_t rfl ?_
    | refine awp_cond_f rfl ?_)
  exact Sub.refl _

/-- (*strings.Builder).String. -/
theorem string_ok (l : List UInt8) (hl : l.length ≤ 70368744177664) : MCalls Try.prog 27 [.box 41 [selfP, .row 1 0], .row 0 5 1 (l.map bD)] [.ptr 0 0] [.box 41 [selfP, .any], .gone] (.val (.string ⟨l.toArray⟩)) := by
  rcases List.eq_nil_or_concat l with rfl | ⟨l', c, rfl⟩
  · refine m_startF Try.func27 Try.ntmps27 rfl rfl rfl fun S w β => ?_
    repeat (first
      | refine awp_seq ?_
      | refine thenA_normal ?_
      | refine awp_block ?_
      | refine a_region ?_
      | refine a_draw1 mixed_ok (by kernel_rfl) ?_
      | refine awp_ret ?_
      | refine awp_exit ?_
      | refine thenA_exit ?_
      | refine thenA_ret ?_
      | refine blockA_normal ?_
      | refine blockA_ret ?_
      | refine blockA_hit rfl ?_
      | refine blockA_miss rfl ?_
      | refine awp_skip ?_
      | refine r_done ?_
      | refine r_done' ?_
      | (refine r_id ?_; first
        | refine r_len tab_ok rfl rfl rfl rfl rfl rfl rfl ?_
        | refine r_ev tab_ok rfl rfl rfl rfl (by first | exact trivial | exact ⟨by omega, by omega⟩ | omega | exact ⟨by omega, by omega, by omega, by omega⟩ | exact Nat.le_of_ble_eq_true rfl) rfl ?_
        | refine r_ld tab_ok rfl rfl rfl rfl rfl ?_
        | refine r_idx tab_ok rfl rfl rfl rfl rfl rfl rfl (by first | exact ⟨by omega, by omega⟩ | (simp; omega)) rfl rfl ?_
        | refine r_idxd tab_ok rfl rfl rfl rfl rfl rfl rfl (by decide) rfl rfl rfl ?_
        | refine r_wr tab_ok rfl rfl rfl rfl rfl ?_
        | refine r_st tab_ok rfl rfl rfl rfl ?_
        | refine r_len_cnd tab_ok rfl rfl rfl rfl rfl rfl (by first | exact fun _ => rfl | exact cs1) rfl rfl rfl ?_
        | refine r_ev_cnd tab_ok rfl rfl rfl rfl rfl rfl (by first | exact fun _ => rfl | exact cs1 | exact cs2 | exact cs3) (by first | exact fun _ => trivial | (intro h; simp at h; first | exact ⟨by omega, by omega⟩ | omega)) rfl ?_
        | refine r_ld_cnd tab_ok rfl rfl rfl rfl rfl rfl (by first | exact fun _ => rfl | exact cs1 | exact cs2 | exact cs3) rfl ?_
        | refine r_idx_cnd tab_ok rfl rfl rfl rfl rfl rfl rfl (by first | exact fun _ => rfl | exact cs1 | exact cs2) rfl rfl (by exact ⟨by omega, by omega⟩) rfl rfl ?_
        | refine r_idx_cnd' tab_ok rfl rfl rfl rfl rfl rfl rfl (by first | exact fun _ => rfl | exact cs1 | exact cs2) rfl rfl (by intro h; simp at h; exact ⟨by omega, by omega⟩) rfl rfl ?_
        | refine r_and_cnd rfl rfl rfl rfl rfl rfl rfl rfl rfl rfl ?_
        | refine r_or_cnd rfl rfl rfl rfl rfl rfl rfl rfl rfl rfl ?_
        | refine r_or rfl rfl rfl rfl rfl rfl rfl rfl ?_
        | refine r_and rfl rfl rfl rfl rfl rfl rfl rfl ?_
        | refine r_pick_t rfl rfl rfl rfl rfl rfl rfl ?_
        | refine r_pick_f rfl rfl rfl rfl rfl rfl rfl ?_
        | refine r_off rfl rfl rfl rfl rfl rfl ?_
        | refine r_len_on tab_ok rfl rfl rfl rfl rfl rfl rfl rfl rfl ?_
        | refine r_ev_on tab_ok rfl rfl rfl rfl rfl rfl (by first | exact trivial | exact ⟨by omega, by omega⟩ | omega) rfl ?_
        | refine r_ld_on tab_ok rfl rfl rfl rfl rfl rfl rfl ?_
        | refine r_build tab_ok rfl rfl rfl rfl rfl rfl ?_
        | refine r_bstr tab_ok rfl rfl rfl rfl rfl rfl rfl rfl rfl rfl ?_
        | refine r_build_cnd tab_ok rfl rfl rfl rfl rfl (by first | exact fun _ => rfl | exact cs1) rfl rfl rfl ?_
        | refine r_built_cnd tab_ok rfl rfl rfl rfl rfl rfl rfl rfl (by first | exact fun _ => rfl | exact cs1) rfl rfl rfl ?_
        | refine r_rem rfl rfl rfl rfl rfl rfl (by omega) rfl ?_
        | refine r_built0 tab_ok rfl rfl rfl rfl rfl rfl rfl ?_
        | refine r_built tab_ok rfl rfl rfl rfl rfl rfl rfl rfl rfl ?_
        | refine r_range tab_ok rfl rfl rfl rfl rfl rfl rfl ?_
        | refine r_next rfl rfl rfl rfl (by assumption) rfl rfl rfl ?_
        | refine r_next_end rfl rfl rfl rfl (by assumption) rfl rfl rfl ?_
        | refine r_nilck rfl rfl rfl rfl rfl rfl rfl ?_
        | refine r_rstr tab_ok rfl rfl rfl rfl rfl rfl rfl rfl ?_
        | refine r_rsstr tab_ok rfl rfl rfl rfl rfl rfl rfl rfl rfl rfl ?_
        | refine r_bstr' tab_ok rfl rfl rfl rfl rfl rfl rfl rfl rfl ?_
        | refine r_rowstr tab_ok rfl rfl rfl rfl rfl rfl rfl rfl rfl rfl ?_
        | refine r_strd tab_ok rfl rfl rfl rfl rfl rfl (by omega) rfl rfl rfl ?_
        | refine r_idxr tab_ok rfl rfl rfl rfl rfl rfl rfl rfl (by first | exact ⟨by omega, by omega⟩ | (simp; omega)) rfl ?_
        | refine r_lde tab_ok rfl rfl rfl rfl rfl (by omega) rfl rfl rfl rfl ?_
        | refine r_idxr_cnd tab_ok rfl rfl rfl rfl rfl rfl rfl rfl (by first | exact fun _ => rfl | exact cs1 | exact cs2) rfl rfl (by first | (intro _; exact ⟨by omega, by omega⟩) | (intro h; simp at h ⊢; omega)) rfl ?_
        | refine r_lde_cnd tab_ok rfl rfl rfl rfl rfl rfl rfl (by first | exact fun _ => rfl | exact cs1 | exact cs2) (by omega) rfl rfl rfl rfl ?_
        | refine r_cut tab_ok rfl rfl rfl rfl rfl rfl rfl rfl (by first | exact ⟨by simp, by simp; omega, by simp⟩ | (simp; omega)) rfl ?_
        | refine r_append tab_ok rfl rfl rfl rfl rfl rfl rfl rfl rfl (by first | omega | (simp; omega)) rfl ?_
        | refine r_append_nil tab_ok rfl rfl rfl rfl rfl rfl rfl rfl (by first | omega | (simp; omega)) rfl ?_)
      | refine ret1 (by first | exact .inl rfl | exact .inr rfl) rfl rfl rfl ?_
      | refine ret1_row (by first | exact .inl rfl | exact .inr rfl) rfl rfl rfl ?_
      | refine ret2 (by first | exact .inl rfl | exact .inr rfl) rfl rfl rfl rfl ?_ ?_
      | refine retM1 (by first | exact .inl rfl | exact .inr rfl) rfl rfl rfl rfl rfl ?_
      | exact retM0 (by first | exact .inl rfl | exact .inr rfl) rfl rfl rfl
      | refine awp_cond_t rfl ?_
      | refine awp_cond_f rfl ?_)
    refine r_usd0 under46 rfl rfl rfl rfl rfl rfl rfl ?_
    repeat (first
      | refine awp_seq ?_
      | refine thenA_normal ?_
      | refine awp_block ?_
      | refine a_region ?_
      | refine a_draw1 mixed_ok (by kernel_rfl) ?_
      | refine awp_ret ?_
      | refine awp_exit ?_
      | refine thenA_exit ?_
      | refine thenA_ret ?_
      | refine blockA_normal ?_
      | refine blockA_ret ?_
      | refine blockA_hit rfl ?_
      | refine blockA_miss rfl ?_
      | refine awp_skip ?_
      | refine r_done ?_
      | refine r_done' ?_
      | (refine r_id ?_; first
        | refine r_len tab_ok rfl rfl rfl rfl rfl rfl rfl ?_
        | refine r_ev tab_ok rfl rfl rfl rfl (by first | exact trivial | exact ⟨by omega, by omega⟩ | omega | exact ⟨by omega, by omega, by omega, by omega⟩ | exact Nat.le_of_ble_eq_true rfl) rfl ?_
        | refine r_ld tab_ok rfl rfl rfl rfl rfl ?_
        | refine r_idx tab_ok rfl rfl rfl rfl rfl rfl rfl (by first | exact ⟨by omega, by omega⟩ | (simp; omega)) rfl rfl ?_
        | refine r_idxd tab_ok rfl rfl rfl rfl rfl rfl rfl (by decide) rfl rfl rfl ?_
        | refine r_wr tab_ok rfl rfl rfl rfl rfl ?_
        | refine r_st tab_ok rfl rfl rfl rfl ?_
        | refine r_len_cnd tab_ok rfl rfl rfl rfl rfl rfl (by first | exact fun _ => rfl | exact cs1) rfl rfl rfl ?_
        | refine r_ev_cnd tab_ok rfl rfl rfl rfl rfl rfl (by first | exact fun _ => rfl | exact cs1 | exact cs2 | exact cs3) (by first | exact fun _ => trivial | (intro h; simp at h; first | exact ⟨by omega, by omega⟩ | omega)) rfl ?_
        | refine r_ld_cnd tab_ok rfl rfl rfl rfl rfl rfl (by first | exact fun _ => rfl | exact cs1 | exact cs2 | exact cs3) rfl ?_
        | refine r_idx_cnd tab_ok rfl rfl rfl rfl rfl rfl rfl (by first | exact fun _ => rfl | exact cs1 | exact cs2) rfl rfl (by exact ⟨by omega, by omega⟩) rfl rfl ?_
        | refine r_idx_cnd' tab_ok rfl rfl rfl rfl rfl rfl rfl (by first | exact fun _ => rfl | exact cs1 | exact cs2) rfl rfl (by intro h; simp at h; exact ⟨by omega, by omega⟩) rfl rfl ?_
        | refine r_and_cnd rfl rfl rfl rfl rfl rfl rfl rfl rfl rfl ?_
        | refine r_or_cnd rfl rfl rfl rfl rfl rfl rfl rfl rfl rfl ?_
        | refine r_or rfl rfl rfl rfl rfl rfl rfl rfl ?_
        | refine r_and rfl rfl rfl rfl rfl rfl rfl rfl ?_
        | refine r_pick_t rfl rfl rfl rfl rfl rfl rfl ?_
        | refine r_pick_f rfl rfl rfl rfl rfl rfl rfl ?_
        | refine r_off rfl rfl rfl rfl rfl rfl ?_
        | refine r_len_on tab_ok rfl rfl rfl rfl rfl rfl rfl rfl rfl ?_
        | refine r_ev_on tab_ok rfl rfl rfl rfl rfl rfl (by first | exact trivial | exact ⟨by omega, by omega⟩ | omega) rfl ?_
        | refine r_ld_on tab_ok rfl rfl rfl rfl rfl rfl rfl ?_
        | refine r_build tab_ok rfl rfl rfl rfl rfl rfl ?_
        | refine r_bstr tab_ok rfl rfl rfl rfl rfl rfl rfl rfl rfl rfl ?_
        | refine r_build_cnd tab_ok rfl rfl rfl rfl rfl (by first | exact fun _ => rfl | exact cs1) rfl rfl rfl ?_
        | refine r_built_cnd tab_ok rfl rfl rfl rfl rfl rfl rfl rfl (by first | exact fun _ => rfl | exact cs1) rfl rfl rfl ?_
        | refine r_rem rfl rfl rfl rfl rfl rfl (by omega) rfl ?_
        | refine r_built0 tab_ok rfl rfl rfl rfl rfl rfl rfl ?_
        | refine r_built tab_ok rfl rfl rfl rfl rfl rfl rfl rfl rfl ?_
        | refine r_range tab_ok rfl rfl rfl rfl rfl rfl rfl ?_
        | refine r_next rfl rfl rfl rfl (by assumption) rfl rfl rfl ?_
        | refine r_next_end rfl rfl rfl rfl (by assumption) rfl rfl rfl ?_
        | refine r_nilck rfl rfl rfl rfl rfl rfl rfl ?_
        | refine r_rstr tab_ok rfl rfl rfl rfl rfl rfl rfl rfl ?_
        | refine r_rsstr tab_ok rfl rfl rfl rfl rfl rfl rfl rfl rfl rfl ?_
        | refine r_bstr' tab_ok rfl rfl rfl rfl rfl rfl rfl rfl rfl ?_
        | refine r_rowstr tab_ok rfl rfl rfl rfl rfl rfl rfl rfl rfl rfl ?_
        | refine r_strd tab_ok rfl rfl rfl rfl rfl rfl (by omega) rfl rfl rfl ?_
        | refine r_idxr tab_ok rfl rfl rfl rfl rfl rfl rfl rfl (by first | exact ⟨by omega, by omega⟩ | (simp; omega)) rfl ?_
        | refine r_lde tab_ok rfl rfl rfl rfl rfl (by omega) rfl rfl rfl rfl ?_
        | refine r_idxr_cnd tab_ok rfl rfl rfl rfl rfl rfl rfl rfl (by first | exact fun _ => rfl | exact cs1 | exact cs2) rfl rfl (by first | (intro _; exact ⟨by omega, by omega⟩) | (intro h; simp at h ⊢; omega)) rfl ?_
        | refine r_lde_cnd tab_ok rfl rfl rfl rfl rfl rfl rfl (by first | exact fun _ => rfl | exact cs1 | exact cs2) (by omega) rfl rfl rfl rfl ?_
        | refine r_cut tab_ok rfl rfl rfl rfl rfl rfl rfl rfl (by first | exact ⟨by simp, by simp; omega, by simp⟩ | (simp; omega)) rfl ?_
        | refine r_append tab_ok rfl rfl rfl rfl rfl rfl rfl rfl rfl (by first | omega | (simp; omega)) rfl ?_
        | refine r_append_nil tab_ok rfl rfl rfl rfl rfl rfl rfl rfl (by first | omega | (simp; omega)) rfl ?_)
      | refine ret1 (by first | exact .inl rfl | exact .inr rfl) rfl rfl rfl ?_
      | refine ret1_row (by first | exact .inl rfl | exact .inr rfl) rfl rfl rfl ?_
      | refine ret2 (by first | exact .inl rfl | exact .inr rfl) rfl rfl rfl rfl ?_ ?_
      | refine retM1 (by first | exact .inl rfl | exact .inr rfl) rfl rfl rfl rfl rfl ?_
      | exact retM0 (by first | exact .inl rfl | exact .inr rfl) rfl rfl rfl
      | refine awp_cond_t rfl ?_
      | refine awp_cond_f rfl ?_)
    refine r_ustr0 rfl rfl rfl rfl rfl rfl rfl rfl ?_
    repeat (first
      | refine awp_seq ?_
      | refine thenA_normal ?_
      | refine awp_block ?_
      | refine a_region ?_
      | refine a_draw1 mixed_ok (by kernel_rfl) ?_
      | refine awp_ret ?_
      | refine awp_exit ?_
      | refine thenA_exit ?_
      | refine thenA_ret ?_
      | refine blockA_normal ?_
      | refine blockA_ret ?_
      | refine blockA_hit rfl ?_
      | refine blockA_miss rfl ?_
      | refine awp_skip ?_
      | refine r_done ?_
      | refine r_done' ?_
      | (refine r_id ?_; first
        | refine r_len tab_ok rfl rfl rfl rfl rfl rfl rfl ?_
        | refine r_ev tab_ok rfl rfl rfl rfl (by first | exact trivial | exact ⟨by omega, by omega⟩ | omega | exact ⟨by omega, by omega, by omega, by omega⟩ | exact Nat.le_of_ble_eq_true rfl) rfl ?_
        | refine r_ld tab_ok rfl rfl rfl rfl rfl ?_
        | refine r_idx tab_ok rfl rfl rfl rfl rfl rfl rfl (by first | exact ⟨by omega, by omega⟩ | (simp; omega)) rfl rfl ?_
        | refine r_idxd tab_ok rfl rfl rfl rfl rfl rfl rfl (by decide) rfl rfl rfl ?_
        | refine r_wr tab_ok rfl rfl rfl rfl rfl ?_
        | refine r_st tab_ok rfl rfl rfl rfl ?_
        | refine r_len_cnd tab_ok rfl rfl rfl rfl rfl rfl (by first | exact fun _ => rfl | exact cs1) rfl rfl rfl ?_
        | refine r_ev_cnd tab_ok rfl rfl rfl rfl rfl rfl (by first | exact fun _ => rfl | exact cs1 | exact cs2 | exact cs3) (by first | exact fun _ => trivial | (intro h; simp at h; first | exact ⟨by omega, by omega⟩ | omega)) rfl ?_
        | refine r_ld_cnd tab_ok rfl rfl rfl rfl rfl rfl (by first | exact fun _ => rfl | exact cs1 | exact cs2 | exact cs3) rfl ?_
        | refine r_idx_cnd tab_ok rfl rfl rfl rfl rfl rfl rfl (by first | exact fun _ => rfl | exact cs1 | exact cs2) rfl rfl (by exact ⟨by omega, by omega⟩) rfl rfl ?_
        | refine r_idx_cnd' tab_ok rfl rfl rfl rfl rfl rfl rfl (by first | exact fun _ => rfl | exact cs1 | exact cs2) rfl rfl (by intro h; simp at h; exact ⟨by omega, by omega⟩) rfl rfl ?_
        | refine r_and_cnd rfl rfl rfl rfl rfl rfl rfl rfl rfl rfl ?_
        | refine r_or_cnd rfl rfl rfl rfl rfl rfl rfl rfl rfl rfl ?_
        | refine r_or rfl rfl rfl rfl rfl rfl rfl rfl ?_
        | refine r_and rfl rfl rfl rfl rfl rfl rfl rfl ?_
        | refine r_pick_t rfl rfl rfl rfl rfl rfl rfl ?_
        | refine r_pick_f rfl rfl rfl rfl rfl rfl rfl ?_
        | refine r_off rfl rfl rfl rfl rfl rfl ?_
        | refine r_len_on tab_ok rfl rfl rfl rfl rfl rfl rfl rfl rfl ?_
        | refine r_ev_on tab_ok rfl rfl rfl rfl rfl rfl (by first | exact trivial | exact ⟨by omega, by omega⟩ | omega) rfl ?_
        | refine r_ld_on tab_ok rfl rfl rfl rfl rfl rfl rfl ?_
        | refine r_build tab_ok rfl rfl rfl rfl rfl rfl ?_
        | refine r_bstr tab_ok rfl rfl rfl rfl rfl rfl rfl rfl rfl rfl ?_
        | refine r_build_cnd tab_ok rfl rfl rfl rfl rfl (by first | exact fun _ => rfl | exact cs1) rfl rfl rfl ?_
        | refine r_built_cnd tab_ok rfl rfl rfl rfl rfl rfl rfl rfl (by first | exact fun _ => rfl | exact cs1) rfl rfl rfl ?_
        | refine r_rem rfl rfl rfl rfl rfl rfl (by omega) rfl ?_
        | refine r_built0 tab_ok rfl rfl rfl rfl rfl rfl rfl ?_
        | refine r_built tab_ok rfl rfl rfl rfl rfl rfl rfl rfl rfl ?_
        | refine r_range tab_ok rfl rfl rfl rfl rfl rfl rfl ?_
        | refine r_next rfl rfl rfl rfl (by assumption) rfl rfl rfl ?_
        | refine r_next_end rfl rfl rfl rfl (by assumption) rfl rfl rfl ?_
        | refine r_nilck rfl rfl rfl rfl rfl rfl rfl ?_
        | refine r_rstr tab_ok rfl rfl rfl rfl rfl rfl rfl rfl ?_
        | refine r_rsstr tab_ok rfl rfl rfl rfl rfl rfl rfl rfl rfl rfl ?_
        | refine r_bstr' tab_ok rfl rfl rfl rfl rfl rfl rfl rfl rfl ?_
        | refine r_rowstr tab_ok rfl rfl rfl rfl rfl rfl rfl rfl rfl rfl ?_
        | refine r_strd tab_ok rfl rfl rfl rfl rfl rfl (by omega) rfl rfl rfl ?_
        | refine r_idxr tab_ok rfl rfl rfl rfl rfl rfl rfl rfl (by first | exact ⟨by omega, by omega⟩ | (simp; omega)) rfl ?_
        | refine r_lde tab_ok rfl rfl rfl rfl rfl (by omega) rfl rfl rfl rfl ?_
        | refine r_idxr_cnd tab_ok rfl rfl rfl rfl rfl rfl rfl rfl (by first | exact fun _ => rfl | exact cs1 | exact cs2) rfl rfl (by first | (intro _; exact ⟨by omega, by omega⟩) | (intro h; simp at h ⊢; omega)) rfl ?_
        | refine r_lde_cnd tab_ok rfl rfl rfl rfl rfl rfl rfl (by first | exact fun _ => rfl | exact cs1 | exact cs2) (by omega) rfl rfl rfl rfl ?_
        | refine r_cut tab_ok rfl rfl rfl rfl rfl rfl rfl rfl (by first | exact ⟨by simp, by simp; omega, by simp⟩ | (simp; omega)) rfl ?_
        | refine r_append tab_ok rfl rfl rfl rfl rfl rfl rfl rfl rfl (by first | omega | (simp; omega)) rfl ?_
        | refine r_append_nil tab_ok rfl rfl rfl rfl rfl rfl rfl rfl (by first | omega | (simp; omega)) rfl ?_)
      | refine ret1 (by first | exact .inl rfl | exact .inr rfl) rfl rfl rfl ?_
      | refine ret1_row (by first | exact .inl rfl | exact .inr rfl) rfl rfl rfl ?_
      | refine ret2 (by first | exact .inl rfl | exact .inr rfl) rfl rfl rfl rfl ?_ ?_
      | refine retM1 (by first | exact .inl rfl | exact .inr rfl) rfl rfl rfl rfl rfl ?_
      | exact retM0 (by first | exact .inl rfl | exact .inr rfl) rfl rfl rfl
      | refine awp_cond_t rfl ?_
      | refine awp_cond_f rfl ?_)
    exact retF1 [.box 41 [selfP, .any], .gone] [(2, .val (.string ⟨#[]⟩))] (fits_convM (by repeat' first | exact trivial | exact rfl | (rw [List.map_append]; first | done | rfl) | exact c_sub rfl (Sub.refl _) rfl | exact c_nil rfl rfl | exact c_thaw rfl rfl rfl | exact c_row rfl rfl rfl | exact c_row rfl rfl (by rw [List.map_append]; first | done | rfl) | exact c_ptr rfl rfl rfl rfl | exact Or.inl ⟨c_sub rfl (Sub.refl _) rfl, c_ptr rfl rfl rfl rfl⟩ | exact c_alt rfl rfl rfl rfl | exact c_sub rfl (Sub.altl _ _) rfl | refine ⟨_, _, rfl, ?_, ?_⟩ | apply And.intro) (by repeat' first | exact trivial | exact rfl | (rw [List.map_append]; first | done | rfl) | exact c_sub rfl (Sub.refl _) rfl | exact c_nil rfl rfl | exact c_thaw rfl rfl rfl | exact c_row rfl rfl rfl | exact c_row rfl rfl (by rw [List.map_append]; first | done | rfl) | exact c_ptr rfl rfl rfl rfl | exact Or.inl ⟨c_sub rfl (Sub.refl _) rfl, c_ptr rfl rfl rfl rfl⟩ | exact c_alt rfl rfl rfl rfl | exact c_sub rfl (Sub.altl _ _) rfl | refine ⟨_, _, rfl, ?_, ?_⟩ | apply And.intro) ⟨trivial, trivial, trivial⟩) (by first | exact .inl rfl | exact .inr rfl) rfl rfl rfl rfl rfl (Sub.refl _)
  · refine m_startF Try.func27 Try.ntmps27 rfl rfl rfl fun S w β => ?_
    repeat (first
      | refine awp_seq ?_
      | refine thenA_normal ?_
      | refine awp_block ?_
      | refine a_region ?_
      | refine awp_ret ?_
      | refine awp_exit ?_
      | refine thenA_exit ?_
      | refine thenA_ret ?_
      | refine blockA_normal ?_
      | refine blockA_ret ?_
      | refine blockA_hit rfl ?_
      | refine blockA_miss rfl ?_
      | refine awp_skip ?_
      | refine r_done ?_
      | refine r_done' ?_
      | (refine r_id ?_; first
        | refine r_len tab_ok rfl rfl rfl rfl rfl rfl rfl ?_
        | refine r_ev tab_ok rfl rfl rfl rfl (by first | exact trivial | exact ⟨by omega, by omega⟩ | omega | exact ⟨by omega, by omega, by omega, by omega⟩ | exact Nat.le_of_ble_eq_true rfl) rfl ?_
        | refine r_ld tab_ok rfl rfl rfl rfl rfl ?_
        | refine r_idx tab_ok rfl rfl rfl rfl rfl rfl rfl (by first | exact ⟨by omega, by omega⟩ | (simp; omega)) rfl rfl ?_
        | refine r_idxd tab_ok rfl rfl rfl rfl rfl rfl rfl (by decide) rfl rfl rfl ?_
        | refine r_wr tab_ok rfl rfl rfl rfl rfl ?_
        | refine r_st tab_ok rfl rfl rfl rfl ?_
        | refine r_len_cnd tab_ok rfl rfl rfl rfl rfl rfl (by first | exact fun _ => rfl | exact cs1) rfl rfl rfl ?_
        | refine r_ev_cnd tab_ok rfl rfl rfl rfl rfl rfl (by first | exact fun _ => rfl | exact cs1 | exact cs2 | exact cs3) (by first | exact fun _ => trivial | (intro h; simp at h; first | exact ⟨by omega, by omega⟩ | omega)) rfl ?_
        | refine r_ld_cnd tab_ok rfl rfl rfl rfl rfl rfl (by first | exact fun _ => rfl | exact cs1 | exact cs2 | exact cs3) rfl ?_
        | refine r_idx_cnd tab_ok rfl rfl rfl rfl rfl rfl rfl (by first | exact fun _ => rfl | exact cs1 | exact cs2) rfl rfl (by exact ⟨by omega, by omega⟩) rfl rfl ?_
        | refine r_idx_cnd' tab_ok rfl rfl rfl rfl rfl rfl rfl (by first | exact fun _ => rfl | exact cs1 | exact cs2) rfl rfl (by intro h; simp at h; exact ⟨by omega, by omega⟩) rfl rfl ?_
        | refine r_and_cnd rfl rfl rfl rfl rfl rfl rfl rfl rfl rfl ?_
        | refine r_or_cnd rfl rfl rfl rfl rfl rfl rfl rfl rfl rfl ?_
        | refine r_or rfl rfl rfl rfl rfl rfl rfl rfl ?_
        | refine r_and rfl rfl rfl rfl rfl rfl rfl rfl ?_
        | refine r_pick_t rfl rfl rfl rfl rfl rfl rfl ?_
        | refine r_pick_f rfl rfl rfl rfl rfl rfl rfl ?_
        | refine r_off rfl rfl rfl rfl rfl rfl ?_
        | refine r_len_on tab_ok rfl rfl rfl rfl rfl rfl rfl rfl rfl ?_
        | refine r_ev_on tab_ok rfl rfl rfl rfl rfl rfl (by first | exact trivial | exact ⟨by omega, by omega⟩ | omega) rfl ?_
        | refine r_ld_on tab_ok rfl rfl rfl rfl rfl rfl rfl ?_
        | refine r_build tab_ok rfl rfl rfl rfl rfl rfl ?_
        | refine r_bstr tab_ok rfl rfl rfl rfl rfl rfl rfl rfl rfl rfl ?_
        | refine r_build_cnd tab_ok rfl rfl rfl rfl rfl (by first | exact fun _ => rfl | exact cs1) rfl rfl rfl ?_
        | refine r_built_cnd tab_ok rfl rfl rfl rfl rfl rfl rfl rfl (by first | exact fun _ => rfl | exact cs1) rfl rfl rfl ?_
        | refine r_rem rfl rfl rfl rfl rfl rfl (by omega) rfl ?_
        | refine r_built0 tab_ok rfl rfl rfl rfl rfl rfl rfl ?_
        | refine r_built tab_ok rfl rfl rfl rfl rfl rfl rfl rfl rfl ?_
        | refine r_range tab_ok rfl rfl rfl rfl rfl rfl rfl ?_
        | refine r_next rfl rfl rfl rfl (by assumption) rfl rfl rfl ?_
        | refine r_next_end rfl rfl rfl rfl (by assumption) rfl rfl rfl ?_
        | refine r_nilck rfl rfl rfl rfl rfl rfl rfl ?_
        | refine r_rstr tab_ok rfl rfl rfl rfl rfl rfl rfl rfl ?_
        | refine r_rsstr tab_ok rfl rfl rfl rfl rfl rfl rfl rfl rfl rfl ?_
        | refine r_bstr' tab_ok rfl rfl rfl rfl rfl rfl rfl rfl rfl ?_
        | refine r_rowstr tab_ok rfl rfl rfl rfl rfl rfl rfl rfl rfl rfl ?_
        | refine r_strd tab_ok rfl rfl rfl rfl rfl rfl (by omega) rfl rfl rfl ?_
        | refine r_idxr tab_ok rfl rfl rfl rfl rfl rfl rfl rfl (by first | exact ⟨by omega, by omega⟩ | (simp; omega)) rfl ?_
        | refine r_lde tab_ok rfl rfl rfl rfl rfl (by omega) rfl rfl rfl rfl ?_
        | refine r_idxr_cnd tab_ok rfl rfl rfl rfl rfl rfl rfl rfl (by first | exact fun _ => rfl | exact cs1 | exact cs2) rfl rfl (by first | (intro _; exact ⟨by omega, by omega⟩) | (intro h; simp at h ⊢; omega)) rfl ?_
        | refine r_lde_cnd tab_ok rfl rfl rfl rfl rfl rfl rfl (by first | exact fun _ => rfl | exact cs1 | exact cs2) (by omega) rfl rfl rfl rfl ?_
        | refine r_cut tab_ok rfl rfl rfl rfl rfl rfl rfl rfl (by first | exact ⟨by simp, by simp; omega, by simp⟩ | (simp; omega)) rfl ?_
        | refine r_append tab_ok rfl rfl rfl rfl rfl rfl rfl rfl rfl (by first | omega | (simp; omega)) rfl ?_
        | refine r_append_nil tab_ok rfl rfl rfl rfl rfl rfl rfl rfl (by first | omega | (simp; omega)) rfl ?_)
      | refine ret1 (by first | exact .inl rfl | exact .inr rfl) rfl rfl rfl ?_
      | refine ret1_row (by first | exact .inl rfl | exact .inr rfl) rfl rfl rfl ?_
      | refine ret2 (by first | exact .inl rfl | exact .inr rfl) rfl rfl rfl rfl ?_ ?_
      | refine retM1 (by first | exact .inl rfl | exact .inr rfl) rfl rfl rfl rfl rfl ?_
      | exact retM0 (by first | exact .inl rfl | exact .inr rfl) rfl rfl rfl
      | refine awp_cond_t rfl ?_
      | refine awp_cond_f rfl ?_)
    refine a_draw mixed_ok [0,0,0,1,1,0,0,0,1,1,2,0] (by kernel_rfl) ?_
    repeat (first
      | refine awp_seq ?_
      | refine thenA_normal ?_
      | refine awp_block ?_
      | refine a_region ?_
      | refine awp_ret ?_
      | refine awp_exit ?_
      | refine thenA_exit ?_
      | refine thenA_ret ?_
      | refine blockA_normal ?_
      | refine blockA_ret ?_
      | refine blockA_hit rfl ?_
      | refine blockA_miss rfl ?_
      | refine awp_skip ?_
      | refine r_done ?_
      | refine r_done' ?_
      | (refine r_id ?_; first
        | refine r_len tab_ok rfl rfl rfl rfl rfl rfl rfl ?_
        | refine r_ev tab_ok rfl rfl rfl rfl (by first | exact trivial | exact ⟨by omega, by omega⟩ | omega | exact ⟨by omega, by omega, by omega, by omega⟩ | exact Nat.le_of_ble_eq_true rfl) rfl ?_
        | refine r_ld tab_ok rfl rfl rfl rfl rfl ?_
        | refine r_idx tab_ok rfl rfl rfl rfl rfl rfl rfl (by first | exact ⟨by omega, by omega⟩ | (simp; omega)) rfl rfl ?_
        | refine r_idxd tab_ok rfl rfl rfl rfl rfl rfl rfl (by decide) rfl rfl rfl ?_
        | refine r_wr tab_ok rfl rfl rfl rfl rfl ?_
        | refine r_st tab_ok rfl rfl rfl rfl ?_
        | refine r_len_cnd tab_ok rfl rfl rfl rfl rfl rfl (by first | exact fun _ => rfl | exact cs1) rfl rfl rfl ?_
        | refine r_ev_cnd tab_ok rfl rfl rfl rfl rfl rfl (by first | exact fun _ => rfl | exact cs1 | exact cs2 | exact cs3) (by first | exact fun _ => trivial | (intro h; simp at h; first | exact ⟨by omega, by omega⟩ | omega)) rfl ?_
        | refine r_ld_cnd tab_ok rfl rfl rfl rfl rfl rfl (by first | exact fun _ => rfl | exact cs1 | exact cs2 | exact cs3) rfl ?_
        | refine r_idx_cnd tab_ok rfl rfl rfl rfl rfl rfl rfl (by first | exact fun _ => rfl | exact cs1 | exact cs2) rfl rfl (by exact ⟨by omega, by omega⟩) rfl rfl ?_
        | refine r_idx_cnd' tab_ok rfl rfl rfl rfl rfl rfl rfl (by first | exact fun _ => rfl | exact cs1 | exact cs2) rfl rfl (by intro h; simp at h; exact ⟨by omega, by omega⟩) rfl rfl ?_
        | refine r_and_cnd rfl rfl rfl rfl rfl rfl rfl rfl rfl rfl ?_
        | refine r_or_cnd rfl rfl rfl rfl rfl rfl rfl rfl rfl rfl ?_
        | refine r_or rfl rfl rfl rfl rfl rfl rfl rfl ?_
        | refine r_and rfl rfl rfl rfl rfl rfl rfl rfl ?_
        | refine r_pick_t rfl rfl rfl rfl rfl rfl rfl ?_
        | refine r_pick_f rfl rfl rfl rfl rfl rfl rfl ?_
        | refine r_off rfl rfl rfl rfl rfl rfl ?_
        | refine r_len_on tab_ok rfl rfl rfl rfl rfl rfl rfl rfl rfl ?_
        | refine r_ev_on tab_ok rfl rfl rfl rfl rfl rfl (by first | exact trivial | exact ⟨by omega, by omega⟩ | omega) rfl ?_
        | refine r_ld_on tab_ok rfl rfl rfl rfl rfl rfl rfl ?_
        | refine r_build tab_ok rfl rfl rfl rfl rfl rfl ?_
        | refine r_bstr tab_ok rfl rfl rfl rfl rfl rfl rfl rfl rfl rfl ?_
        | refine r_build_cnd tab_ok rfl rfl rfl rfl rfl (by first | exact fun _ => rfl | exact cs1) rfl rfl rfl ?_
        | refine r_built_cnd tab_ok rfl rfl rfl rfl rfl rfl rfl rfl (by first | exact fun _ => rfl | exact cs1) rfl rfl rfl ?_
        | refine r_rem rfl rfl rfl rfl rfl rfl (by omega) rfl ?_
        | refine r_built0 tab_ok rfl rfl rfl rfl rfl rfl rfl ?_
        | refine r_built tab_ok rfl rfl rfl rfl rfl rfl rfl rfl rfl ?_
        | refine r_range tab_ok rfl rfl rfl rfl rfl rfl rfl ?_
        | refine r_next rfl rfl rfl rfl (by assumption) rfl rfl rfl ?_
        | refine r_next_end rfl rfl rfl rfl (by assumption) rfl rfl rfl ?_
        | refine r_nilck rfl rfl rfl rfl rfl rfl rfl ?_
        | refine r_rstr tab_ok rfl rfl rfl rfl rfl rfl rfl rfl ?_
        | refine r_rsstr tab_ok rfl rfl rfl rfl rfl rfl rfl rfl rfl rfl ?_
        | refine r_bstr' tab_ok rfl rfl rfl rfl rfl rfl rfl rfl rfl ?_
        | refine r_rowstr tab_ok rfl rfl rfl rfl rfl rfl rfl rfl rfl rfl ?_
        | refine r_strd tab_ok rfl rfl rfl rfl rfl rfl (by omega) rfl rfl rfl ?_
        | refine r_idxr tab_ok rfl rfl rfl rfl rfl rfl rfl rfl (by first | exact ⟨by omega, by omega⟩ | (simp; omega)) rfl ?_
        | refine r_lde tab_ok rfl rfl rfl rfl rfl (by omega) rfl rfl rfl rfl ?_
        | refine r_idxr_cnd tab_ok rfl rfl rfl rfl rfl rfl rfl rfl (by first | exact fun _ => rfl | exact cs1 | exact cs2) rfl rfl (by first | (intro _; exact ⟨by omega, by omega⟩) | (intro h; simp at h ⊢; omega)) rfl ?_
        | refine r_lde_cnd tab_ok rfl rfl rfl rfl rfl rfl rfl (by first | exact fun _ => rfl | exact cs1 | exact cs2) (by omega) rfl rfl rfl rfl ?_
        | refine r_cut tab_ok rfl rfl rfl rfl rfl rfl rfl rfl (by first | exact ⟨by simp, by simp; omega, by simp⟩ | (simp; omega)) rfl ?_
        | refine r_append tab_ok rfl rfl rfl rfl rfl rfl rfl rfl rfl (by first | omega | (simp; omega)) rfl ?_
        | refine r_append_nil tab_ok rfl rfl rfl rfl rfl rfl rfl rfl (by first | omega | (simp; omega)) rfl ?_)
      | refine ret1 (by first | exact .inl rfl | exact .inr rfl) rfl rfl rfl ?_
      | refine ret1_row (by first | exact .inl rfl | exact .inr rfl) rfl rfl rfl ?_
      | refine ret2 (by first | exact .inl rfl | exact .inr rfl) rfl rfl rfl rfl ?_ ?_
      | refine retM1 (by first | exact .inl rfl | exact .inr rfl) rfl rfl rfl rfl rfl ?_
      | exact retM0 (by first | exact .inl rfl | exact .inr rfl) rfl rfl rfl
      | refine awp_cond_t rfl ?_
      | refine awp_cond_f rfl ?_)
    refine r_usd (by simp) rfl rfl rfl rfl rfl rfl rfl ?_
    repeat (first
      | refine awp_seq ?_
      | refine thenA_normal ?_
      | refine awp_block ?_
      | refine a_region ?_
      | refine awp_ret ?_
      | refine awp_exit ?_
      | refine thenA_exit ?_
      | refine thenA_ret ?_
      | refine blockA_normal ?_
      | refine blockA_ret ?_
      | refine blockA_hit rfl ?_
      | refine blockA_miss rfl ?_
      | refine awp_skip ?_
      | refine r_done ?_
      | refine r_done' ?_
      | (refine r_id ?_; first
        | refine r_len tab_ok rfl rfl rfl rfl rfl rfl rfl ?_
        | refine r_ev tab_ok rfl rfl rfl rfl (by first | exact trivial | exact ⟨by omega, by omega⟩ | omega | exact ⟨by omega, by omega, by omega, by omega⟩ | exact Nat.le_of_ble_eq_true rfl) rfl ?_
        | refine r_ld tab_ok rfl rfl rfl rfl rfl ?_
        | refine r_idx tab_ok rfl rfl rfl rfl rfl rfl rfl (by first | exact ⟨by omega, by omega⟩ | (simp; omega)) rfl rfl ?_
        | refine r_idxd tab_ok rfl rfl rfl rfl rfl rfl rfl (by decide) rfl rfl rfl ?_
        | refine r_wr tab_ok rfl rfl rfl rfl rfl ?_
        | refine r_st tab_ok rfl rfl rfl rfl ?_
        | refine r_len_cnd tab_ok rfl rfl rfl rfl rfl rfl (by first | exact fun _ => rfl | exact cs1) rfl rfl rfl ?_
        | refine r_ev_cnd tab_ok rfl rfl rfl rfl rfl rfl (by first | exact fun _ => rfl | exact cs1 | exact cs2 | exact cs3) (by first | exact fun _ => trivial | (intro h; simp at h; first | exact ⟨by omega, by omega⟩ | omega)) rfl ?_
        | refine r_ld_cnd tab_ok rfl rfl rfl rfl rfl rfl (by first | exact fun _ => rfl | exact cs1 | exact cs2 | exact cs3) rfl ?_
        | refine r_idx_cnd tab_ok rfl rfl rfl rfl rfl rfl rfl (by first | exact fun _ => rfl | exact cs1 | exact cs2) rfl rfl (by exact ⟨by omega, by omega⟩) rfl rfl ?_
        | refine r_idx_cnd' tab_ok rfl rfl rfl rfl rfl rfl rfl (by first | exact fun _ => rfl | exact cs1 | exact cs2) rfl rfl (by intro h; simp at h; exact ⟨by omega, by omega⟩) rfl rfl ?_
        | refine r_and_cnd rfl rfl rfl rfl rfl rfl rfl rfl rfl rfl ?_
        | refine r_or_cnd rfl rfl rfl rfl rfl rfl rfl rfl rfl rfl ?_
        | refine r_or rfl rfl rfl rfl rfl rfl rfl rfl ?_
        | refine r_and rfl rfl rfl rfl rfl rfl rfl rfl ?_
        | refine r_pick_t rfl rfl rfl rfl rfl rfl rfl ?_
        | refine r_pick_f rfl rfl rfl rfl rfl rfl rfl ?_
        | refine r_off rfl rfl rfl rfl rfl rfl ?_
        | refine r_len_on tab_ok rfl rfl rfl rfl rfl rfl rfl rfl rfl ?_
        | refine r_ev_on tab_ok rfl rfl rfl rfl rfl rfl (by first | exact trivial | exact ⟨by omega, by omega⟩ | omega) rfl ?_
        | refine r_ld_on tab_ok rfl rfl rfl rfl rfl rfl rfl ?_
        | refine r_build tab_ok rfl rfl rfl rfl rfl rfl ?_
        | refine r_bstr tab_ok rfl rfl rfl rfl rfl rfl rfl rfl rfl rfl ?_
        | refine r_build_cnd tab_ok rfl rfl rfl rfl rfl (by first | exact fun _ => rfl | exact cs1) rfl rfl rfl ?_
        | refine r_built_cnd tab_ok rfl rfl rfl rfl rfl rfl rfl rfl (by first | exact fun _ => rfl | exact cs1) rfl rfl rfl ?_
        | refine r_rem rfl rfl rfl rfl rfl rfl (by omega) rfl ?_
        | refine r_built0 tab_ok rfl rfl rfl rfl rfl rfl rfl ?_
        | refine r_built tab_ok rfl rfl rfl rfl rfl rfl rfl rfl rfl ?_
        | refine r_range tab_ok rfl rfl rfl rfl rfl rfl rfl ?_
        | refine r_next rfl rfl rfl rfl (by assumption) rfl rfl rfl ?_
        | refine r_next_end rfl rfl rfl rfl (by assumption) rfl rfl rfl ?_
        | refine r_nilck rfl rfl rfl rfl rfl rfl rfl ?_
        | refine r_rstr tab_ok rfl rfl rfl rfl rfl rfl rfl rfl ?_
        | refine r_rsstr tab_ok rfl rfl rfl rfl rfl rfl rfl rfl rfl rfl ?_
        | refine r_bstr' tab_ok rfl rfl rfl rfl rfl rfl rfl rfl rfl ?_
        | refine r_rowstr tab_ok rfl rfl rfl rfl rfl rfl rfl rfl rfl rfl ?_
        | refine r_strd tab_ok rfl rfl rfl rfl rfl rfl (by omega) rfl rfl rfl ?_
        | refine r_idxr tab_ok rfl rfl rfl rfl rfl rfl rfl rfl (by first | exact ⟨by omega, by omega⟩ | (simp; omega)) rfl ?_
        | refine r_lde tab_ok rfl rfl rfl rfl rfl (by omega) rfl rfl rfl rfl ?_
        | refine r_idxr_cnd tab_ok rfl rfl rfl rfl rfl rfl rfl rfl (by first | exact fun _ => rfl | exact cs1 | exact cs2) rfl rfl (by first | (intro _; exact ⟨by omega, by omega⟩) | (intro h; simp at h ⊢; omega)) rfl ?_
        | refine r_lde_cnd tab_ok rfl rfl rfl rfl rfl rfl rfl (by first | exact fun _ => rfl | exact cs1 | exact cs2) (by omega) rfl rfl rfl rfl ?_
        | refine r_cut tab_ok rfl rfl rfl rfl rfl rfl rfl rfl (by first | exact ⟨by simp, by simp; omega, by simp⟩ | (simp; omega)) rfl ?_
        | refine r_append tab_ok rfl rfl rfl rfl rfl rfl rfl rfl rfl (by first | omega | (simp; omega)) rfl ?_
        | refine r_append_nil tab_ok rfl rfl rfl rfl rfl rfl rfl rfl (by first | omega | (simp; omega)) rfl ?_)
      | refine ret1 (by first | exact .inl rfl | exact .inr rfl) rfl rfl rfl ?_
      | refine ret1_row (by first | exact .inl rfl | exact .inr rfl) rfl rfl rfl ?_
      | refine ret2 (by first | exact .inl rfl | exact .inr rfl) rfl rfl rfl rfl ?_ ?_
      | refine retM1 (by first | exact .inl rfl | exact .inr rfl) rfl rfl rfl rfl rfl ?_
      | exact retM0 (by first | exact .inl rfl | exact .inr rfl) rfl rfl rfl
      | refine awp_cond_t rfl ?_
      | refine awp_cond_f rfl ?_)
    refine r_ustr (by simp) under46 cells5 rfl rfl rfl rfl rfl rfl rfl rfl ?_
    repeat (first
      | refine awp_seq ?_
      | refine thenA_normal ?_
      | refine awp_block ?_
      | refine a_region ?_
      | refine awp_ret ?_
      | refine awp_exit ?_
      | refine thenA_exit ?_
      | refine thenA_ret ?_
      | refine blockA_normal ?_
      | refine blockA_ret ?_
      | refine blockA_hit rfl ?_
      | refine blockA_miss rfl ?_
      | refine awp_skip ?_
      | refine r_done ?_
      | refine r_done' ?_
      | (refine r_id ?_; first
        | refine r_len tab_ok rfl rfl rfl rfl rfl rfl rfl ?_
        | refine r_ev tab_ok rfl rfl rfl rfl (by first | exact trivial | exact ⟨by omega, by omega⟩ | omega | exact ⟨by omega, by omega, by omega, by omega⟩ | exact Nat.le_of_ble_eq_true rfl) rfl ?_
        | refine r_ld tab_ok rfl rfl rfl rfl rfl ?_
        | refine r_idx tab_ok rfl rfl rfl rfl rfl rfl rfl (by first | exact ⟨by omega, by omega⟩ | (simp; omega)) rfl rfl ?_
        | refine r_idxd tab_ok rfl rfl rfl rfl rfl rfl rfl (by decide) rfl rfl rfl ?_
        | refine r_wr tab_ok rfl rfl rfl rfl rfl ?_
        | refine r_st tab_ok rfl rfl rfl rfl ?_
        | refine r_len_cnd tab_ok rfl rfl rfl rfl rfl rfl (by first | exact fun _ => rfl | exact cs1) rfl rfl rfl ?_
        | refine r_ev_cnd tab_ok rfl rfl rfl rfl rfl rfl (by first | exact fun _ => rfl | exact cs1 | exact cs2 | exact cs3) (by first | exact fun _ => trivial | (intro h; simp at h; first | exact ⟨by omega, by omega⟩ | omega)) rfl ?_
        | refine r_ld_cnd tab_ok rfl rfl rfl rfl rfl rfl (by first | exact fun _ => rfl | exact cs1 | exact cs2 | exact cs3) rfl ?_
        | refine r_idx_cnd tab_ok rfl rfl rfl rfl rfl rfl rfl (by first | exact fun _ => rfl | exact cs1 | exact cs2) rfl rfl (by exact ⟨by omega, by omega⟩) rfl rfl ?_
        | refine r_idx_cnd' tab_ok rfl rfl rfl rfl rfl rfl rfl (by first | exact fun _ => rfl | exact cs1 | exact cs2) rfl rfl (by intro h; simp at h; exact ⟨by omega, by omega⟩) rfl rfl ?_
        | refine r_and_cnd rfl rfl rfl rfl rfl rfl rfl rfl rfl rfl ?_
        | refine r_or_cnd rfl rfl rfl rfl rfl rfl rfl rfl rfl rfl ?_
        | refine r_or rfl rfl rfl rfl rfl rfl rfl rfl ?_
        | refine r_and rfl rfl rfl rfl rfl rfl rfl rfl ?_
        | refine r_pick_t rfl rfl rfl rfl rfl rfl rfl ?_
        | refine r_pick_f rfl rfl rfl rfl rfl rfl rfl ?_
        | refine r_off rfl rfl rfl rfl rfl rfl ?_
        | refine r_len_on tab_ok rfl rfl rfl rfl rfl rfl rfl rfl rfl ?_
        | refine r_ev_on tab_ok rfl rfl rfl rfl rfl rfl (by first | exact trivial | exact ⟨by omega, by omega⟩ | omega) rfl ?_
        | refine r_ld_on tab_ok rfl rfl rfl rfl rfl rfl rfl ?_
        | refine r_build tab_ok rfl rfl rfl rfl rfl rfl ?_
        | refine r_bstr tab_ok rfl rfl rfl rfl rfl rfl rfl rfl rfl rfl ?_
        | refine r_build_cnd tab_ok rfl rfl rfl rfl rfl (by first | exact fun _ => rfl | exact cs1) rfl rfl rfl ?_
        | refine r_built_cnd tab_ok rfl rfl rfl rfl rfl rfl rfl rfl (by first | exact fun _ => rfl | exact cs1) rfl rfl rfl ?_
        | refine r_rem rfl rfl rfl rfl rfl rfl (by omega) rfl ?_
        | refine r_built0 tab_ok rfl rfl rfl rfl rfl rfl rfl ?_
        | refine r_built tab_ok rfl rfl rfl rfl rfl rfl rfl rfl rfl ?_
        | refine r_range tab_ok rfl rfl rfl rfl rfl rfl rfl ?_
        | refine r_next rfl rfl rfl rfl (by assumption) rfl rfl rfl ?_
        | refine r_next_end rfl rfl rfl rfl (by assumption) rfl rfl rfl ?_
        | refine r_nilck rfl rfl rfl rfl rfl rfl rfl ?_
        | refine r_rstr tab_ok rfl rfl rfl rfl rfl rfl rfl rfl ?_
        | refine r_rsstr tab_ok rfl rfl rfl rfl rfl rfl rfl rfl rfl rfl ?_
        | refine r_bstr' tab_ok rfl rfl rfl rfl rfl rfl rfl rfl rfl ?_
        | refine r_rowstr tab_ok rfl rfl rfl rfl rfl rfl rfl rfl rfl rfl ?_
        | refine r_strd tab_ok rfl rfl rfl rfl rfl rfl (by omega) rfl rfl rfl ?_
        | refine r_idxr tab_ok rfl rfl rfl rfl rfl rfl rfl rfl (by first | exact ⟨by omega, by omega⟩ | (simp; omega)) rfl ?_
        | refine r_lde tab_ok rfl rfl rfl rfl rfl (by omega) rfl rfl rfl rfl ?_
        | refine r_idxr_cnd tab_ok rfl rfl rfl rfl rfl rfl rfl rfl (by first | exact fun _ => rfl | exact cs1 | exact cs2) rfl rfl (by first | (intro _; exact ⟨by omega, by omega⟩) | (intro h; simp at h ⊢; omega)) rfl ?_
        | refine r_lde_cnd tab_ok rfl rfl rfl rfl rfl rfl rfl (by first | exact fun _ => rfl | exact cs1 | exact cs2) (by omega) rfl rfl rfl rfl ?_
        | refine r_cut tab_ok rfl rfl rfl rfl rfl rfl rfl rfl (by first | exact ⟨by simp, by simp; omega, by simp⟩ | (simp; omega)) rfl ?_
        | refine r_append tab_ok rfl rfl rfl rfl rfl rfl rfl rfl rfl (by first | omega | (simp; omega)) rfl ?_
        | refine r_append_nil tab_ok rfl rfl rfl rfl rfl rfl rfl rfl (by first | omega | (simp; omega)) rfl ?_)
      | refine ret1 (by first | exact .inl rfl | exact .inr rfl) rfl rfl rfl ?_
      | refine ret1_row (by first | exact .inl rfl | exact .inr rfl) rfl rfl rfl ?_
      | refine ret2 (by first | exact .inl rfl | exact .inr rfl) rfl rfl rfl rfl ?_ ?_
      | refine retM1 (by first | exact .inl rfl | exact .inr rfl) rfl rfl rfl rfl rfl ?_
      | exact retM0 (by first | exact .inl rfl | exact .inr rfl) rfl rfl rfl
      | refine awp_cond_t rfl ?_
      | refine awp_cond_f rfl ?_)
    exact retF1 [.box 41 [selfP, .any], .gone] [(2, .val (.string ⟨(l'.concat c).toArray⟩))] (fits_convM (by repeat' first | exact trivial | exact rfl | (rw [List.map_append]; first | done | rfl) | exact c_sub rfl (Sub.refl _) rfl | exact c_nil rfl rfl | exact c_thaw rfl rfl rfl | exact c_row rfl rfl rfl | exact c_row rfl rfl (by rw [List.map_append]; first | done | rfl) | exact c_ptr rfl rfl rfl rfl | exact Or.inl ⟨c_sub rfl (Sub.refl _) rfl, c_ptr rfl rfl rfl rfl⟩ | exact c_alt rfl rfl rfl rfl | exact c_sub rfl (Sub.altl _ _) rfl | refine ⟨_, _, rfl, ?_, ?_⟩ | apply And.intro) (by repeat' first | exact trivial | exact rfl | (rw [List.map_append]; first | done | rfl) | exact c_sub rfl (Sub.refl _) rfl | exact c_nil rfl rfl | exact c_thaw rfl rfl rfl | exact c_row rfl rfl rfl | exact c_row rfl rfl (by rw [List.map_append]; first | done | rfl) | exact c_ptr rfl rfl rfl rfl | exact Or.inl ⟨c_sub rfl (Sub.refl _) rfl, c_ptr rfl rfl rfl rfl⟩ | exact c_alt rfl rfl rfl rfl | exact c_sub rfl (Sub.altl _ _) rfl | refine ⟨_, _, rfl, ?_, ?_⟩ | apply And.intro) ⟨trivial, trivial, trivial⟩) (by first | exact .inl rfl | exact .inr rfl) rfl rfl rfl rfl rfl (Sub.refl _)
end Go.Proofs.Ytpnjkdmcalcleaa
