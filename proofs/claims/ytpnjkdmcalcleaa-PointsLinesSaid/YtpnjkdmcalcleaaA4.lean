/- Small letters. -/
import Derived.Test.YtpnjkdmcalcleaaA2
namespace Go.Proofs.Ytpnjkdmcalcleaa
open Go Go.RowKit

def lowB (b : UInt8) : UInt8 := if 65 ≤ b.toNat ∧ b.toNat ≤ 90 then b + 32 else b
def lowL (l : List UInt8) : List UInt8 := l.map lowB
def lowS (s : ByteArray) : ByteArray := ⟨(lowL s.data.toList).toArray⟩
theorem lowB_up {b : UInt8} (h : 65 ≤ b.toNat ∧ b.toNat ≤ 90) : ((lowB b).toNat : Int) = (b.toNat : Int) + 32 := by
  rw [lowB, if_pos h, UInt8.toNat_add]
  simp
  omega
theorem lowB_no {b : UInt8} (h : ¬ (65 ≤ b.toNat ∧ b.toNat ≤ 90)) : lowB b = b := by rw [lowB, if_neg h]
theorem getD_byte {s : ByteArray} {i : Nat} (h : i < s.data.toList.length) : s.data.toList.getD i 0 = s.data.toList[i] := by rw [List.getD_eq_getElem?_getD, List.getElem?_eq_getElem h]; rfl

theorem lower24 (s : ByteArray) (hs : s.size ≤ 70368744177663) : PCalls Try.prog 24 [.val (.string s)] (.val (.string (lowS s))) := by
  refine p_start Try.func24 Try.ntmps24 rfl rfl rfl fun S w => ?_
  have hsz := str_size s
  repeat (first
    | refine awp_seq ?_
    | refine thenA_normal ?_
    | refine awp_block ?_
    | refine a_region ?_
    | refine a_draw1 mixed_ok (by kernel_rfl) ?_
    | refine awp_ret ?_
    | refine awp_exit ?_
    | refine thenA_exit ?_
    | refine thenA_ret ?_
    | refine blockA_normal ?_
    | refine blockA_ret ?_
    | refine blockA_hit rfl ?_
    | refine blockA_miss rfl ?_
    | refine awp_skip ?_
    | refine r_done ?_
    | refine r_done' ?_
    | (refine r_id ?_; first
      | refine r_len tab_ok rfl rfl rfl rfl rfl rfl rfl ?_
      | refine r_ev tab_ok rfl rfl rfl rfl (by first | exact trivial | exact ⟨by omega, by omega⟩ | omega | exact ⟨by omega, by omega, by omega, by omega⟩ | exact Nat.le_of_ble_eq_true rfl) rfl ?_
      | refine r_ld tab_ok rfl rfl rfl rfl rfl ?_
      | refine r_idx tab_ok rfl rfl rfl rfl rfl rfl rfl (by first | exact ⟨by omega, by omega⟩ | (simp; omega)) rfl rfl ?_
      | refine r_idxd tab_ok rfl rfl rfl rfl rfl rfl rfl (by decide) rfl rfl rfl ?_
      | refine r_wr tab_ok rfl rfl rfl rfl rfl ?_
      | refine r_st tab_ok rfl rfl rfl rfl ?_
      | refine r_len_cnd tab_ok rfl rfl rfl rfl rfl rfl (by first | exact fun _ => rfl | exact cs1) rfl rfl rfl ?_
      | refine r_ev_cnd tab_ok rfl rfl rfl rfl rfl rfl (by first | exact fun _ => rfl | exact cs1 | exact cs2 | exact cs3) (by first | exact fun _ => trivial | (intro h; simp at h; first | exact ⟨by omega, by omega⟩ | omega)) rfl ?_
      | refine r_ld_cnd tab_ok rfl rfl rfl rfl rfl rfl (by first | exact fun _ => rfl | exact cs1 | exact cs2 | exact cs3) rfl ?_
      | refine r_idx_cnd tab_ok rfl rfl rfl rfl rfl rfl rfl (by first | exact fun _ => rfl | exact cs1 | exact cs2) rfl rfl (by exact ⟨by omega, by omega⟩) rfl rfl ?_
      | refine r_idx_cnd' tab_ok rfl rfl rfl rfl rfl rfl rfl (by first | exact fun _ => rfl | exact cs1 | exact cs2) rfl rfl (by intro h; simp at h; exact ⟨by omega, by omega⟩) rfl rfl ?_
      | refine r_and_cnd rfl rfl rfl rfl rfl rfl rfl rfl rfl rfl ?_
      | refine r_or_cnd rfl rfl rfl rfl rfl rfl rfl rfl rfl rfl ?_
      | refine r_or rfl rfl rfl rfl rfl rfl rfl rfl ?_
      | refine r_and rfl rfl rfl rfl rfl rfl rfl rfl ?_
      | refine r_pick_t rfl rfl rfl rfl rfl rfl rfl ?_
      | refine r_pick_f rfl rfl rfl rfl rfl rfl rfl ?_
      | refine r_off rfl rfl rfl rfl rfl rfl ?_
      | refine r_len_on tab_ok rfl rfl rfl rfl rfl rfl rfl rfl rfl ?_
      | refine r_ev_on tab_ok rfl rfl rfl rfl rfl rfl (by first | exact trivial | exact ⟨by omega, by omega⟩ | omega) rfl ?_
      | refine r_ld_on tab_ok rfl rfl rfl rfl rfl rfl rfl ?_
      | refine r_build tab_ok rfl rfl rfl rfl rfl rfl ?_
      | refine r_bstr tab_ok rfl rfl rfl rfl rfl rfl rfl rfl rfl rfl ?_
      | refine r_build_cnd tab_ok rfl rfl rfl rfl rfl (by first | exact fun _ => rfl | exact cs1) rfl rfl rfl ?_
      | refine r_built_cnd tab_ok rfl rfl rfl rfl rfl rfl rfl rfl (by first | exact fun _ => rfl | exact cs1) rfl rfl rfl ?_
      | refine r_rem rfl rfl rfl rfl rfl rfl (by omega) rfl ?_
      | refine r_built0 tab_ok rfl rfl rfl rfl rfl rfl rfl ?_
      | refine r_built tab_ok rfl rfl rfl rfl rfl rfl rfl rfl rfl ?_
      | refine r_range tab_ok rfl rfl rfl rfl rfl rfl rfl ?_
      | refine r_next rfl rfl rfl rfl (by assumption) rfl rfl rfl ?_
      | refine r_next_end rfl rfl rfl rfl (by assumption) rfl rfl rfl ?_
      | refine r_nilck rfl rfl rfl rfl rfl rfl rfl ?_
      | refine r_rstr tab_ok rfl rfl rfl rfl rfl rfl rfl rfl ?_
      | refine r_rsstr tab_ok rfl rfl rfl rfl rfl rfl rfl rfl rfl rfl ?_
      | refine r_bstr' tab_ok rfl rfl rfl rfl rfl rfl rfl rfl rfl ?_
      | refine r_rowstr tab_ok rfl rfl rfl rfl rfl rfl rfl rfl rfl rfl ?_
      | refine r_strd tab_ok rfl rfl rfl rfl rfl rfl (by omega) rfl rfl rfl ?_
      | refine r_idxr tab_ok rfl rfl rfl rfl rfl rfl rfl rfl (by first | exact ⟨by omega, by omega⟩ | (simp; omega)) rfl ?_
      | refine r_lde tab_ok rfl rfl rfl rfl rfl (by omega) rfl rfl rfl rfl ?_
      | refine r_idxr_cnd tab_ok rfl rfl rfl rfl rfl rfl rfl rfl (by first | exact fun _ => rfl | exact cs1 | exact cs2) rfl rfl (by first | (intro _; exact ⟨by omega, by omega⟩) | (intro h; simp at h ⊢; omega)) rfl ?_
      | refine r_lde_cnd tab_ok rfl rfl rfl rfl rfl rfl rfl (by first | exact fun _ => rfl | exact cs1 | exact cs2) (by omega) rfl rfl rfl rfl ?_
      | refine r_cut tab_ok rfl rfl rfl rfl rfl rfl rfl rfl (by first | exact ⟨by simp, by simp; omega, by simp⟩ | (simp; omega)) rfl ?_
      | refine r_append tab_ok rfl rfl rfl rfl rfl rfl rfl rfl rfl (by first | omega | (simp; omega)) rfl ?_
      | refine r_append_nil tab_ok rfl rfl rfl rfl rfl rfl rfl rfl (by first | omega | (simp; omega)) rfl ?_)
    | refine ret1 (by first | exact .inl rfl | exact .inr rfl) rfl rfl rfl ?_
    | refine ret1_row (by first | exact .inl rfl | exact .inr rfl) rfl rfl rfl ?_
    | refine ret2 (by first | exact .inl rfl | exact .inr rfl) rfl rfl rfl rfl ?_ ?_
    | refine retM1 (by first | exact .inl rfl | exact .inr rfl) rfl rfl rfl rfl rfl ?_
    | exact retM0 (by first | exact .inl rfl | exact .inr rfl) rfl rfl rfl
    | refine awp_cond_t rfl ?_
    | refine awp_cond_f rfl ?_)
  refine a_loop (σ := {i : Nat // i ≤ s.size}) (fun x => [.box 41 [.alt (.val (.pointer none)) (.ptr 0 0), .row 1 0], .row 0 5 1 ((lowL (s.data.toList.take x.1)).map bD)]) (fun x => [(0, .val (.string s)), (3, .ptr 0 0), (7, .val (.int .i64 s.size)), (8, .val (.int .i64 x.1))]) (fun x => s.size - x.1) ⟨0, by omega⟩ (fits_conv (by repeat' first | exact trivial | exact rfl | (rw [List.map_append]; first | done | rfl) | exact c_sub rfl (Sub.refl _) rfl | exact c_nil rfl rfl | exact c_thaw rfl rfl rfl | exact c_row rfl rfl rfl | exact c_row rfl rfl (by rw [List.map_append]; first | done | rfl) | exact c_ptr rfl rfl rfl rfl | exact Or.inl ⟨c_sub rfl (Sub.refl _) rfl, c_ptr rfl rfl rfl rfl⟩ | exact c_alt rfl rfl rfl rfl | exact c_sub rfl (Sub.altl _ _) rfl | refine ⟨_, _, rfl, ?_, ?_⟩ | apply And.intro) (by repeat' first | exact trivial | exact rfl | (rw [List.map_append]; first | done | rfl) | exact c_sub rfl (Sub.refl _) rfl | exact c_nil rfl rfl | exact c_thaw rfl rfl rfl | exact c_row rfl rfl rfl | exact c_row rfl rfl (by rw [List.map_append]; first | done | rfl) | exact c_ptr rfl rfl rfl rfl | exact Or.inl ⟨c_sub rfl (Sub.refl _) rfl, c_ptr rfl rfl rfl rfl⟩ | exact c_alt rfl rfl rfl rfl | exact c_sub rfl (Sub.altl _ _) rfl | refine ⟨_, _, rfl, ?_, ?_⟩ | apply And.intro)) ?_
  rintro ⟨i, hi⟩
  dsimp only
  have hll : (lowL (s.data.toList.take i)).length ≤ s.size := by simp [lowL]; omega
  repeat (first
    | refine awp_seq ?_
    | refine thenA_normal ?_
    | refine awp_block ?_
    | refine a_region ?_
    | refine a_draw1 mixed_ok (by kernel_rfl) ?_
    | refine awp_ret ?_
    | refine awp_exit ?_
    | refine thenA_exit ?_
    | refine thenA_ret ?_
    | refine blockA_normal ?_
    | refine blockA_ret ?_
    | refine blockA_hit rfl ?_
    | refine blockA_miss rfl ?_
    | refine awp_skip ?_
    | refine r_done ?_
    | refine r_done' ?_
    | (refine r_id ?_; first
      | refine r_len tab_ok rfl rfl rfl rfl rfl rfl rfl ?_
      | refine r_ev tab_ok rfl rfl rfl rfl (by first | exact trivial | exact ⟨by omega, by omega⟩ | omega | exact ⟨by omega, by omega, by omega, by omega⟩ | exact Nat.le_of_ble_eq_true rfl) rfl ?_
      | refine r_ld tab_ok rfl rfl rfl rfl rfl ?_
      | refine r_idx tab_ok rfl rfl rfl rfl rfl rfl rfl (by first | exact ⟨by omega, by omega⟩ | (simp; omega)) rfl rfl ?_
      | refine r_idxd tab_ok rfl rfl rfl rfl rfl rfl rfl (by decide) rfl rfl rfl ?_
      | refine r_wr tab_ok rfl rfl rfl rfl rfl ?_
      | refine r_st tab_ok rfl rfl rfl rfl ?_
      | refine r_len_cnd tab_ok rfl rfl rfl rfl rfl rfl (by first | exact fun _ => rfl | exact cs1) rfl rfl rfl ?_
      | refine r_ev_cnd tab_ok rfl rfl rfl rfl rfl rfl (by first | exact fun _ => rfl | exact cs1 | exact cs2 | exact cs3) (by first | exact fun _ => trivial | (intro h; simp at h; first | exact ⟨by omega, by omega⟩ | omega)) rfl ?_
      | refine r_ld_cnd tab_ok rfl rfl rfl rfl rfl rfl (by first | exact fun _ => rfl | exact cs1 | exact cs2 | exact cs3) rfl ?_
      | refine r_idx_cnd tab_ok rfl rfl rfl rfl rfl rfl rfl (by first | exact fun _ => rfl | exact cs1 | exact cs2) rfl rfl (by exact ⟨by omega, by omega⟩) rfl rfl ?_
      | refine r_idx_cnd' tab_ok rfl rfl rfl rfl rfl rfl rfl (by first | exact fun _ => rfl | exact cs1 | exact cs2) rfl rfl (by intro h; simp at h; exact ⟨by omega, by omega⟩) rfl rfl ?_
      | refine r_and_cnd rfl rfl rfl rfl rfl rfl rfl rfl rfl rfl ?_
      | refine r_or_cnd rfl rfl rfl rfl rfl rfl rfl rfl rfl rfl ?_
      | refine r_or rfl rfl rfl rfl rfl rfl rfl rfl ?_
      | refine r_and rfl rfl rfl rfl rfl rfl rfl rfl ?_
      | refine r_pick_t rfl rfl rfl rfl rfl rfl rfl ?_
      | refine r_pick_f rfl rfl rfl rfl rfl rfl rfl ?_
      | refine r_off rfl rfl rfl rfl rfl rfl ?_
      | refine r_len_on tab_ok rfl rfl rfl rfl rfl rfl rfl rfl rfl ?_
      | refine r_ev_on tab_ok rfl rfl rfl rfl rfl rfl (by first | exact trivial | exact ⟨by omega, by omega⟩ | omega) rfl ?_
      | refine r_ld_on tab_ok rfl rfl rfl rfl rfl rfl rfl ?_
      | refine r_build tab_ok rfl rfl rfl rfl rfl rfl ?_
      | refine r_bstr tab_ok rfl rfl rfl rfl rfl rfl rfl rfl rfl rfl ?_
      | refine r_build_cnd tab_ok rfl rfl rfl rfl rfl (by first | exact fun _ => rfl | exact cs1) rfl rfl rfl ?_
      | refine r_built_cnd tab_ok rfl rfl rfl rfl rfl rfl rfl rfl (by first | exact fun _ => rfl | exact cs1) rfl rfl rfl ?_
      | refine r_rem rfl rfl rfl rfl rfl rfl (by omega) rfl ?_
      | refine r_built0 tab_ok rfl rfl rfl rfl rfl rfl rfl ?_
      | refine r_built tab_ok rfl rfl rfl rfl rfl rfl rfl rfl rfl ?_
      | refine r_range tab_ok rfl rfl rfl rfl rfl rfl rfl ?_
      | refine r_next rfl rfl rfl rfl (by assumption) rfl rfl rfl ?_
      | refine r_next_end rfl rfl rfl rfl (by assumption) rfl rfl rfl ?_
      | refine r_nilck rfl rfl rfl rfl rfl rfl rfl ?_
      | refine r_rstr tab_ok rfl rfl rfl rfl rfl rfl rfl rfl ?_
      | refine r_rsstr tab_ok rfl rfl rfl rfl rfl rfl rfl rfl rfl rfl ?_
      | refine r_bstr' tab_ok rfl rfl rfl rfl rfl rfl rfl rfl rfl ?_
      | refine r_rowstr tab_ok rfl rfl rfl rfl rfl rfl rfl rfl rfl rfl ?_
      | refine r_strd tab_ok rfl rfl rfl rfl rfl rfl (by omega) rfl rfl rfl ?_
      | refine r_idxr tab_ok rfl rfl rfl rfl rfl rfl rfl rfl (by first | exact ⟨by omega, by omega⟩ | (simp; omega)) rfl ?_
      | refine r_lde tab_ok rfl rfl rfl rfl rfl (by omega) rfl rfl rfl rfl ?_
      | refine r_idxr_cnd tab_ok rfl rfl rfl rfl rfl rfl rfl rfl (by first | exact fun _ => rfl | exact cs1 | exact cs2) rfl rfl (by first | (intro _; exact ⟨by omega, by omega⟩) | (intro h; simp at h ⊢; omega)) rfl ?_
      | refine r_lde_cnd tab_ok rfl rfl rfl rfl rfl rfl rfl (by first | exact fun _ => rfl | exact cs1 | exact cs2) (by omega) rfl rfl rfl rfl ?_
      | refine r_cut tab_ok rfl rfl rfl rfl rfl rfl rfl rfl (by first | exact ⟨by simp, by simp; omega, by simp⟩ | (simp; omega)) rfl ?_
      | refine r_append tab_ok rfl rfl rfl rfl rfl rfl rfl rfl rfl (by first | omega | (simp; omega)) rfl ?_
      | refine r_append_nil tab_ok rfl rfl rfl rfl rfl rfl rfl rfl (by first | omega | (simp; omega)) rfl ?_)
    | refine ret1 (by first | exact .inl rfl | exact .inr rfl) rfl rfl rfl ?_
    | refine ret1_row (by first | exact .inl rfl | exact .inr rfl) rfl rfl rfl ?_
    | refine ret2 (by first | exact .inl rfl | exact .inr rfl) rfl rfl rfl rfl ?_ ?_
    | refine retM1 (by first | exact .inl rfl | exact .inr rfl) rfl rfl rfl rfl rfl ?_
    | exact retM0 (by first | exact .inl rfl | exact .inr rfl) rfl rfl rfl
    | refine awp_cond_t rfl ?_
    | refine awp_cond_f rfl ?_)
  refine awp_cond_p rfl (fun hlt => ?_) (fun hge => ?_)
  · have hi' : i < s.data.toList.length := by omega
    repeat (first
      | refine awp_seq ?_
      | refine thenA_normal ?_
      | refine awp_block ?_
      | refine a_region ?_
      | refine a_draw1 mixed_ok (by kernel_rfl) ?_
      | refine awp_ret ?_
      | refine awp_exit ?_
      | refine thenA_exit ?_
      | refine thenA_ret ?_
      | refine blockA_normal ?_
      | refine blockA_ret ?_
      | refine blockA_hit rfl ?_
      | refine blockA_miss rfl ?_
      | refine awp_skip ?_
      | refine r_done ?_
      | refine r_done' ?_
      | (refine r_id ?_; first
        | refine r_len tab_ok rfl rfl rfl rfl rfl rfl rfl ?_
        | refine r_ev tab_ok rfl rfl rfl rfl (by first | exact trivial | exact ⟨by omega, by omega⟩ | omega | exact ⟨by omega, by omega, by omega, by omega⟩ | exact Nat.le_of_ble_eq_true rfl) rfl ?_
        | refine r_ld tab_ok rfl rfl rfl rfl rfl ?_
        | refine r_idx tab_ok rfl rfl rfl rfl rfl rfl rfl (by first | exact ⟨by omega, by omega⟩ | (simp; omega)) rfl rfl ?_
        | refine r_idxd tab_ok rfl rfl rfl rfl rfl rfl rfl (by decide) rfl rfl rfl ?_
        | refine r_wr tab_ok rfl rfl rfl rfl rfl ?_
        | refine r_st tab_ok rfl rfl rfl rfl ?_
        | refine r_len_cnd tab_ok rfl rfl rfl rfl rfl rfl (by first | exact fun _ => rfl | exact cs1) rfl rfl rfl ?_
        | refine r_ev_cnd tab_ok rfl rfl rfl rfl rfl rfl (by first | exact fun _ => rfl | exact cs1 | exact cs2 | exact cs3) (by first | exact fun _ => trivial | (intro h; simp at h; first | exact ⟨by omega, by omega⟩ | omega)) rfl ?_
        | refine r_ld_cnd tab_ok rfl rfl rfl rfl rfl rfl (by first | exact fun _ => rfl | exact cs1 | exact cs2 | exact cs3) rfl ?_
        | refine r_idx_cnd tab_ok rfl rfl rfl rfl rfl rfl rfl (by first | exact fun _ => rfl | exact cs1 | exact cs2) rfl rfl (by exact ⟨by omega, by omega⟩) rfl rfl ?_
        | refine r_idx_cnd' tab_ok rfl rfl rfl rfl rfl rfl rfl (by first | exact fun _ => rfl | exact cs1 | exact cs2) rfl rfl (by intro h; simp at h; exact ⟨by omega, by omega⟩) rfl rfl ?_
        | refine r_and_cnd rfl rfl rfl rfl rfl rfl rfl rfl rfl rfl ?_
        | refine r_or_cnd rfl rfl rfl rfl rfl rfl rfl rfl rfl rfl ?_
        | refine r_or rfl rfl rfl rfl rfl rfl rfl rfl ?_
        | refine r_and rfl rfl rfl rfl rfl rfl rfl rfl ?_
        | refine r_pick_t rfl rfl rfl rfl rfl rfl rfl ?_
        | refine r_pick_f rfl rfl rfl rfl rfl rfl rfl ?_
        | refine r_off rfl rfl rfl rfl rfl rfl ?_
        | refine r_len_on tab_ok rfl rfl rfl rfl rfl rfl rfl rfl rfl ?_
        | refine r_ev_on tab_ok rfl rfl rfl rfl rfl rfl (by first | exact trivial | exact ⟨by omega, by omega⟩ | omega) rfl ?_
        | refine r_ld_on tab_ok rfl rfl rfl rfl rfl rfl rfl ?_
        | refine r_build tab_ok rfl rfl rfl rfl rfl rfl ?_
        | refine r_bstr tab_ok rfl rfl rfl rfl rfl rfl rfl rfl rfl rfl ?_
        | refine r_build_cnd tab_ok rfl rfl rfl rfl rfl (by first | exact fun _ => rfl | exact cs1) rfl rfl rfl ?_
        | refine r_built_cnd tab_ok rfl rfl rfl rfl rfl rfl rfl rfl (by first | exact fun _ => rfl | exact cs1) rfl rfl rfl ?_
        | refine r_rem rfl rfl rfl rfl rfl rfl (by omega) rfl ?_
        | refine r_built0 tab_ok rfl rfl rfl rfl rfl rfl rfl ?_
        | refine r_built tab_ok rfl rfl rfl rfl rfl rfl rfl rfl rfl ?_
        | refine r_range tab_ok rfl rfl rfl rfl rfl rfl rfl ?_
        | refine r_next rfl rfl rfl rfl (by assumption) rfl rfl rfl ?_
        | refine r_next_end rfl rfl rfl rfl (by assumption) rfl rfl rfl ?_
        | refine r_nilck rfl rfl rfl rfl rfl rfl rfl ?_
        | refine r_rstr tab_ok rfl rfl rfl rfl rfl rfl rfl rfl ?_
        | refine r_rsstr tab_ok rfl rfl rfl rfl rfl rfl rfl rfl rfl rfl ?_
        | refine r_bstr' tab_ok rfl rfl rfl rfl rfl rfl rfl rfl rfl ?_
        | refine r_rowstr tab_ok rfl rfl rfl rfl rfl rfl rfl rfl rfl rfl ?_
        | refine r_strd tab_ok rfl rfl rfl rfl rfl rfl (by omega) rfl rfl rfl ?_
        | refine r_idxr tab_ok rfl rfl rfl rfl rfl rfl rfl rfl (by first | exact ⟨by omega, by omega⟩ | (simp; omega)) rfl ?_
        | refine r_lde tab_ok rfl rfl rfl rfl rfl (by omega) rfl rfl rfl rfl ?_
        | refine r_idxr_cnd tab_ok rfl rfl rfl rfl rfl rfl rfl rfl (by first | exact fun _ => rfl | exact cs1 | exact cs2) rfl rfl (by first | (intro _; exact ⟨by omega, by omega⟩) | (intro h; simp at h ⊢; omega)) rfl ?_
        | refine r_lde_cnd tab_ok rfl rfl rfl rfl rfl rfl rfl (by first | exact fun _ => rfl | exact cs1 | exact cs2) (by omega) rfl rfl rfl rfl ?_
        | refine r_cut tab_ok rfl rfl rfl rfl rfl rfl rfl rfl (by first | exact ⟨by simp, by simp; omega, by simp⟩ | (simp; omega)) rfl ?_
        | refine r_append tab_ok rfl rfl rfl rfl rfl rfl rfl rfl rfl (by first | omega | (simp; omega)) rfl ?_
        | refine r_append_nil tab_ok rfl rfl rfl rfl rfl rfl rfl rfl (by first | omega | (simp; omega)) rfl ?_)
      | refine ret1 (by first | exact .inl rfl | exact .inr rfl) rfl rfl rfl ?_
      | refine ret1_row (by first | exact .inl rfl | exact .inr rfl) rfl rfl rfl ?_
      | refine ret2 (by first | exact .inl rfl | exact .inr rfl) rfl rfl rfl rfl ?_ ?_
      | refine retM1 (by first | exact .inl rfl | exact .inr rfl) rfl rfl rfl rfl rfl ?_
      | exact retM0 (by first | exact .inl rfl | exact .inr rfl) rfl rfl rfl
      | refine awp_cond_t rfl ?_
      | refine awp_cond_f rfl ?_)
    have hb : (s.data.toList.getD ((i : Int)).toNat 0) = s.data.toList[i] := by rw [Int.toNat_natCast, getD_byte hi']
    rw [hb]
    have htk : lowL (s.data.toList.take (i + 1)) = lowL (s.data.toList.take i) ++ [lowB s.data.toList[i]] := by
      rw [lowL, List.take_add_one, List.getElem?_eq_getElem hi']; simp [lowL]
    generalize s.data.toList[i] = b at htk ⊢
    refine awp_cond rfl (fun h => ?_) (fun h => ?_)
    · have h' : 65 ≤ b.toNat ∧ b.toNat ≤ 90 := by simp at h; omega
      repeat (first
        | refine awp_seq ?_
        | refine thenA_normal ?_
        | refine awp_block ?_
        | refine a_region ?_
        | refine a_draw1 mixed_ok (by kernel_rfl) ?_
        | refine awp_ret ?_
        | refine awp_exit ?_
        | refine thenA_exit ?_
        | refine thenA_ret ?_
        | refine blockA_normal ?_
        | refine blockA_ret ?_
        | refine blockA_hit rfl ?_
        | refine blockA_miss rfl ?_
        | refine awp_skip ?_
        | refine r_done ?_
        | refine r_done' ?_
        | (refine r_id ?_; first
          | refine r_len tab_ok rfl rfl rfl rfl rfl rfl rfl ?_
          | refine r_ev tab_ok rfl rfl rfl rfl (by first | exact trivial | exact ⟨by omega, by omega⟩ | omega | exact ⟨by omega, by omega, by omega, by omega⟩ | exact Nat.le_of_ble_eq_true rfl) rfl ?_
          | refine r_ld tab_ok rfl rfl rfl rfl rfl ?_
          | refine r_idx tab_ok rfl rfl rfl rfl rfl rfl rfl (by first | exact ⟨by omega, by omega⟩ | (simp; omega)) rfl rfl ?_
          | refine r_idxd tab_ok rfl rfl rfl rfl rfl rfl rfl (by decide) rfl rfl rfl ?_
          | refine r_wr tab_ok rfl rfl rfl rfl rfl ?_
          | refine r_st tab_ok rfl rfl rfl rfl ?_
          | refine r_len_cnd tab_ok rfl rfl rfl rfl rfl rfl (by first | exact fun _ => rfl | exact cs1) rfl rfl rfl ?_
          | refine r_ev_cnd tab_ok rfl rfl rfl rfl rfl rfl (by first | exact fun _ => rfl | exact cs1 | exact cs2 | exact cs3) (by first | exact fun _ => trivial | (intro h; simp at h; first | exact ⟨by omega, by omega⟩ | omega)) rfl ?_
          | refine r_ld_cnd tab_ok rfl rfl rfl rfl rfl rfl (by first | exact fun _ => rfl | exact cs1 | exact cs2 | exact cs3) rfl ?_
          | refine r_idx_cnd tab_ok rfl rfl rfl rfl rfl rfl rfl (by first | exact fun _ => rfl | exact cs1 | exact cs2) rfl rfl (by exact ⟨by omega, by omega⟩) rfl rfl ?_
          | refine r_idx_cnd' tab_ok rfl rfl rfl rfl rfl rfl rfl (by first | exact fun _ => rfl | exact cs1 | exact cs2) rfl rfl (by intro h; simp at h; exact ⟨by omega, by omega⟩) rfl rfl ?_
          | refine r_and_cnd rfl rfl rfl rfl rfl rfl rfl rfl rfl rfl ?_
          | refine r_or_cnd rfl rfl rfl rfl rfl rfl rfl rfl rfl rfl ?_
          | refine r_or rfl rfl rfl rfl rfl rfl rfl rfl ?_
          | refine r_and rfl rfl rfl rfl rfl rfl rfl rfl ?_
          | refine r_pick_t rfl rfl rfl rfl rfl rfl rfl ?_
          | refine r_pick_f rfl rfl rfl rfl rfl rfl rfl ?_
          | refine r_off rfl rfl rfl rfl rfl rfl ?_
          | refine r_len_on tab_ok rfl rfl rfl rfl rfl rfl rfl rfl rfl ?_
          | refine r_ev_on tab_ok rfl rfl rfl rfl rfl rfl (by first | exact trivial | exact ⟨by omega, by omega⟩ | omega) rfl ?_
          | refine r_ld_on tab_ok rfl rfl rfl rfl rfl rfl rfl ?_
          | refine r_build tab_ok rfl rfl rfl rfl rfl rfl ?_
          | refine r_bstr tab_ok rfl rfl rfl rfl rfl rfl rfl rfl rfl rfl ?_
          | refine r_build_cnd tab_ok rfl rfl rfl rfl rfl (by first | exact fun _ => rfl | exact cs1) rfl rfl rfl ?_
          | refine r_built_cnd tab_ok rfl rfl rfl rfl rfl rfl rfl rfl (by first | exact fun _ => rfl | exact cs1) rfl rfl rfl ?_
          | refine r_rem rfl rfl rfl rfl rfl rfl (by omega) rfl ?_
          | refine r_built0 tab_ok rfl rfl rfl rfl rfl rfl rfl ?_
          | refine r_built tab_ok rfl rfl rfl rfl rfl rfl rfl rfl rfl ?_
          | refine r_range tab_ok rfl rfl rfl rfl rfl rfl rfl ?_
          | refine r_next rfl rfl rfl rfl (by assumption) rfl rfl rfl ?_
          | refine r_next_end rfl rfl rfl rfl (by assumption) rfl rfl rfl ?_
          | refine r_nilck rfl rfl rfl rfl rfl rfl rfl ?_
          | refine r_rstr tab_ok rfl rfl rfl rfl rfl rfl rfl rfl ?_
          | refine r_rsstr tab_ok rfl rfl rfl rfl rfl rfl rfl rfl rfl rfl ?_
          | refine r_bstr' tab_ok rfl rfl rfl rfl rfl rfl rfl rfl rfl ?_
          | refine r_rowstr tab_ok rfl rfl rfl rfl rfl rfl rfl rfl rfl rfl ?_
          | refine r_strd tab_ok rfl rfl rfl rfl rfl rfl (by omega) rfl rfl rfl ?_
          | refine r_idxr tab_ok rfl rfl rfl rfl rfl rfl rfl rfl (by first | exact ⟨by omega, by omega⟩ | (simp; omega)) rfl ?_
          | refine r_lde tab_ok rfl rfl rfl rfl rfl (by omega) rfl rfl rfl rfl ?_
          | refine r_idxr_cnd tab_ok rfl rfl rfl rfl rfl rfl rfl rfl (by first | exact fun _ => rfl | exact cs1 | exact cs2) rfl rfl (by first | (intro _; exact ⟨by omega, by omega⟩) | (intro h; simp at h ⊢; omega)) rfl ?_
          | refine r_lde_cnd tab_ok rfl rfl rfl rfl rfl rfl rfl (by first | exact fun _ => rfl | exact cs1 | exact cs2) (by omega) rfl rfl rfl rfl ?_
          | refine r_cut tab_ok rfl rfl rfl rfl rfl rfl rfl rfl (by first | exact ⟨by simp, by simp; omega, by simp⟩ | (simp; omega)) rfl ?_
          | refine r_append tab_ok rfl rfl rfl rfl rfl rfl rfl rfl rfl (by first | omega | (simp; omega)) rfl ?_
          | refine r_append_nil tab_ok rfl rfl rfl rfl rfl rfl rfl rfl (by first | omega | (simp; omega)) rfl ?_)
        | refine ret1 (by first | exact .inl rfl | exact .inr rfl) rfl rfl rfl ?_
        | refine ret1_row (by first | exact .inl rfl | exact .inr rfl) rfl rfl rfl ?_
        | refine ret2 (by first | exact .inl rfl | exact .inr rfl) rfl rfl rfl rfl ?_ ?_
        | refine retM1 (by first | exact .inl rfl | exact .inr rfl) rfl rfl rfl rfl rfl ?_
        | exact retM0 (by first | exact .inl rfl | exact .inr rfl) rfl rfl rfl
        | refine awp_cond_t rfl ?_
        | refine awp_cond_f rfl ?_)
      rw [← lowB_up h']
      refine r_mcall [0, 1] (write_ok _ (lowB b) (by omega)) call26 rfl rfl ⟨rfl, rfl, trivial⟩ (by decide) ⟨Sub.refl _, Sub.refl _, trivial⟩ rfl rfl rfl rfl rfl rfl rfl ?_
      repeat (first
        | refine awp_seq ?_
        | refine thenA_normal ?_
        | refine awp_block ?_
        | refine a_region ?_
        | refine a_draw1 mixed_ok (by kernel_rfl) ?_
        | refine awp_ret ?_
        | refine awp_exit ?_
        | refine thenA_exit ?_
        | refine thenA_ret ?_
        | refine blockA_normal ?_
        | refine blockA_ret ?_
        | refine blockA_hit rfl ?_
        | refine blockA_miss rfl ?_
        | refine awp_skip ?_
        | refine r_done ?_
        | refine r_done' ?_
        | (refine r_id ?_; first
          | refine r_len tab_ok rfl rfl rfl rfl rfl rfl rfl ?_
          | refine r_ev tab_ok rfl rfl rfl rfl (by first | exact trivial | exact ⟨by omega, by omega⟩ | omega | exact ⟨by omega, by omega, by omega, by omega⟩ | exact Nat.le_of_ble_eq_true rfl) rfl ?_
          | refine r_ld tab_ok rfl rfl rfl rfl rfl ?_
          | refine r_idx tab_ok rfl rfl rfl rfl rfl rfl rfl (by first | exact ⟨by omega, by omega⟩ | (simp; omega)) rfl rfl ?_
          | refine r_idxd tab_ok rfl rfl rfl rfl rfl rfl rfl (by decide) rfl rfl rfl ?_
          | refine r_wr tab_ok rfl rfl rfl rfl rfl ?_
          | refine r_st tab_ok rfl rfl rfl rfl ?_
          | refine r_len_cnd tab_ok rfl rfl rfl rfl rfl rfl (by first | exact fun _ => rfl | exact cs1) rfl rfl rfl ?_
          | refine r_ev_cnd tab_ok rfl rfl rfl rfl rfl rfl (by first | exact fun _ => rfl | exact cs1 | exact cs2 | exact cs3) (by first | exact fun _ => trivial | (intro h; simp at h; first | exact ⟨by omega, by omega⟩ | omega)) rfl ?_
          | refine r_ld_cnd tab_ok rfl rfl rfl rfl rfl rfl (by first | exact fun _ => rfl | exact cs1 | exact cs2 | exact cs3) rfl ?_
          | refine r_idx_cnd tab_ok rfl rfl rfl rfl rfl rfl rfl (by first | exact fun _ => rfl | exact cs1 | exact cs2) rfl rfl (by exact ⟨by omega, by omega⟩) rfl rfl ?_
          | refine r_idx_cnd' tab_ok rfl rfl rfl rfl rfl rfl rfl (by first | exact fun _ => rfl | exact cs1 | exact cs2) rfl rfl (by intro h; simp at h; exact ⟨by omega, by omega⟩) rfl rfl ?_
          | refine r_and_cnd rfl rfl rfl rfl rfl rfl rfl rfl rfl rfl ?_
          | refine r_or_cnd rfl rfl rfl rfl rfl rfl rfl rfl rfl rfl ?_
          | refine r_or rfl rfl rfl rfl rfl rfl rfl rfl ?_
          | refine r_and rfl rfl rfl rfl rfl rfl rfl rfl ?_
          | refine r_pick_t rfl rfl rfl rfl rfl rfl rfl ?_
          | refine r_pick_f rfl rfl rfl rfl rfl rfl rfl ?_
          | refine r_off rfl rfl rfl rfl rfl rfl ?_
          | refine r_len_on tab_ok rfl rfl rfl rfl rfl rfl rfl rfl rfl ?_
          | refine r_ev_on tab_ok rfl rfl rfl rfl rfl rfl (by first | exact trivial | exact ⟨by omega, by omega⟩ | omega) rfl ?_
          | refine r_ld_on tab_ok rfl rfl rfl rfl rfl rfl rfl ?_
          | refine r_build tab_ok rfl rfl rfl rfl rfl rfl ?_
          | refine r_bstr tab_ok rfl rfl rfl rfl rfl rfl rfl rfl rfl rfl ?_
          | refine r_build_cnd tab_ok rfl rfl rfl rfl rfl (by first | exact fun _ => rfl | exact cs1) rfl rfl rfl ?_
          | refine r_built_cnd tab_ok rfl rfl rfl rfl rfl rfl rfl rfl (by first | exact fun _ => rfl | exact cs1) rfl rfl rfl ?_
          | refine r_rem rfl rfl rfl rfl rfl rfl (by omega) rfl ?_
          | refine r_built0 tab_ok rfl rfl rfl rfl rfl rfl rfl ?_
          | refine r_built tab_ok rfl rfl rfl rfl rfl rfl rfl rfl rfl ?_
          | refine r_range tab_ok rfl rfl rfl rfl rfl rfl rfl ?_
          | refine r_next rfl rfl rfl rfl (by assumption) rfl rfl rfl ?_
          | refine r_next_end rfl rfl rfl rfl (by assumption) rfl rfl rfl ?_
          | refine r_nilck rfl rfl rfl rfl rfl rfl rfl ?_
          | refine r_rstr tab_ok rfl rfl rfl rfl rfl rfl rfl rfl ?_
          | refine r_rsstr tab_ok rfl rfl rfl rfl rfl rfl rfl rfl rfl rfl ?_
          | refine r_bstr' tab_ok rfl rfl rfl rfl rfl rfl rfl rfl rfl ?_
          | refine r_rowstr tab_ok rfl rfl rfl rfl rfl rfl rfl rfl rfl rfl ?_
          | refine r_strd tab_ok rfl rfl rfl rfl rfl rfl (by omega) rfl rfl rfl ?_
          | refine r_idxr tab_ok rfl rfl rfl rfl rfl rfl rfl rfl (by first | exact ⟨by omega, by omega⟩ | (simp; omega)) rfl ?_
          | refine r_lde tab_ok rfl rfl rfl rfl rfl (by omega) rfl rfl rfl rfl ?_
          | refine r_idxr_cnd tab_ok rfl rfl rfl rfl rfl rfl rfl rfl (by first | exact fun _ => rfl | exact cs1 | exact cs2) rfl rfl (by first | (intro _; exact ⟨by omega, by omega⟩) | (intro h; simp at h ⊢; omega)) rfl ?_
          | refine r_lde_cnd tab_ok rfl rfl rfl rfl rfl rfl rfl (by first | exact fun _ => rfl | exact cs1 | exact cs2) (by omega) rfl rfl rfl rfl ?_
          | refine r_cut tab_ok rfl rfl rfl rfl rfl rfl rfl rfl (by first | exact ⟨by simp, by simp; omega, by simp⟩ | (simp; omega)) rfl ?_
          | refine r_append tab_ok rfl rfl rfl rfl rfl rfl rfl rfl rfl (by first | omega | (simp; omega)) rfl ?_
          | refine r_append_nil tab_ok rfl rfl rfl rfl rfl rfl rfl rfl (by first | omega | (simp; omega)) rfl ?_)
        | refine ret1 (by first | exact .inl rfl | exact .inr rfl) rfl rfl rfl ?_
        | refine ret1_row (by first | exact .inl rfl | exact .inr rfl) rfl rfl rfl ?_
        | refine ret2 (by first | exact .inl rfl | exact .inr rfl) rfl rfl rfl rfl ?_ ?_
        | refine retM1 (by first | exact .inl rfl | exact .inr rfl) rfl rfl rfl rfl rfl ?_
        | exact retM0 (by first | exact .inl rfl | exact .inr rfl) rfl rfl rfl
        | refine awp_cond_t rfl ?_
        | refine awp_cond_f rfl ?_)
      refine ⟨⟨i + 1, by omega⟩, by dsimp only; omega, ?_⟩
      dsimp only
      rw [htk]
      exact fits_conv (by repeat' first | exact trivial | exact rfl | (rw [List.map_append]; first | done | rfl) | exact c_sub rfl (Sub.refl _) rfl | exact c_nil rfl rfl | exact c_thaw rfl rfl rfl | exact c_row rfl rfl rfl | exact c_row rfl rfl (by rw [List.map_append]; first | done | rfl) | exact c_ptr rfl rfl rfl rfl | exact Or.inl ⟨c_sub rfl (Sub.refl _) rfl, c_ptr rfl rfl rfl rfl⟩ | exact c_alt rfl rfl rfl rfl | exact c_sub rfl (Sub.altl _ _) rfl | refine ⟨_, _, rfl, ?_, ?_⟩ | apply And.intro) (by repeat' first | exact trivial | exact rfl | (rw [List.map_append]; first | done | rfl) | exact c_sub rfl (Sub.refl _) rfl | exact c_nil rfl rfl | exact c_thaw rfl rfl rfl | exact c_row rfl rfl rfl | exact c_row rfl rfl (by rw [List.map_append]; first | done | rfl) | exact c_ptr rfl rfl rfl rfl | exact Or.inl ⟨c_sub rfl (Sub.refl _) rfl, c_ptr rfl rfl rfl rfl⟩ | exact c_alt rfl rfl rfl rfl | exact c_sub rfl (Sub.altl _ _) rfl | refine ⟨_, _, rfl, ?_, ?_⟩ | apply And.intro)
    · have h' : ¬ (65 ≤ b.toNat ∧ b.toNat ≤ 90) := by simp at h; omega
      repeat (first
        | refine awp_seq ?_
        | refine thenA_normal ?_
        | refine awp_block ?_
        | refine a_region ?_
        | refine a_draw1 mixed_ok (by kernel_rfl) ?_
        | refine awp_ret ?_
        | refine awp_exit ?_
        | refine thenA_exit ?_
        | refine thenA_ret ?_
        | refine blockA_normal ?_
        | refine blockA_ret ?_
        | refine blockA_hit rfl ?_
        | refine blockA_miss rfl ?_
        | refine awp_skip ?_
        | refine r_done ?_
        | refine r_done' ?_
        | (refine r_id ?_; first
          | refine r_len tab_ok rfl rfl rfl rfl rfl rfl rfl ?_
          | refine r_ev tab_ok rfl rfl rfl rfl (by first | exact trivial | exact ⟨by omega, by omega⟩ | omega | exact ⟨by omega, by omega, by omega, by omega⟩ | exact Nat.le_of_ble_eq_true rfl) rfl ?_
          | refine r_ld tab_ok rfl rfl rfl rfl rfl ?_
          | refine r_idx tab_ok rfl rfl rfl rfl rfl rfl rfl (by first | exact ⟨by omega, by omega⟩ | (simp; omega)) rfl rfl ?_
          | refine r_idxd tab_ok rfl rfl rfl rfl rfl rfl rfl (by decide) rfl rfl rfl ?_
          | refine r_wr tab_ok rfl rfl rfl rfl rfl ?_
          | refine r_st tab_ok rfl rfl rfl rfl ?_
          | refine r_len_cnd tab_ok rfl rfl rfl rfl rfl rfl (by first | exact fun _ => rfl | exact cs1) rfl rfl rfl ?_
          | refine r_ev_cnd tab_ok rfl rfl rfl rfl rfl rfl (by first | exact fun _ => rfl | exact cs1 | exact cs2 | exact cs3) (by first | exact fun _ => trivial | (intro h; simp at h; first | exact ⟨by omega, by omega⟩ | omega)) rfl ?_
          | refine r_ld_cnd tab_ok rfl rfl rfl rfl rfl rfl (by first | exact fun _ => rfl | exact cs1 | exact cs2 | exact cs3) rfl ?_
          | refine r_idx_cnd tab_ok rfl rfl rfl rfl rfl rfl rfl (by first | exact fun _ => rfl | exact cs1 | exact cs2) rfl rfl (by exact ⟨by omega, by omega⟩) rfl rfl ?_
          | refine r_idx_cnd' tab_ok rfl rfl rfl rfl rfl rfl rfl (by first | exact fun _ => rfl | exact cs1 | exact cs2) rfl rfl (by intro h; simp at h; exact ⟨by omega, by omega⟩) rfl rfl ?_
          | refine r_and_cnd rfl rfl rfl rfl rfl rfl rfl rfl rfl rfl ?_
          | refine r_or_cnd rfl rfl rfl rfl rfl rfl rfl rfl rfl rfl ?_
          | refine r_or rfl rfl rfl rfl rfl rfl rfl rfl ?_
          | refine r_and rfl rfl rfl rfl rfl rfl rfl rfl ?_
          | refine r_pick_t rfl rfl rfl rfl rfl rfl rfl ?_
          | refine r_pick_f rfl rfl rfl rfl rfl rfl rfl ?_
          | refine r_off rfl rfl rfl rfl rfl rfl ?_
          | refine r_len_on tab_ok rfl rfl rfl rfl rfl rfl rfl rfl rfl ?_
          | refine r_ev_on tab_ok rfl rfl rfl rfl rfl rfl (by first | exact trivial | exact ⟨by omega, by omega⟩ | omega) rfl ?_
          | refine r_ld_on tab_ok rfl rfl rfl rfl rfl rfl rfl ?_
          | refine r_build tab_ok rfl rfl rfl rfl rfl rfl ?_
          | refine r_bstr tab_ok rfl rfl rfl rfl rfl rfl rfl rfl rfl rfl ?_
          | refine r_build_cnd tab_ok rfl rfl rfl rfl rfl (by first | exact fun _ => rfl | exact cs1) rfl rfl rfl ?_
          | refine r_built_cnd tab_ok rfl rfl rfl rfl rfl rfl rfl rfl (by first | exact fun _ => rfl | exact cs1) rfl rfl rfl ?_
          | refine r_rem rfl rfl rfl rfl rfl rfl (by omega) rfl ?_
          | refine r_built0 tab_ok rfl rfl rfl rfl rfl rfl rfl ?_
          | refine r_built tab_ok rfl rfl rfl rfl rfl rfl rfl rfl rfl ?_
          | refine r_range tab_ok rfl rfl rfl rfl rfl rfl rfl ?_
          | refine r_next rfl rfl rfl rfl (by assumption) rfl rfl rfl ?_
          | refine r_next_end rfl rfl rfl rfl (by assumption) rfl rfl rfl ?_
          | refine r_nilck rfl rfl rfl rfl rfl rfl rfl ?_
          | refine r_rstr tab_ok rfl rfl rfl rfl rfl rfl rfl rfl ?_
          | refine r_rsstr tab_ok rfl rfl rfl rfl rfl rfl rfl rfl rfl rfl ?_
          | refine r_bstr' tab_ok rfl rfl rfl rfl rfl rfl rfl rfl rfl ?_
          | refine r_rowstr tab_ok rfl rfl rfl rfl rfl rfl rfl rfl rfl rfl ?_
          | refine r_strd tab_ok rfl rfl rfl rfl rfl rfl (by omega) rfl rfl rfl ?_
          | refine r_idxr tab_ok rfl rfl rfl rfl rfl rfl rfl rfl (by first | exact ⟨by omega, by omega⟩ | (simp; omega)) rfl ?_
          | refine r_lde tab_ok rfl rfl rfl rfl rfl (by omega) rfl rfl rfl rfl ?_
          | refine r_idxr_cnd tab_ok rfl rfl rfl rfl rfl rfl rfl rfl (by first | exact fun _ => rfl | exact cs1 | exact cs2) rfl rfl (by first | (intro _; exact ⟨by omega, by omega⟩) | (intro h; simp at h ⊢; omega)) rfl ?_
          | refine r_lde_cnd tab_ok rfl rfl rfl rfl rfl rfl rfl (by first | exact fun _ => rfl | exact cs1 | exact cs2) (by omega) rfl rfl rfl rfl ?_
          | refine r_cut tab_ok rfl rfl rfl rfl rfl rfl rfl rfl (by first | exact ⟨by simp, by simp; omega, by simp⟩ | (simp; omega)) rfl ?_
          | refine r_append tab_ok rfl rfl rfl rfl rfl rfl rfl rfl rfl (by first | omega | (simp; omega)) rfl ?_
          | refine r_append_nil tab_ok rfl rfl rfl rfl rfl rfl rfl rfl (by first | omega | (simp; omega)) rfl ?_)
        | refine ret1 (by first | exact .inl rfl | exact .inr rfl) rfl rfl rfl ?_
        | refine ret1_row (by first | exact .inl rfl | exact .inr rfl) rfl rfl rfl ?_
        | refine ret2 (by first | exact .inl rfl | exact .inr rfl) rfl rfl rfl rfl ?_ ?_
        | refine retM1 (by first | exact .inl rfl | exact .inr rfl) rfl rfl rfl rfl rfl ?_
        | exact retM0 (by first | exact .inl rfl | exact .inr rfl) rfl rfl rfl
        | refine awp_cond_t rfl ?_
        | refine awp_cond_f rfl ?_)
      refine r_mcall [0, 1] (write_ok _ b (by omega)) call26 rfl rfl ⟨rfl, rfl, trivial⟩ (by decide) ⟨Sub.refl _, Sub.refl _, trivial⟩ rfl rfl rfl rfl rfl rfl rfl ?_
      repeat (first
        | refine awp_seq ?_
        | refine thenA_normal ?_
        | refine awp_block ?_
        | refine a_region ?_
        | refine a_draw1 mixed_ok (by kernel_rfl) ?_
        | refine awp_ret ?_
        | refine awp_exit ?_
        | refine thenA_exit ?_
        | refine thenA_ret ?_
        | refine blockA_normal ?_
        | refine blockA_ret ?_
        | refine blockA_hit rfl ?_
        | refine blockA_miss rfl ?_
        | refine awp_skip ?_
        | refine r_done ?_
        | refine r_done' ?_
        | (refine r_id ?_; first
          | refine r_len tab_ok rfl rfl rfl rfl rfl rfl rfl ?_
          | refine r_ev tab_ok rfl rfl rfl rfl (by first | exact trivial | exact ⟨by omega, by omega⟩ | omega | exact ⟨by omega, by omega, by omega, by omega⟩ | exact Nat.le_of_ble_eq_true rfl) rfl ?_
          | refine r_ld tab_ok rfl rfl rfl rfl rfl ?_
          | refine r_idx tab_ok rfl rfl rfl rfl rfl rfl rfl (by first | exact ⟨by omega, by omega⟩ | (simp; omega)) rfl rfl ?_
          | refine r_idxd tab_ok rfl rfl rfl rfl rfl rfl rfl (by decide) rfl rfl rfl ?_
          | refine r_wr tab_ok rfl rfl rfl rfl rfl ?_
          | refine r_st tab_ok rfl rfl rfl rfl ?_
          | refine r_len_cnd tab_ok rfl rfl rfl rfl rfl rfl (by first | exact fun _ => rfl | exact cs1) rfl rfl rfl ?_
          | refine r_ev_cnd tab_ok rfl rfl rfl rfl rfl rfl (by first | exact fun _ => rfl | exact cs1 | exact cs2 | exact cs3) (by first | exact fun _ => trivial | (intro h; simp at h; first | exact ⟨by omega, by omega⟩ | omega)) rfl ?_
          | refine r_ld_cnd tab_ok rfl rfl rfl rfl rfl rfl (by first | exact fun _ => rfl | exact cs1 | exact cs2 | exact cs3) rfl ?_
          | refine r_idx_cnd tab_ok rfl rfl rfl rfl rfl rfl rfl (by first | exact fun _ => rfl | exact cs1 | exact cs2) rfl rfl (by exact ⟨by omega, by omega⟩) rfl rfl ?_
          | refine r_idx_cnd' tab_ok rfl rfl rfl rfl rfl rfl rfl (by first | exact fun _ => rfl | exact cs1 | exact cs2) rfl rfl (by intro h; simp at h; exact ⟨by omega, by omega⟩) rfl rfl ?_
          | refine r_and_cnd rfl rfl rfl rfl rfl rfl rfl rfl rfl rfl ?_
          | refine r_or_cnd rfl rfl rfl rfl rfl rfl rfl rfl rfl rfl ?_
          | refine r_or rfl rfl rfl rfl rfl rfl rfl rfl ?_
          | refine r_and rfl rfl rfl rfl rfl rfl rfl rfl ?_
          | refine r_pick_t rfl rfl rfl rfl rfl rfl rfl ?_
          | refine r_pick_f rfl rfl rfl rfl rfl rfl rfl ?_
          | refine r_off rfl rfl rfl rfl rfl rfl ?_
          | refine r_len_on tab_ok rfl rfl rfl rfl rfl rfl rfl rfl rfl ?_
          | refine r_ev_on tab_ok rfl rfl rfl rfl rfl rfl (by first | exact trivial | exact ⟨by omega, by omega⟩ | omega) rfl ?_
          | refine r_ld_on tab_ok rfl rfl rfl rfl rfl rfl rfl ?_
          | refine r_build tab_ok rfl rfl rfl rfl rfl rfl ?_
          | refine r_bstr tab_ok rfl rfl rfl rfl rfl rfl rfl rfl rfl rfl ?_
          | refine r_build_cnd tab_ok rfl rfl rfl rfl rfl (by first | exact fun _ => rfl | exact cs1) rfl rfl rfl ?_
          | refine r_built_cnd tab_ok rfl rfl rfl rfl rfl rfl rfl rfl (by first | exact fun _ => rfl | exact cs1) rfl rfl rfl ?_
          | refine r_rem rfl rfl rfl rfl rfl rfl (by omega) rfl ?_
          | refine r_built0 tab_ok rfl rfl rfl rfl rfl rfl rfl ?_
          | refine r_built tab_ok rfl rfl rfl rfl rfl rfl rfl rfl rfl ?_
          | refine r_range tab_ok rfl rfl rfl rfl rfl rfl rfl ?_
          | refine r_next rfl rfl rfl rfl (by assumption) rfl rfl rfl ?_
          | refine r_next_end rfl rfl rfl rfl (by assumption) rfl rfl rfl ?_
          | refine r_nilck rfl rfl rfl rfl rfl rfl rfl ?_
          | refine r_rstr tab_ok rfl rfl rfl rfl rfl rfl rfl rfl ?_
          | refine r_rsstr tab_ok rfl rfl rfl rfl rfl rfl rfl rfl rfl rfl ?_
          | refine r_bstr' tab_ok rfl rfl rfl rfl rfl rfl rfl rfl rfl ?_
          | refine r_rowstr tab_ok rfl rfl rfl rfl rfl rfl rfl rfl rfl rfl ?_
          | refine r_strd tab_ok rfl rfl rfl rfl rfl rfl (by omega) rfl rfl rfl ?_
          | refine r_idxr tab_ok rfl rfl rfl rfl rfl rfl rfl rfl (by first | exact ⟨by omega, by omega⟩ | (simp; omega)) rfl ?_
          | refine r_lde tab_ok rfl rfl rfl rfl rfl (by omega) rfl rfl rfl rfl ?_
          | refine r_idxr_cnd tab_ok rfl rfl rfl rfl rfl rfl rfl rfl (by first | exact fun _ => rfl | exact cs1 | exact cs2) rfl rfl (by first | (intro _; exact ⟨by omega, by omega⟩) | (intro h; simp at h ⊢; omega)) rfl ?_
          | refine r_lde_cnd tab_ok rfl rfl rfl rfl rfl rfl rfl (by first | exact fun _ => rfl | exact cs1 | exact cs2) (by omega) rfl rfl rfl rfl ?_
          | refine r_cut tab_ok rfl rfl rfl rfl rfl rfl rfl rfl (by first | exact ⟨by simp, by simp; omega, by simp⟩ | (simp; omega)) rfl ?_
          | refine r_append tab_ok rfl rfl rfl rfl rfl rfl rfl rfl rfl (by first | omega | (simp; omega)) rfl ?_
          | refine r_append_nil tab_ok rfl rfl rfl rfl rfl rfl rfl rfl (by first | omega | (simp; omega)) rfl ?_)
        | refine ret1 (by first | exact .inl rfl | exact .inr rfl) rfl rfl rfl ?_
        | refine ret1_row (by first | exact .inl rfl | exact .inr rfl) rfl rfl rfl ?_
        | refine ret2 (by first | exact .inl rfl | exact .inr rfl) rfl rfl rfl rfl ?_ ?_
        | refine retM1 (by first | exact .inl rfl | exact .inr rfl) rfl rfl rfl rfl rfl ?_
        | exact retM0 (by first | exact .inl rfl | exact .inr rfl) rfl rfl rfl
        | refine awp_cond_t rfl ?_
        | refine awp_cond_f rfl ?_)
      rw [lowB_no h'] at htk
      refine ⟨⟨i + 1, by omega⟩, by dsimp only; omega, ?_⟩
      dsimp only
      rw [htk]
      exact fits_conv (by repeat' first | exact trivial | exact rfl | (rw [List.map_append]; first | done | rfl) | exact c_sub rfl (Sub.refl _) rfl | exact c_nil rfl rfl | exact c_thaw rfl rfl rfl | exact c_row rfl rfl rfl | exact c_row rfl rfl (by rw [List.map_append]; first | done | rfl) | exact c_ptr rfl rfl rfl rfl | exact Or.inl ⟨c_sub rfl (Sub.refl _) rfl, c_ptr rfl rfl rfl rfl⟩ | exact c_alt rfl rfl rfl rfl | exact c_sub rfl (Sub.altl _ _) rfl | refine ⟨_, _, rfl, ?_, ?_⟩ | apply And.intro) (by repeat' first | exact trivial | exact rfl | (rw [List.map_append]; first | done | rfl) | exact c_sub rfl (Sub.refl _) rfl | exact c_nil rfl rfl | exact c_thaw rfl rfl rfl | exact c_row rfl rfl rfl | exact c_row rfl rfl (by rw [List.map_append]; first | done | rfl) | exact c_ptr rfl rfl rfl rfl | exact Or.inl ⟨c_sub rfl (Sub.refl _) rfl, c_ptr rfl rfl rfl rfl⟩ | exact c_alt rfl rfl rfl rfl | exact c_sub rfl (Sub.altl _ _) rfl | refine ⟨_, _, rfl, ?_, ?_⟩ | apply And.intro)
  · have : i = s.size := by omega
    subst this
    repeat (first
      | refine awp_seq ?_
      | refine thenA_normal ?_
      | refine awp_block ?_
      | refine a_region ?_
      | refine a_draw1 mixed_ok (by kernel_rfl) ?_
      | refine awp_ret ?_
      | refine awp_exit ?_
      | refine thenA_exit ?_
      | refine thenA_ret ?_
      | refine blockA_normal ?_
      | refine blockA_ret ?_
      | refine blockA_hit rfl ?_
      | refine blockA_miss rfl ?_
      | refine awp_skip ?_
      | refine r_done ?_
      | refine r_done' ?_
      | (refine r_id ?_; first
        | refine r_len tab_ok rfl rfl rfl rfl rfl rfl rfl ?_
        | refine r_ev tab_ok rfl rfl rfl rfl (by first | exact trivial | exact ⟨by omega, by omega⟩ | omega | exact ⟨by omega, by omega, by omega, by omega⟩ | exact Nat.le_of_ble_eq_true rfl) rfl ?_
        | refine r_ld tab_ok rfl rfl rfl rfl rfl ?_
        | refine r_idx tab_ok rfl rfl rfl rfl rfl rfl rfl (by first | exact ⟨by omega, by omega⟩ | (simp; omega)) rfl rfl ?_
        | refine r_idxd tab_ok rfl rfl rfl rfl rfl rfl rfl (by decide) rfl rfl rfl ?_
        | refine r_wr tab_ok rfl rfl rfl rfl rfl ?_
        | refine r_st tab_ok rfl rfl rfl rfl ?_
        | refine r_len_cnd tab_ok rfl rfl rfl rfl rfl rfl (by first | exact fun _ => rfl | exact cs1) rfl rfl rfl ?_
        | refine r_ev_cnd tab_ok rfl rfl rfl rfl rfl rfl (by first | exact fun _ => rfl | exact cs1 | exact cs2 | exact cs3) (by first | exact fun _ => trivial | (intro h; simp at h; first | exact ⟨by omega, by omega⟩ | omega)) rfl ?_
        | refine r_ld_cnd tab_ok rfl rfl rfl rfl rfl rfl (by first | exact fun _ => rfl | exact cs1 | exact cs2 | exact cs3) rfl ?_
        | refine r_idx_cnd tab_ok rfl rfl rfl rfl rfl rfl rfl (by first | exact fun _ => rfl | exact cs1 | exact cs2) rfl rfl (by exact ⟨by omega, by omega⟩) rfl rfl ?_
        | refine r_idx_cnd' tab_ok rfl rfl rfl rfl rfl rfl rfl (by first | exact fun _ => rfl | exact cs1 | exact cs2) rfl rfl (by intro h; simp at h; exact ⟨by omega, by omega⟩) rfl rfl ?_
        | refine r_and_cnd rfl rfl rfl rfl rfl rfl rfl rfl rfl rfl ?_
        | refine r_or_cnd rfl rfl rfl rfl rfl rfl rfl rfl rfl rfl ?_
        | refine r_or rfl rfl rfl rfl rfl rfl rfl rfl ?_
        | refine r_and rfl rfl rfl rfl rfl rfl rfl rfl ?_
        | refine r_pick_t rfl rfl rfl rfl rfl rfl rfl ?_
        | refine r_pick_f rfl rfl rfl rfl rfl rfl rfl ?_
        | refine r_off rfl rfl rfl rfl rfl rfl ?_
        | refine r_len_on tab_ok rfl rfl rfl rfl rfl rfl rfl rfl rfl ?_
        | refine r_ev_on tab_ok rfl rfl rfl rfl rfl rfl (by first | exact trivial | exact ⟨by omega, by omega⟩ | omega) rfl ?_
        | refine r_ld_on tab_ok rfl rfl rfl rfl rfl rfl rfl ?_
        | refine r_build tab_ok rfl rfl rfl rfl rfl rfl ?_
        | refine r_bstr tab_ok rfl rfl rfl rfl rfl rfl rfl rfl rfl rfl ?_
        | refine r_build_cnd tab_ok rfl rfl rfl rfl rfl (by first | exact fun _ => rfl | exact cs1) rfl rfl rfl ?_
        | refine r_built_cnd tab_ok rfl rfl rfl rfl rfl rfl rfl rfl (by first | exact fun _ => rfl | exact cs1) rfl rfl rfl ?_
        | refine r_rem rfl rfl rfl rfl rfl rfl (by omega) rfl ?_
        | refine r_built0 tab_ok rfl rfl rfl rfl rfl rfl rfl ?_
        | refine r_built tab_ok rfl rfl rfl rfl rfl rfl rfl rfl rfl ?_
        | refine r_range tab_ok rfl rfl rfl rfl rfl rfl rfl ?_
        | refine r_next rfl rfl rfl rfl (by assumption) rfl rfl rfl ?_
        | refine r_next_end rfl rfl rfl rfl (by assumption) rfl rfl rfl ?_
        | refine r_nilck rfl rfl rfl rfl rfl rfl rfl ?_
        | refine r_rstr tab_ok rfl rfl rfl rfl rfl rfl rfl rfl ?_
        | refine r_rsstr tab_ok rfl rfl rfl rfl rfl rfl rfl rfl rfl rfl ?_
        | refine r_bstr' tab_ok rfl rfl rfl rfl rfl rfl rfl rfl rfl ?_
        | refine r_rowstr tab_ok rfl rfl rfl rfl rfl rfl rfl rfl rfl rfl ?_
        | refine r_strd tab_ok rfl rfl rfl rfl rfl rfl (by omega) rfl rfl rfl ?_
        | refine r_idxr tab_ok rfl rfl rfl rfl rfl rfl rfl rfl (by first | exact ⟨by omega, by omega⟩ | (simp; omega)) rfl ?_
        | refine r_lde tab_ok rfl rfl rfl rfl rfl (by omega) rfl rfl rfl rfl ?_
        | refine r_idxr_cnd tab_ok rfl rfl rfl rfl rfl rfl rfl rfl (by first | exact fun _ => rfl | exact cs1 | exact cs2) rfl rfl (by first | (intro _; exact ⟨by omega, by omega⟩) | (intro h; simp at h ⊢; omega)) rfl ?_
        | refine r_lde_cnd tab_ok rfl rfl rfl rfl rfl rfl rfl (by first | exact fun _ => rfl | exact cs1 | exact cs2) (by omega) rfl rfl rfl rfl ?_
        | refine r_cut tab_ok rfl rfl rfl rfl rfl rfl rfl rfl (by first | exact ⟨by simp, by simp; omega, by simp⟩ | (simp; omega)) rfl ?_
        | refine r_append tab_ok rfl rfl rfl rfl rfl rfl rfl rfl rfl (by first | omega | (simp; omega)) rfl ?_
        | refine r_append_nil tab_ok rfl rfl rfl rfl rfl rfl rfl rfl (by first | omega | (simp; omega)) rfl ?_)
      | refine ret1 (by first | exact .inl rfl | exact .inr rfl) rfl rfl rfl ?_
      | refine ret1_row (by first | exact .inl rfl | exact .inr rfl) rfl rfl rfl ?_
      | refine ret2 (by first | exact .inl rfl | exact .inr rfl) rfl rfl rfl rfl ?_ ?_
      | refine retM1 (by first | exact .inl rfl | exact .inr rfl) rfl rfl rfl rfl rfl ?_
      | exact retM0 (by first | exact .inl rfl | exact .inr rfl) rfl rfl rfl
      | refine awp_cond_t rfl ?_
      | refine awp_cond_f rfl ?_)
    refine r_mcall [0, 1] (string_ok _ (by omega)) call27 rfl rfl ⟨rfl, rfl, trivial⟩ (by decide) ⟨Sub.refl _, trivial⟩ rfl rfl rfl rfl rfl rfl rfl ?_
    repeat (first
      | refine awp_seq ?_
      | refine thenA_normal ?_
      | refine awp_block ?_
      | refine a_region ?_
      | refine a_draw1 mixed_ok (by kernel_rfl) ?_
      | refine awp_ret ?_
      | refine awp_exit ?_
      | refine thenA_exit ?_
      | refine thenA_ret ?_
      | refine blockA_normal ?_
      | refine blockA_ret ?_
      | refine blockA_hit rfl ?_
      | refine blockA_miss rfl ?_
      | refine awp_skip ?_
      | refine r_done ?_
      | refine r_done' ?_
      | (refine r_id ?_; first
        | refine r_len tab_ok rfl rfl rfl rfl rfl rfl rfl ?_
        | refine r_ev tab_ok rfl rfl rfl rfl (by first | exact trivial | exact ⟨by omega, by omega⟩ | omega | exact ⟨by omega, by omega, by omega, by omega⟩ | exact Nat.le_of_ble_eq_true rfl) rfl ?_
        | refine r_ld tab_ok rfl rfl rfl rfl rfl ?_
        | refine r_idx tab_ok rfl rfl rfl rfl rfl rfl rfl (by first | exact ⟨by omega, by omega⟩ | (simp; omega)) rfl rfl ?_
        | refine r_idxd tab_ok rfl rfl rfl rfl rfl rfl rfl (by decide) rfl rfl rfl ?_
        | refine r_wr tab_ok rfl rfl rfl rfl rfl ?_
        | refine r_st tab_ok rfl rfl rfl rfl ?_
        | refine r_len_cnd tab_ok rfl rfl rfl rfl rfl rfl (by first | exact fun _ => rfl | exact cs1) rfl rfl rfl ?_
        | refine r_ev_cnd tab_ok rfl rfl rfl rfl rfl rfl (by first | exact fun _ => rfl | exact cs1 | exact cs2 | exact cs3) (by first | exact fun _ => trivial | (intro h; simp at h; first | exact ⟨by omega, by omega⟩ | omega)) rfl ?_
        | refine r_ld_cnd tab_ok rfl rfl rfl rfl rfl rfl (by first | exact fun _ => rfl | exact cs1 | exact cs2 | exact cs3) rfl ?_
        | refine r_idx_cnd tab_ok rfl rfl rfl rfl rfl rfl rfl (by first | exact fun _ => rfl | exact cs1 | exact cs2) rfl rfl (by exact ⟨by omega, by omega⟩) rfl rfl ?_
        | refine r_idx_cnd' tab_ok rfl rfl rfl rfl rfl rfl rfl (by first | exact fun _ => rfl | exact cs1 | exact cs2) rfl rfl (by intro h; simp at h; exact ⟨by omega, by omega⟩) rfl rfl ?_
        | refine r_and_cnd rfl rfl rfl rfl rfl rfl rfl rfl rfl rfl ?_
        | refine r_or_cnd rfl rfl rfl rfl rfl rfl rfl rfl rfl rfl ?_
        | refine r_or rfl rfl rfl rfl rfl rfl rfl rfl ?_
        | refine r_and rfl rfl rfl rfl rfl rfl rfl rfl ?_
        | refine r_pick_t rfl rfl rfl rfl rfl rfl rfl ?_
        | refine r_pick_f rfl rfl rfl rfl rfl rfl rfl ?_
        | refine r_off rfl rfl rfl rfl rfl rfl ?_
        | refine r_len_on tab_ok rfl rfl rfl rfl rfl rfl rfl rfl rfl ?_
        | refine r_ev_on tab_ok rfl rfl rfl rfl rfl rfl (by first | exact trivial | exact ⟨by omega, by omega⟩ | omega) rfl ?_
        | refine r_ld_on tab_ok rfl rfl rfl rfl rfl rfl rfl ?_
        | refine r_build tab_ok rfl rfl rfl rfl rfl rfl ?_
        | refine r_bstr tab_ok rfl rfl rfl rfl rfl rfl rfl rfl rfl rfl ?_
        | refine r_build_cnd tab_ok rfl rfl rfl rfl rfl (by first | exact fun _ => rfl | exact cs1) rfl rfl rfl ?_
        | refine r_built_cnd tab_ok rfl rfl rfl rfl rfl rfl rfl rfl (by first | exact fun _ => rfl | exact cs1) rfl rfl rfl ?_
        | refine r_rem rfl rfl rfl rfl rfl rfl (by omega) rfl ?_
        | refine r_built0 tab_ok rfl rfl rfl rfl rfl rfl rfl ?_
        | refine r_built tab_ok rfl rfl rfl rfl rfl rfl rfl rfl rfl ?_
        | refine r_range tab_ok rfl rfl rfl rfl rfl rfl rfl ?_
        | refine r_next rfl rfl rfl rfl (by assumption) rfl rfl rfl ?_
        | refine r_next_end rfl rfl rfl rfl (by assumption) rfl rfl rfl ?_
        | refine r_nilck rfl rfl rfl rfl rfl rfl rfl ?_
        | refine r_rstr tab_ok rfl rfl rfl rfl rfl rfl rfl rfl ?_
        | refine r_rsstr tab_ok rfl rfl rfl rfl rfl rfl rfl rfl rfl rfl ?_
        | refine r_bstr' tab_ok rfl rfl rfl rfl rfl rfl rfl rfl rfl ?_
        | refine r_rowstr tab_ok rfl rfl rfl rfl rfl rfl rfl rfl rfl rfl ?_
        | refine r_strd tab_ok rfl rfl rfl rfl rfl rfl (by omega) rfl rfl rfl ?_
        | refine r_idxr tab_ok rfl rfl rfl rfl rfl rfl rfl rfl (by first | exact ⟨by omega, by omega⟩ | (simp; omega)) rfl ?_
        | refine r_lde tab_ok rfl rfl rfl rfl rfl (by omega) rfl rfl rfl rfl ?_
        | refine r_idxr_cnd tab_ok rfl rfl rfl rfl rfl rfl rfl rfl (by first | exact fun _ => rfl | exact cs1 | exact cs2) rfl rfl (by first | (intro _; exact ⟨by omega, by omega⟩) | (intro h; simp at h ⊢; omega)) rfl ?_
        | refine r_lde_cnd tab_ok rfl rfl rfl rfl rfl rfl rfl (by first | exact fun _ => rfl | exact cs1 | exact cs2) (by omega) rfl rfl rfl rfl ?_
        | refine r_cut tab_ok rfl rfl rfl rfl rfl rfl rfl rfl (by first | exact ⟨by simp, by simp; omega, by simp⟩ | (simp; omega)) rfl ?_
        | refine r_append tab_ok rfl rfl rfl rfl rfl rfl rfl rfl rfl (by first | omega | (simp; omega)) rfl ?_
        | refine r_append_nil tab_ok rfl rfl rfl rfl rfl rfl rfl rfl (by first | omega | (simp; omega)) rfl ?_)
      | refine ret1 (by first | exact .inl rfl | exact .inr rfl) rfl rfl rfl ?_
      | refine ret1_row (by first | exact .inl rfl | exact .inr rfl) rfl rfl rfl ?_
      | refine ret2 (by first | exact .inl rfl | exact .inr rfl) rfl rfl rfl rfl ?_ ?_
      | refine retM1 (by first | exact .inl rfl | exact .inr rfl) rfl rfl rfl rfl rfl ?_
      | exact retM0 (by first | exact .inl rfl | exact .inr rfl) rfl rfl rfl
      | refine awp_cond_t rfl ?_
      | refine awp_cond_f rfl ?_)
    exact Sub.of_eq (by rw [List.take_of_length_le (by omega)]; rfl)
def mixL (l : List UInt8) (i : Nat) : List UInt8 := lowL (l.take i) ++ l.drop i
theorem mixL_len (l : List UInt8) (i : Nat) : (mixL l i).length = l.length := by simp [mixL, lowL]; omega
theorem mixL_at' {l : List UInt8} {i : Nat} (h : i < l.length) : (mixL l i)[i]? = some l[i] := by
  unfold mixL
  have e : (lowL (l.take i)).length = i := by simp [lowL]; omega
  rw [List.getElem?_append_right (by omega), e, Nat.sub_self, List.getElem?_drop, Nat.add_zero, List.getElem?_eq_getElem h]
theorem mixL_at {l : List UInt8} {i : Nat} (h : i < l.length) (h' : i < (mixL l i).length) : (mixL l i)[i]'h' = l[i] := by
  have := mixL_at' h
  rw [List.getElem?_eq_getElem h'] at this
  exact Option.some.inj this
theorem mixL_set {l : List UInt8} {i : Nat} (h : i < l.length) : (mixL l i).set i (lowB l[i]) = mixL l (i + 1) := by
  unfold mixL
  have e : (lowL (l.take i)).length = i := by simp [lowL]; omega
  rw [List.set_append_right _ _ (by omega), List.drop_eq_getElem_cons h, e, Nat.sub_self, List.set_cons_zero, List.take_add_one, List.getElem?_eq_getElem h]
  simp only [lowL, List.map_append, Option.toList_some, List.map_cons, List.map_nil, List.append_assoc, List.cons_append, List.nil_append]
theorem mixL_same {l : List UInt8} {i : Nat} (h : i < l.length) (hb : lowB l[i] = l[i]) : mixL l i = mixL l (i + 1) := by
  rw [← mixL_set h, hb]
  apply List.ext_getElem (by simp)
  intro j h1 h2
  by_cases hj : i = j
  · subst hj; simp [mixL_at h]
  · simp [List.getElem_set_ne hj]

theorem lower25 (s : ByteArray) (hs : s.size ≤ 70368744177663) : PCalls Try.prog 25 [.val (.string s)] (.val (.string (lowS s))) := by
  refine p_start Try.func25 Try.ntmps25 rfl rfl rfl fun S w => ?_
  have hsz := str_size s
  repeat (first
    | refine awp_seq ?_
    | refine thenA_normal ?_
    | refine awp_block ?_
    | refine a_region ?_
    | refine a_draw1 mixed_ok (by kernel_rfl) ?_
    | refine awp_ret ?_
    | refine awp_exit ?_
    | refine thenA_exit ?_
    | refine thenA_ret ?_
    | refine blockA_normal ?_
    | refine blockA_ret ?_
    | refine blockA_hit rfl ?_
    | refine blockA_miss rfl ?_
    | refine awp_skip ?_
    | refine r_done ?_
    | refine r_done' ?_
    | (refine r_id ?_; first
      | refine r_len tab_ok rfl rfl rfl rfl rfl rfl rfl ?_
      | refine r_ev tab_ok rfl rfl rfl rfl (by first | exact trivial | exact ⟨by omega, by omega⟩ | omega | exact ⟨by omega, by omega, by omega, by omega⟩ | exact Nat.le_of_ble_eq_true rfl) rfl ?_
      | refine r_ld tab_ok rfl rfl rfl rfl rfl ?_
      | refine r_idx tab_ok rfl rfl rfl rfl rfl rfl rfl (by first | exact ⟨by omega, by omega⟩ | (simp; omega)) rfl rfl ?_
      | refine r_idxd tab_ok rfl rfl rfl rfl rfl rfl rfl (by decide) rfl rfl rfl ?_
      | refine r_wr tab_ok rfl rfl rfl rfl rfl ?_
      | refine r_st tab_ok rfl rfl rfl rfl ?_
      | refine r_len_cnd tab_ok rfl rfl rfl rfl rfl rfl (by first | exact fun _ => rfl | exact cs1) rfl rfl rfl ?_
      | refine r_ev_cnd tab_ok rfl rfl rfl rfl rfl rfl (by first | exact fun _ => rfl | exact cs1 | exact cs2 | exact cs3) (by first | exact fun _ => trivial | (intro h; simp at h; first | exact ⟨by omega, by omega⟩ | omega)) rfl ?_
      | refine r_ld_cnd tab_ok rfl rfl rfl rfl rfl rfl (by first | exact fun _ => rfl | exact cs1 | exact cs2 | exact cs3) rfl ?_
      | refine r_idx_cnd tab_ok rfl rfl rfl rfl rfl rfl rfl (by first | exact fun _ => rfl | exact cs1 | exact cs2) rfl rfl (by exact ⟨by omega, by omega⟩) rfl rfl ?_
      | refine r_idx_cnd' tab_ok rfl rfl rfl rfl rfl rfl rfl (by first | exact fun _ => rfl | exact cs1 | exact cs2) rfl rfl (by intro h; simp at h; exact ⟨by omega, by omega⟩) rfl rfl ?_
      | refine r_and_cnd rfl rfl rfl rfl rfl rfl rfl rfl rfl rfl ?_
      | refine r_or_cnd rfl rfl rfl rfl rfl rfl rfl rfl rfl rfl ?_
      | refine r_or rfl rfl rfl rfl rfl rfl rfl rfl ?_
      | refine r_and rfl rfl rfl rfl rfl rfl rfl rfl ?_
      | refine r_pick_t rfl rfl rfl rfl rfl rfl rfl ?_
      | refine r_pick_f rfl rfl rfl rfl rfl rfl rfl ?_
      | refine r_off rfl rfl rfl rfl rfl rfl ?_
      | refine r_len_on tab_ok rfl rfl rfl rfl rfl rfl rfl rfl rfl ?_
      | refine r_ev_on tab_ok rfl rfl rfl rfl rfl rfl (by first | exact trivial | exact ⟨by omega, by omega⟩ | omega) rfl ?_
      | refine r_ld_on tab_ok rfl rfl rfl rfl rfl rfl rfl ?_
      | refine r_build tab_ok rfl rfl rfl rfl rfl rfl ?_
      | refine r_bstr tab_ok rfl rfl rfl rfl rfl rfl rfl rfl rfl rfl ?_
      | refine r_build_cnd tab_ok rfl rfl rfl rfl rfl (by first | exact fun _ => rfl | exact cs1) rfl rfl rfl ?_
      | refine r_built_cnd tab_ok rfl rfl rfl rfl rfl rfl rfl rfl (by first | exact fun _ => rfl | exact cs1) rfl rfl rfl ?_
      | refine r_rem rfl rfl rfl rfl rfl rfl (by omega) rfl ?_
      | refine r_built0 tab_ok rfl rfl rfl rfl rfl rfl rfl ?_
      | refine r_built tab_ok rfl rfl rfl rfl rfl rfl rfl rfl rfl ?_
      | refine r_range tab_ok rfl rfl rfl rfl rfl rfl rfl ?_
      | refine r_next rfl rfl rfl rfl (by assumption) rfl rfl rfl ?_
      | refine r_next_end rfl rfl rfl rfl (by assumption) rfl rfl rfl ?_
      | refine r_nilck rfl rfl rfl rfl rfl rfl rfl ?_
      | refine r_rstr tab_ok rfl rfl rfl rfl rfl rfl rfl rfl ?_
      | refine r_rsstr tab_ok rfl rfl rfl rfl rfl rfl rfl rfl rfl rfl ?_
      | refine r_bstr' tab_ok rfl rfl rfl rfl rfl rfl rfl rfl rfl ?_
      | refine r_rowstr tab_ok rfl rfl rfl rfl rfl rfl rfl rfl rfl rfl ?_
      | refine r_idxr tab_ok rfl rfl rfl rfl rfl rfl rfl rfl (by first | exact ⟨by omega, by omega⟩ | (simp; omega)) rfl ?_
      | refine r_lde tab_ok rfl rfl rfl rfl rfl (by omega) rfl rfl rfl rfl ?_
      | refine r_idxr_cnd tab_ok rfl rfl rfl rfl rfl rfl rfl rfl (by first | exact fun _ => rfl | exact cs1 | exact cs2) rfl rfl (by first | (intro _; exact ⟨by omega, by omega⟩) | (intro h; simp at h ⊢; omega)) rfl ?_
      | refine r_lde_cnd tab_ok rfl rfl rfl rfl rfl rfl rfl (by first | exact fun _ => rfl | exact cs1 | exact cs2) (by omega) rfl rfl rfl rfl ?_
      | refine r_cut tab_ok rfl rfl rfl rfl rfl rfl rfl rfl (by first | exact ⟨by simp, by simp; omega, by simp⟩ | (simp; omega)) rfl ?_
      | refine r_append tab_ok rfl rfl rfl rfl rfl rfl rfl rfl rfl (by first | omega | (simp; omega)) rfl ?_
      | refine r_append_nil tab_ok rfl rfl rfl rfl rfl rfl rfl rfl (by first | omega | (simp; omega)) rfl ?_)
    | refine ret1 (by first | exact .inl rfl | exact .inr rfl) rfl rfl rfl ?_
    | refine ret1_row (by first | exact .inl rfl | exact .inr rfl) rfl rfl rfl ?_
    | refine ret2 (by first | exact .inl rfl | exact .inr rfl) rfl rfl rfl rfl ?_ ?_
    | refine retM1 (by first | exact .inl rfl | exact .inr rfl) rfl rfl rfl rfl rfl ?_
    | exact retM0 (by first | exact .inl rfl | exact .inr rfl) rfl rfl rfl
    | refine awp_cond_t rfl ?_
    | refine awp_cond_f rfl ?_)
  refine r_strb tab_ok rfl rfl rfl rfl rfl rfl (by omega) rfl rfl rfl ?_
  repeat (first
    | refine awp_seq ?_
    | refine thenA_normal ?_
    | refine awp_block ?_
    | refine a_region ?_
    | refine a_draw1 mixed_ok (by kernel_rfl) ?_
    | refine awp_ret ?_
    | refine awp_exit ?_
    | refine thenA_exit ?_
    | refine thenA_ret ?_
    | refine blockA_normal ?_
    | refine blockA_ret ?_
    | refine blockA_hit rfl ?_
    | refine blockA_miss rfl ?_
    | refine awp_skip ?_
    | refine r_done ?_
    | refine r_done' ?_
    | (refine r_id ?_; first
      | refine r_len tab_ok rfl rfl rfl rfl rfl rfl rfl ?_
      | refine r_ev tab_ok rfl rfl rfl rfl (by first | exact trivial | exact ⟨by omega, by omega⟩ | omega | exact ⟨by omega, by omega, by omega, by omega⟩ | exact Nat.le_of_ble_eq_true rfl) rfl ?_
      | refine r_ld tab_ok rfl rfl rfl rfl rfl ?_
      | refine r_idx tab_ok rfl rfl rfl rfl rfl rfl rfl (by first | exact ⟨by omega, by omega⟩ | (simp; omega)) rfl rfl ?_
      | refine r_idxd tab_ok rfl rfl rfl rfl rfl rfl rfl (by decide) rfl rfl rfl ?_
      | refine r_wr tab_ok rfl rfl rfl rfl rfl ?_
      | refine r_st tab_ok rfl rfl rfl rfl ?_
      | refine r_len_cnd tab_ok rfl rfl rfl rfl rfl rfl (by first | exact fun _ => rfl | exact cs1) rfl rfl rfl ?_
      | refine r_ev_cnd tab_ok rfl rfl rfl rfl rfl rfl (by first | exact fun _ => rfl | exact cs1 | exact cs2 | exact cs3) (by first | exact fun _ => trivial | (intro h; simp at h; first | exact ⟨by omega, by omega⟩ | omega)) rfl ?_
      | refine r_ld_cnd tab_ok rfl rfl rfl rfl rfl rfl (by first | exact fun _ => rfl | exact cs1 | exact cs2 | exact cs3) rfl ?_
      | refine r_idx_cnd tab_ok rfl rfl rfl rfl rfl rfl rfl (by first | exact fun _ => rfl | exact cs1 | exact cs2) rfl rfl (by exact ⟨by omega, by omega⟩) rfl rfl ?_
      | refine r_idx_cnd' tab_ok rfl rfl rfl rfl rfl rfl rfl (by first | exact fun _ => rfl | exact cs1 | exact cs2) rfl rfl (by intro h; simp at h; exact ⟨by omega, by omega⟩) rfl rfl ?_
      | refine r_and_cnd rfl rfl rfl rfl rfl rfl rfl rfl rfl rfl ?_
      | refine r_or_cnd rfl rfl rfl rfl rfl rfl rfl rfl rfl rfl ?_
      | refine r_or rfl rfl rfl rfl rfl rfl rfl rfl ?_
      | refine r_and rfl rfl rfl rfl rfl rfl rfl rfl ?_
      | refine r_pick_t rfl rfl rfl rfl rfl rfl rfl ?_
      | refine r_pick_f rfl rfl rfl rfl rfl rfl rfl ?_
      | refine r_off rfl rfl rfl rfl rfl rfl ?_
      | refine r_len_on tab_ok rfl rfl rfl rfl rfl rfl rfl rfl rfl ?_
      | refine r_ev_on tab_ok rfl rfl rfl rfl rfl rfl (by first | exact trivial | exact ⟨by omega, by omega⟩ | omega) rfl ?_
      | refine r_ld_on tab_ok rfl rfl rfl rfl rfl rfl rfl ?_
      | refine r_build tab_ok rfl rfl rfl rfl rfl rfl ?_
      | refine r_bstr tab_ok rfl rfl rfl rfl rfl rfl rfl rfl rfl rfl ?_
      | refine r_build_cnd tab_ok rfl rfl rfl rfl rfl (by first | exact fun _ => rfl | exact cs1) rfl rfl rfl ?_
      | refine r_built_cnd tab_ok rfl rfl rfl rfl rfl rfl rfl rfl (by first | exact fun _ => rfl | exact cs1) rfl rfl rfl ?_
      | refine r_rem rfl rfl rfl rfl rfl rfl (by omega) rfl ?_
      | refine r_built0 tab_ok rfl rfl rfl rfl rfl rfl rfl ?_
      | refine r_built tab_ok rfl rfl rfl rfl rfl rfl rfl rfl rfl ?_
      | refine r_range tab_ok rfl rfl rfl rfl rfl rfl rfl ?_
      | refine r_next rfl rfl rfl rfl (by assumption) rfl rfl rfl ?_
      | refine r_next_end rfl rfl rfl rfl (by assumption) rfl rfl rfl ?_
      | refine r_nilck rfl rfl rfl rfl rfl rfl rfl ?_
      | refine r_rstr tab_ok rfl rfl rfl rfl rfl rfl rfl rfl ?_
      | refine r_rsstr tab_ok rfl rfl rfl rfl rfl rfl rfl rfl rfl rfl ?_
      | refine r_bstr' tab_ok rfl rfl rfl rfl rfl rfl rfl rfl rfl ?_
      | refine r_rowstr tab_ok rfl rfl rfl rfl rfl rfl rfl rfl rfl rfl ?_
      | refine r_idxr tab_ok rfl rfl rfl rfl rfl rfl rfl rfl (by first | exact ⟨by omega, by omega⟩ | (simp; omega)) rfl ?_
      | refine r_lde tab_ok rfl rfl rfl rfl rfl (by omega) rfl rfl rfl rfl ?_
      | refine r_idxr_cnd tab_ok rfl rfl rfl rfl rfl rfl rfl rfl (by first | exact fun _ => rfl | exact cs1 | exact cs2) rfl rfl (by first | (intro _; exact ⟨by omega, by omega⟩) | (intro h; simp at h ⊢; omega)) rfl ?_
      | refine r_lde_cnd tab_ok rfl rfl rfl rfl rfl rfl rfl (by first | exact fun _ => rfl | exact cs1 | exact cs2) (by omega) rfl rfl rfl rfl ?_
      | refine r_cut tab_ok rfl rfl rfl rfl rfl rfl rfl rfl (by first | exact ⟨by simp, by simp; omega, by simp⟩ | (simp; omega)) rfl ?_
      | refine r_append tab_ok rfl rfl rfl rfl rfl rfl rfl rfl rfl (by first | omega | (simp; omega)) rfl ?_
      | refine r_append_nil tab_ok rfl rfl rfl rfl rfl rfl rfl rfl (by first | omega | (simp; omega)) rfl ?_)
    | refine ret1 (by first | exact .inl rfl | exact .inr rfl) rfl rfl rfl ?_
    | refine ret1_row (by first | exact .inl rfl | exact .inr rfl) rfl rfl rfl ?_
    | refine ret2 (by first | exact .inl rfl | exact .inr rfl) rfl rfl rfl rfl ?_ ?_
    | refine retM1 (by first | exact .inl rfl | exact .inr rfl) rfl rfl rfl rfl rfl ?_
    | exact retM0 (by first | exact .inl rfl | exact .inr rfl) rfl rfl rfl
    | refine awp_cond_t rfl ?_
    | refine awp_cond_f rfl ?_)
  refine a_loop (σ := {i : Nat // i ≤ s.size}) (fun x => [.row 0 5 1 ((mixL s.data.toList x.1).map bD)]) (fun x => [(3, .row 0 0), (4, .val (.int .i64 x.1))]) (fun x => s.size - x.1) ⟨0, by omega⟩ (fits_of rfl ⟨Sub.refl _, Sub.refl _, trivial⟩) ?_
  rintro ⟨i, hi⟩
  dsimp only
  have hml := mixL_len s.data.toList i
  repeat (first
    | refine awp_seq ?_
    | refine thenA_normal ?_
    | refine awp_block ?_
    | refine a_region ?_
    | refine a_draw1 mixed_ok (by kernel_rfl) ?_
    | refine awp_ret ?_
    | refine awp_exit ?_
    | refine thenA_exit ?_
    | refine thenA_ret ?_
    | refine blockA_normal ?_
    | refine blockA_ret ?_
    | refine blockA_hit rfl ?_
    | refine blockA_miss rfl ?_
    | refine awp_skip ?_
    | refine r_done ?_
    | refine r_done' ?_
    | (refine r_id ?_; first
      | refine r_len tab_ok rfl rfl rfl rfl rfl rfl rfl ?_
      | refine r_ev tab_ok rfl rfl rfl rfl (by first | exact trivial | exact ⟨by omega, by omega⟩ | omega | exact ⟨by omega, by omega, by omega, by omega⟩ | exact Nat.le_of_ble_eq_true rfl) rfl ?_
      | refine r_ld tab_ok rfl rfl rfl rfl rfl ?_
      | refine r_idx tab_ok rfl rfl rfl rfl rfl rfl rfl (by first | exact ⟨by omega, by omega⟩ | (simp; omega)) rfl rfl ?_
      | refine r_idxd tab_ok rfl rfl rfl rfl rfl rfl rfl (by decide) rfl rfl rfl ?_
      | refine r_wr tab_ok rfl rfl rfl rfl rfl ?_
      | refine r_st tab_ok rfl rfl rfl rfl ?_
      | refine r_len_cnd tab_ok rfl rfl rfl rfl rfl rfl (by first | exact fun _ => rfl | exact cs1) rfl rfl rfl ?_
      | refine r_ev_cnd tab_ok rfl rfl rfl rfl rfl rfl (by first | exact fun _ => rfl | exact cs1 | exact cs2 | exact cs3) (by first | exact fun _ => trivial | (intro h; simp at h; first | exact ⟨by omega, by omega⟩ | omega)) rfl ?_
      | refine r_ld_cnd tab_ok rfl rfl rfl rfl rfl rfl (by first | exact fun _ => rfl | exact cs1 | exact cs2 | exact cs3) rfl ?_
      | refine r_idx_cnd tab_ok rfl rfl rfl rfl rfl rfl rfl (by first | exact fun _ => rfl | exact cs1 | exact cs2) rfl rfl (by exact ⟨by omega, by omega⟩) rfl rfl ?_
      | refine r_idx_cnd' tab_ok rfl rfl rfl rfl rfl rfl rfl (by first | exact fun _ => rfl | exact cs1 | exact cs2) rfl rfl (by intro h; simp at h; exact ⟨by omega, by omega⟩) rfl rfl ?_
      | refine r_and_cnd rfl rfl rfl rfl rfl rfl rfl rfl rfl rfl ?_
      | refine r_or_cnd rfl rfl rfl rfl rfl rfl rfl rfl rfl rfl ?_
      | refine r_or rfl rfl rfl rfl rfl rfl rfl rfl ?_
      | refine r_and rfl rfl rfl rfl rfl rfl rfl rfl ?_
      | refine r_pick_t rfl rfl rfl rfl rfl rfl rfl ?_
      | refine r_pick_f rfl rfl rfl rfl rfl rfl rfl ?_
      | refine r_off rfl rfl rfl rfl rfl rfl ?_
      | refine r_len_on tab_ok rfl rfl rfl rfl rfl rfl rfl rfl rfl ?_
      | refine r_ev_on tab_ok rfl rfl rfl rfl rfl rfl (by first | exact trivial | exact ⟨by omega, by omega⟩ | omega) rfl ?_
      | refine r_ld_on tab_ok rfl rfl rfl rfl rfl rfl rfl ?_
      | refine r_build tab_ok rfl rfl rfl rfl rfl rfl ?_
      | refine r_bstr tab_ok rfl rfl rfl rfl rfl rfl rfl rfl rfl rfl ?_
      | refine r_build_cnd tab_ok rfl rfl rfl rfl rfl (by first | exact fun _ => rfl | exact cs1) rfl rfl rfl ?_
      | refine r_built_cnd tab_ok rfl rfl rfl rfl rfl rfl rfl rfl (by first | exact fun _ => rfl | exact cs1) rfl rfl rfl ?_
      | refine r_rem rfl rfl rfl rfl rfl rfl (by omega) rfl ?_
      | refine r_built0 tab_ok rfl rfl rfl rfl rfl rfl rfl ?_
      | refine r_built tab_ok rfl rfl rfl rfl rfl rfl rfl rfl rfl ?_
      | refine r_range tab_ok rfl rfl rfl rfl rfl rfl rfl ?_
      | refine r_next rfl rfl rfl rfl (by assumption) rfl rfl rfl ?_
      | refine r_next_end rfl rfl rfl rfl (by assumption) rfl rfl rfl ?_
      | refine r_nilck rfl rfl rfl rfl rfl rfl rfl ?_
      | refine r_rstr tab_ok rfl rfl rfl rfl rfl rfl rfl rfl ?_
      | refine r_rsstr tab_ok rfl rfl rfl rfl rfl rfl rfl rfl rfl rfl ?_
      | refine r_bstr' tab_ok rfl rfl rfl rfl rfl rfl rfl rfl rfl ?_
      | refine r_rowstr tab_ok rfl rfl rfl rfl rfl rfl rfl rfl rfl rfl ?_
      | refine r_strd tab_ok rfl rfl rfl rfl rfl rfl (by omega) rfl rfl rfl ?_
      | refine r_idxr tab_ok rfl rfl rfl rfl rfl rfl rfl rfl (by first | exact ⟨by omega, by omega⟩ | (simp; omega)) rfl ?_
      | refine r_lde tab_ok rfl rfl rfl rfl rfl (by omega) rfl rfl rfl rfl ?_
      | refine r_idxr_cnd tab_ok rfl rfl rfl rfl rfl rfl rfl rfl (by first | exact fun _ => rfl | exact cs1 | exact cs2) rfl rfl (by first | (intro _; exact ⟨by omega, by omega⟩) | (intro h; simp at h ⊢; omega)) rfl ?_
      | refine r_lde_cnd tab_ok rfl rfl rfl rfl rfl rfl rfl (by first | exact fun _ => rfl | exact cs1 | exact cs2) (by omega) rfl rfl rfl rfl ?_
      | refine r_cut tab_ok rfl rfl rfl rfl rfl rfl rfl rfl (by first | exact ⟨by simp, by simp; omega, by simp⟩ | (simp; omega)) rfl ?_
      | refine r_append tab_ok rfl rfl rfl rfl rfl rfl rfl rfl rfl (by first | omega | (simp; omega)) rfl ?_
      | refine r_append_nil tab_ok rfl rfl rfl rfl rfl rfl rfl rfl (by first | omega | (simp; omega)) rfl ?_)
    | refine ret1 (by first | exact .inl rfl | exact .inr rfl) rfl rfl rfl ?_
    | refine ret1_row (by first | exact .inl rfl | exact .inr rfl) rfl rfl rfl ?_
    | refine ret2 (by first | exact .inl rfl | exact .inr rfl) rfl rfl rfl rfl ?_ ?_
    | refine retM1 (by first | exact .inl rfl | exact .inr rfl) rfl rfl rfl rfl rfl ?_
    | exact retM0 (by first | exact .inl rfl | exact .inr rfl) rfl rfl rfl
    | refine awp_cond_t rfl ?_
    | refine awp_cond_f rfl ?_)
  refine awp_cond_p rfl (fun hlt => ?_) (fun hge => ?_)
  · have hi0 : i < s.size := by simp at hlt; omega
    have hi' : i < s.data.toList.length := by omega
    have hat := mixL_at hi' (by omega)
    have hst := mixL_set hi'
    have hsm := mixL_same hi'
    repeat (first
      | refine awp_seq ?_
      | refine thenA_normal ?_
      | refine awp_block ?_
      | refine a_region ?_
      | refine a_draw1 mixed_ok (by kernel_rfl) ?_
      | refine awp_ret ?_
      | refine awp_exit ?_
      | refine thenA_exit ?_
      | refine thenA_ret ?_
      | refine blockA_normal ?_
      | refine blockA_ret ?_
      | refine blockA_hit rfl ?_
      | refine blockA_miss rfl ?_
      | refine awp_skip ?_
      | refine r_done ?_
      | refine r_done' ?_
      | (refine r_id ?_; first
        | refine r_len tab_ok rfl rfl rfl rfl rfl rfl rfl ?_
        | refine r_ev tab_ok rfl rfl rfl rfl (by first | exact trivial | exact ⟨by omega, by omega⟩ | omega | exact ⟨by omega, by omega, by omega, by omega⟩ | exact Nat.le_of_ble_eq_true rfl) rfl ?_
        | refine r_ld tab_ok rfl rfl rfl rfl rfl ?_
        | refine r_idx tab_ok rfl rfl rfl rfl rfl rfl rfl (by first | exact ⟨by omega, by omega⟩ | (simp; omega)) rfl rfl ?_
        | refine r_idxd tab_ok rfl rfl rfl rfl rfl rfl rfl (by decide) rfl rfl rfl ?_
        | refine r_wr tab_ok rfl rfl rfl rfl rfl ?_
        | refine r_st tab_ok rfl rfl rfl rfl ?_
        | refine r_len_cnd tab_ok rfl rfl rfl rfl rfl rfl (by first | exact fun _ => rfl | exact cs1) rfl rfl rfl ?_
        | refine r_ev_cnd tab_ok rfl rfl rfl rfl rfl rfl (by first | exact fun _ => rfl | exact cs1 | exact cs2 | exact cs3) (by first | exact fun _ => trivial | (intro h; simp at h; first | exact ⟨by omega, by omega⟩ | omega)) rfl ?_
        | refine r_ld_cnd tab_ok rfl rfl rfl rfl rfl rfl (by first | exact fun _ => rfl | exact cs1 | exact cs2 | exact cs3) rfl ?_
        | refine r_idx_cnd tab_ok rfl rfl rfl rfl rfl rfl rfl (by first | exact fun _ => rfl | exact cs1 | exact cs2) rfl rfl (by exact ⟨by omega, by omega⟩) rfl rfl ?_
        | refine r_idx_cnd' tab_ok rfl rfl rfl rfl rfl rfl rfl (by first | exact fun _ => rfl | exact cs1 | exact cs2) rfl rfl (by intro h; simp at h; exact ⟨by omega, by omega⟩) rfl rfl ?_
        | refine r_and_cnd rfl rfl rfl rfl rfl rfl rfl rfl rfl rfl ?_
        | refine r_or_cnd rfl rfl rfl rfl rfl rfl rfl rfl rfl rfl ?_
        | refine r_or rfl rfl rfl rfl rfl rfl rfl rfl ?_
        | refine r_and rfl rfl rfl rfl rfl rfl rfl rfl ?_
        | refine r_pick_t rfl rfl rfl rfl rfl rfl rfl ?_
        | refine r_pick_f rfl rfl rfl rfl rfl rfl rfl ?_
        | refine r_off rfl rfl rfl rfl rfl rfl ?_
        | refine r_len_on tab_ok rfl rfl rfl rfl rfl rfl rfl rfl rfl ?_
        | refine r_ev_on tab_ok rfl rfl rfl rfl rfl rfl (by first | exact trivial | exact ⟨by omega, by omega⟩ | omega) rfl ?_
        | refine r_ld_on tab_ok rfl rfl rfl rfl rfl rfl rfl ?_
        | refine r_build tab_ok rfl rfl rfl rfl rfl rfl ?_
        | refine r_bstr tab_ok rfl rfl rfl rfl rfl rfl rfl rfl rfl rfl ?_
        | refine r_build_cnd tab_ok rfl rfl rfl rfl rfl (by first | exact fun _ => rfl | exact cs1) rfl rfl rfl ?_
        | refine r_built_cnd tab_ok rfl rfl rfl rfl rfl rfl rfl rfl (by first | exact fun _ => rfl | exact cs1) rfl rfl rfl ?_
        | refine r_rem rfl rfl rfl rfl rfl rfl (by omega) rfl ?_
        | refine r_built0 tab_ok rfl rfl rfl rfl rfl rfl rfl ?_
        | refine r_built tab_ok rfl rfl rfl rfl rfl rfl rfl rfl rfl ?_
        | refine r_range tab_ok rfl rfl rfl rfl rfl rfl rfl ?_
        | refine r_next rfl rfl rfl rfl (by assumption) rfl rfl rfl ?_
        | refine r_next_end rfl rfl rfl rfl (by assumption) rfl rfl rfl ?_
        | refine r_nilck rfl rfl rfl rfl rfl rfl rfl ?_
        | refine r_rstr tab_ok rfl rfl rfl rfl rfl rfl rfl rfl ?_
        | refine r_rsstr tab_ok rfl rfl rfl rfl rfl rfl rfl rfl rfl rfl ?_
        | refine r_bstr' tab_ok rfl rfl rfl rfl rfl rfl rfl rfl rfl ?_
        | refine r_rowstr tab_ok rfl rfl rfl rfl rfl rfl rfl rfl rfl rfl ?_
        | refine r_strd tab_ok rfl rfl rfl rfl rfl rfl (by omega) rfl rfl rfl ?_
        | refine r_idxr tab_ok rfl rfl rfl rfl rfl rfl rfl rfl (by first | exact ⟨by omega, by omega⟩ | (simp; omega)) rfl ?_
        | refine r_lde tab_ok rfl rfl rfl rfl rfl (by omega) rfl rfl rfl rfl ?_
        | refine r_idxr_cnd tab_ok rfl rfl rfl rfl rfl rfl rfl rfl (by first | exact fun _ => rfl | exact cs1 | exact cs2) rfl rfl (by first | (intro _; exact ⟨by omega, by omega⟩) | (intro h; simp at h ⊢; omega)) rfl ?_
        | refine r_lde_cnd tab_ok rfl rfl rfl rfl rfl rfl rfl (by first | exact fun _ => rfl | exact cs1 | exact cs2) (by omega) rfl rfl rfl rfl ?_
        | refine r_cut tab_ok rfl rfl rfl rfl rfl rfl rfl rfl (by first | exact ⟨by simp, by simp; omega, by simp⟩ | (simp; omega)) rfl ?_
        | refine r_append tab_ok rfl rfl rfl rfl rfl rfl rfl rfl rfl (by first | omega | (simp; omega)) rfl ?_
        | refine r_append_nil tab_ok rfl rfl rfl rfl rfl rfl rfl rfl (by first | omega | (simp; omega)) rfl ?_)
      | refine ret1 (by first | exact .inl rfl | exact .inr rfl) rfl rfl rfl ?_
      | refine ret1_row (by first | exact .inl rfl | exact .inr rfl) rfl rfl rfl ?_
      | refine ret2 (by first | exact .inl rfl | exact .inr rfl) rfl rfl rfl rfl ?_ ?_
      | refine retM1 (by first | exact .inl rfl | exact .inr rfl) rfl rfl rfl rfl rfl ?_
      | exact retM0 (by first | exact .inl rfl | exact .inr rfl) rfl rfl rfl
      | refine awp_cond_t rfl ?_
      | refine awp_cond_f rfl ?_)
    simp only [Int.toNat_natCast, hat]
    generalize hbb : s.data.toList[i] = b at hst hsm
    refine awp_cond rfl (fun h => ?_) (fun h => ?_)
    · have h' : 65 ≤ b.toNat ∧ b.toNat ≤ 90 := by simp at h; omega
      have hat2 : ((mixL s.data.toList i)[((i : Int)).toNat]'(by simp; omega)).toNat = b.toNat := by simp only [Int.toNat_natCast]; rw [hat, hbb]
      repeat (first
        | refine awp_seq ?_
        | refine thenA_normal ?_
        | refine awp_block ?_
        | refine a_region ?_
        | refine a_draw1 mixed_ok (by kernel_rfl) ?_
        | refine awp_ret ?_
        | refine awp_exit ?_
        | refine thenA_exit ?_
        | refine thenA_ret ?_
        | refine blockA_normal ?_
        | refine blockA_ret ?_
        | refine blockA_hit rfl ?_
        | refine blockA_miss rfl ?_
        | refine awp_skip ?_
        | refine r_done ?_
        | refine r_done' ?_
        | (refine r_id ?_; first
          | refine r_len tab_ok rfl rfl rfl rfl rfl rfl rfl ?_
          | refine r_ev tab_ok rfl rfl rfl rfl (by first | exact trivial | exact ⟨by omega, by omega⟩ | omega | exact ⟨by omega, by omega, by omega, by omega⟩ | exact Nat.le_of_ble_eq_true rfl) rfl ?_
          | refine r_ld tab_ok rfl rfl rfl rfl rfl ?_
          | refine r_idx tab_ok rfl rfl rfl rfl rfl rfl rfl (by first | exact ⟨by omega, by omega⟩ | (simp; omega)) rfl rfl ?_
          | refine r_idxd tab_ok rfl rfl rfl rfl rfl rfl rfl (by decide) rfl rfl rfl ?_
          | refine r_wr tab_ok rfl rfl rfl rfl rfl ?_
          | refine r_st tab_ok rfl rfl rfl rfl ?_
          | refine r_len_cnd tab_ok rfl rfl rfl rfl rfl rfl (by first | exact fun _ => rfl | exact cs1) rfl rfl rfl ?_
          | refine r_ev_cnd tab_ok rfl rfl rfl rfl rfl rfl (by first | exact fun _ => rfl | exact cs1 | exact cs2 | exact cs3) (by first | exact fun _ => trivial | (intro h; simp at h; first | exact ⟨by omega, by omega⟩ | omega)) rfl ?_
          | refine r_ld_cnd tab_ok rfl rfl rfl rfl rfl rfl (by first | exact fun _ => rfl | exact cs1 | exact cs2 | exact cs3) rfl ?_
          | refine r_idx_cnd tab_ok rfl rfl rfl rfl rfl rfl rfl (by first | exact fun _ => rfl | exact cs1 | exact cs2) rfl rfl (by exact ⟨by omega, by omega⟩) rfl rfl ?_
          | refine r_idx_cnd' tab_ok rfl rfl rfl rfl rfl rfl rfl (by first | exact fun _ => rfl | exact cs1 | exact cs2) rfl rfl (by intro h; simp at h; exact ⟨by omega, by omega⟩) rfl rfl ?_
          | refine r_and_cnd rfl rfl rfl rfl rfl rfl rfl rfl rfl rfl ?_
          | refine r_or_cnd rfl rfl rfl rfl rfl rfl rfl rfl rfl rfl ?_
          | refine r_or rfl rfl rfl rfl rfl rfl rfl rfl ?_
          | refine r_and rfl rfl rfl rfl rfl rfl rfl rfl ?_
          | refine r_pick_t rfl rfl rfl rfl rfl rfl rfl ?_
          | refine r_pick_f rfl rfl rfl rfl rfl rfl rfl ?_
          | refine r_off rfl rfl rfl rfl rfl rfl ?_
          | refine r_len_on tab_ok rfl rfl rfl rfl rfl rfl rfl rfl rfl ?_
          | refine r_ev_on tab_ok rfl rfl rfl rfl rfl rfl (by first | exact trivial | exact ⟨by omega, by omega⟩ | omega) rfl ?_
          | refine r_ld_on tab_ok rfl rfl rfl rfl rfl rfl rfl ?_
          | refine r_build tab_ok rfl rfl rfl rfl rfl rfl ?_
          | refine r_bstr tab_ok rfl rfl rfl rfl rfl rfl rfl rfl rfl rfl ?_
          | refine r_build_cnd tab_ok rfl rfl rfl rfl rfl (by first | exact fun _ => rfl | exact cs1) rfl rfl rfl ?_
          | refine r_built_cnd tab_ok rfl rfl rfl rfl rfl rfl rfl rfl (by first | exact fun _ => rfl | exact cs1) rfl rfl rfl ?_
          | refine r_rem rfl rfl rfl rfl rfl rfl (by omega) rfl ?_
          | refine r_built0 tab_ok rfl rfl rfl rfl rfl rfl rfl ?_
          | refine r_built tab_ok rfl rfl rfl rfl rfl rfl rfl rfl rfl ?_
          | refine r_range tab_ok rfl rfl rfl rfl rfl rfl rfl ?_
          | refine r_next rfl rfl rfl rfl (by assumption) rfl rfl rfl ?_
          | refine r_next_end rfl rfl rfl rfl (by assumption) rfl rfl rfl ?_
          | refine r_nilck rfl rfl rfl rfl rfl rfl rfl ?_
          | refine r_rstr tab_ok rfl rfl rfl rfl rfl rfl rfl rfl ?_
          | refine r_rsstr tab_ok rfl rfl rfl rfl rfl rfl rfl rfl rfl rfl ?_
          | refine r_bstr' tab_ok rfl rfl rfl rfl rfl rfl rfl rfl rfl ?_
          | refine r_rowstr tab_ok rfl rfl rfl rfl rfl rfl rfl rfl rfl rfl ?_
          | refine r_strd tab_ok rfl rfl rfl rfl rfl rfl (by omega) rfl rfl rfl ?_
          | refine r_idxr tab_ok rfl rfl rfl rfl rfl rfl rfl rfl (by first | exact ⟨by omega, by omega⟩ | (simp; omega)) rfl ?_
          | refine r_lde tab_ok rfl rfl rfl rfl rfl (by omega) rfl rfl rfl rfl ?_
          | refine r_idxr_cnd tab_ok rfl rfl rfl rfl rfl rfl rfl rfl (by first | exact fun _ => rfl | exact cs1 | exact cs2) rfl rfl (by first | (intro _; exact ⟨by omega, by omega⟩) | (intro h; simp at h ⊢; omega)) rfl ?_
          | refine r_lde_cnd tab_ok rfl rfl rfl rfl rfl rfl rfl (by first | exact fun _ => rfl | exact cs1 | exact cs2) (by omega) rfl rfl rfl rfl ?_
          | refine r_cut tab_ok rfl rfl rfl rfl rfl rfl rfl rfl (by first | exact ⟨by simp, by simp; omega, by simp⟩ | (simp; omega)) rfl ?_
          | refine r_append tab_ok rfl rfl rfl rfl rfl rfl rfl rfl rfl (by first | omega | (simp; omega)) rfl ?_
          | refine r_append_nil tab_ok rfl rfl rfl rfl rfl rfl rfl rfl (by first | omega | (simp; omega)) rfl ?_)
        | refine ret1 (by first | exact .inl rfl | exact .inr rfl) rfl rfl rfl ?_
        | refine ret1_row (by first | exact .inl rfl | exact .inr rfl) rfl rfl rfl ?_
        | refine ret2 (by first | exact .inl rfl | exact .inr rfl) rfl rfl rfl rfl ?_ ?_
        | refine retM1 (by first | exact .inl rfl | exact .inr rfl) rfl rfl rfl rfl rfl ?_
        | exact retM0 (by first | exact .inl rfl | exact .inr rfl) rfl rfl rfl
        | refine awp_cond_t rfl ?_
        | refine awp_cond_f rfl ?_)
      simp only [Int.toNat_natCast, hat, hbb]
      refine r_ste tab_ok (lowB b) rfl rfl rfl rfl rfl (by omega) rfl rfl rfl (by show some (D.val (.int .u8 ((b.toNat : Int) + 32))) = some (bD (lowB b)); rw [bD, lowB_up h']) rfl rfl ?_
      rw [hst]
      repeat (first
        | refine awp_seq ?_
        | refine thenA_normal ?_
        | refine awp_block ?_
        | refine a_region ?_
        | refine a_draw1 mixed_ok (by kernel_rfl) ?_
        | refine awp_ret ?_
        | refine awp_exit ?_
        | refine thenA_exit ?_
        | refine thenA_ret ?_
        | refine blockA_normal ?_
        | refine blockA_ret ?_
        | refine blockA_hit rfl ?_
        | refine blockA_miss rfl ?_
        | refine awp_skip ?_
        | refine r_done ?_
        | refine r_done' ?_
        | (refine r_id ?_; first
          | refine r_len tab_ok rfl rfl rfl rfl rfl rfl rfl ?_
          | refine r_ev tab_ok rfl rfl rfl rfl (by first | exact trivial | exact ⟨by omega, by omega⟩ | omega | exact ⟨by omega, by omega, by omega, by omega⟩ | exact Nat.le_of_ble_eq_true rfl) rfl ?_
          | refine r_ld tab_ok rfl rfl rfl rfl rfl ?_
          | refine r_idx tab_ok rfl rfl rfl rfl rfl rfl rfl (by first | exact ⟨by omega, by omega⟩ | (simp; omega)) rfl rfl ?_
          | refine r_idxd tab_ok rfl rfl rfl rfl rfl rfl rfl (by decide) rfl rfl rfl ?_
          | refine r_wr tab_ok rfl rfl rfl rfl rfl ?_
          | refine r_st tab_ok rfl rfl rfl rfl ?_
          | refine r_len_cnd tab_ok rfl rfl rfl rfl rfl rfl (by first | exact fun _ => rfl | exact cs1) rfl rfl rfl ?_
          | refine r_ev_cnd tab_ok rfl rfl rfl rfl rfl rfl (by first | exact fun _ => rfl | exact cs1 | exact cs2 | exact cs3) (by first | exact fun _ => trivial | (intro h; simp at h; first | exact ⟨by omega, by omega⟩ | omega)) rfl ?_
          | refine r_ld_cnd tab_ok rfl rfl rfl rfl rfl rfl (by first | exact fun _ => rfl | exact cs1 | exact cs2 | exact cs3) rfl ?_
          | refine r_idx_cnd tab_ok rfl rfl rfl rfl rfl rfl rfl (by first | exact fun _ => rfl | exact cs1 | exact cs2) rfl rfl (by exact ⟨by omega, by omega⟩) rfl rfl ?_
          | refine r_idx_cnd' tab_ok rfl rfl rfl rfl rfl rfl rfl (by first | exact fun _ => rfl | exact cs1 | exact cs2) rfl rfl (by intro h; simp at h; exact ⟨by omega, by omega⟩) rfl rfl ?_
          | refine r_and_cnd rfl rfl rfl rfl rfl rfl rfl rfl rfl rfl ?_
          | refine r_or_cnd rfl rfl rfl rfl rfl rfl rfl rfl rfl rfl ?_
          | refine r_or rfl rfl rfl rfl rfl rfl rfl rfl ?_
          | refine r_and rfl rfl rfl rfl rfl rfl rfl rfl ?_
          | refine r_pick_t rfl rfl rfl rfl rfl rfl rfl ?_
          | refine r_pick_f rfl rfl rfl rfl rfl rfl rfl ?_
          | refine r_off rfl rfl rfl rfl rfl rfl ?_
          | refine r_len_on tab_ok rfl rfl rfl rfl rfl rfl rfl rfl rfl ?_
          | refine r_ev_on tab_ok rfl rfl rfl rfl rfl rfl (by first | exact trivial | exact ⟨by omega, by omega⟩ | omega) rfl ?_
          | refine r_ld_on tab_ok rfl rfl rfl rfl rfl rfl rfl ?_
          | refine r_build tab_ok rfl rfl rfl rfl rfl rfl ?_
          | refine r_bstr tab_ok rfl rfl rfl rfl rfl rfl rfl rfl rfl rfl ?_
          | refine r_build_cnd tab_ok rfl rfl rfl rfl rfl (by first | exact fun _ => rfl | exact cs1) rfl rfl rfl ?_
          | refine r_built_cnd tab_ok rfl rfl rfl rfl rfl rfl rfl rfl (by first | exact fun _ => rfl | exact cs1) rfl rfl rfl ?_
          | refine r_rem rfl rfl rfl rfl rfl rfl (by omega) rfl ?_
          | refine r_built0 tab_ok rfl rfl rfl rfl rfl rfl rfl ?_
          | refine r_built tab_ok rfl rfl rfl rfl rfl rfl rfl rfl rfl ?_
          | refine r_range tab_ok rfl rfl rfl rfl rfl rfl rfl ?_
          | refine r_next rfl rfl rfl rfl (by assumption) rfl rfl rfl ?_
          | refine r_next_end rfl rfl rfl rfl (by assumption) rfl rfl rfl ?_
          | refine r_nilck rfl rfl rfl rfl rfl rfl rfl ?_
          | refine r_rstr tab_ok rfl rfl rfl rfl rfl rfl rfl rfl ?_
          | refine r_rsstr tab_ok rfl rfl rfl rfl rfl rfl rfl rfl rfl rfl ?_
          | refine r_bstr' tab_ok rfl rfl rfl rfl rfl rfl rfl rfl rfl ?_
          | refine r_rowstr tab_ok rfl rfl rfl rfl rfl rfl rfl rfl rfl rfl ?_
          | refine r_strd tab_ok rfl rfl rfl rfl rfl rfl (by omega) rfl rfl rfl ?_
          | refine r_idxr tab_ok rfl rfl rfl rfl rfl rfl rfl rfl (by first | exact ⟨by omega, by omega⟩ | (simp; omega)) rfl ?_
          | refine r_lde tab_ok rfl rfl rfl rfl rfl (by omega) rfl rfl rfl rfl ?_
          | refine r_idxr_cnd tab_ok rfl rfl rfl rfl rfl rfl rfl rfl (by first | exact fun _ => rfl | exact cs1 | exact cs2) rfl rfl (by first | (intro _; exact ⟨by omega, by omega⟩) | (intro h; simp at h ⊢; omega)) rfl ?_
          | refine r_lde_cnd tab_ok rfl rfl rfl rfl rfl rfl rfl (by first | exact fun _ => rfl | exact cs1 | exact cs2) (by omega) rfl rfl rfl rfl ?_
          | refine r_cut tab_ok rfl rfl rfl rfl rfl rfl rfl rfl (by first | exact ⟨by simp, by simp; omega, by simp⟩ | (simp; omega)) rfl ?_
          | refine r_append tab_ok rfl rfl rfl rfl rfl rfl rfl rfl rfl (by first | omega | (simp; omega)) rfl ?_
          | refine r_append_nil tab_ok rfl rfl rfl rfl rfl rfl rfl rfl (by first | omega | (simp; omega)) rfl ?_)
        | refine ret1 (by first | exact .inl rfl | exact .inr rfl) rfl rfl rfl ?_
        | refine ret1_row (by first | exact .inl rfl | exact .inr rfl) rfl rfl rfl ?_
        | refine ret2 (by first | exact .inl rfl | exact .inr rfl) rfl rfl rfl rfl ?_ ?_
        | refine retM1 (by first | exact .inl rfl | exact .inr rfl) rfl rfl rfl rfl rfl ?_
        | exact retM0 (by first | exact .inl rfl | exact .inr rfl) rfl rfl rfl
        | refine awp_cond_t rfl ?_
        | refine awp_cond_f rfl ?_)
      exact ⟨⟨i + 1, by omega⟩, by dsimp only; omega, fits_of rfl ⟨Sub.refl _, Sub.refl _, trivial⟩⟩
    · have h' : ¬ (65 ≤ b.toNat ∧ b.toNat ≤ 90) := by simp at h; omega
      rw [hsm (lowB_no h')]
      repeat (first
        | refine awp_seq ?_
        | refine thenA_normal ?_
        | refine awp_block ?_
        | refine a_region ?_
        | refine a_draw1 mixed_ok (by kernel_rfl) ?_
        | refine awp_ret ?_
        | refine awp_exit ?_
        | refine thenA_exit ?_
        | refine thenA_ret ?_
        | refine blockA_normal ?_
        | refine blockA_ret ?_
        | refine blockA_hit rfl ?_
        | refine blockA_miss rfl ?_
        | refine awp_skip ?_
        | refine r_done ?_
        | refine r_done' ?_
        | (refine r_id ?_; first
          | refine r_len tab_ok rfl rfl rfl rfl rfl rfl rfl ?_
          | refine r_ev tab_ok rfl rfl rfl rfl (by first | exact trivial | exact ⟨by omega, by omega⟩ | omega | exact ⟨by omega, by omega, by omega, by omega⟩ | exact Nat.le_of_ble_eq_true rfl) rfl ?_
          | refine r_ld tab_ok rfl rfl rfl rfl rfl ?_
          | refine r_idx tab_ok rfl rfl rfl rfl rfl rfl rfl (by first | exact ⟨by omega, by omega⟩ | (simp; omega)) rfl rfl ?_
          | refine r_idxd tab_ok rfl rfl rfl rfl rfl rfl rfl (by decide) rfl rfl rfl ?_
          | refine r_wr tab_ok rfl rfl rfl rfl rfl ?_
          | refine r_st tab_ok rfl rfl rfl rfl ?_
          | refine r_len_cnd tab_ok rfl rfl rfl rfl rfl rfl (by first | exact fun _ => rfl | exact cs1) rfl rfl rfl ?_
          | refine r_ev_cnd tab_ok rfl rfl rfl rfl rfl rfl (by first | exact fun _ => rfl | exact cs1 | exact cs2 | exact cs3) (by first | exact fun _ => trivial | (intro h; simp at h; first | exact ⟨by omega, by omega⟩ | omega)) rfl ?_
          | refine r_ld_cnd tab_ok rfl rfl rfl rfl rfl rfl (by first | exact fun _ => rfl | exact cs1 | exact cs2 | exact cs3) rfl ?_
          | refine r_idx_cnd tab_ok rfl rfl rfl rfl rfl rfl rfl (by first | exact fun _ => rfl | exact cs1 | exact cs2) rfl rfl (by exact ⟨by omega, by omega⟩) rfl rfl ?_
          | refine r_idx_cnd' tab_ok rfl rfl rfl rfl rfl rfl rfl (by first | exact fun _ => rfl | exact cs1 | exact cs2) rfl rfl (by intro h; simp at h; exact ⟨by omega, by omega⟩) rfl rfl ?_
          | refine r_and_cnd rfl rfl rfl rfl rfl rfl rfl rfl rfl rfl ?_
          | refine r_or_cnd rfl rfl rfl rfl rfl rfl rfl rfl rfl rfl ?_
          | refine r_or rfl rfl rfl rfl rfl rfl rfl rfl ?_
          | refine r_and rfl rfl rfl rfl rfl rfl rfl rfl ?_
          | refine r_pick_t rfl rfl rfl rfl rfl rfl rfl ?_
          | refine r_pick_f rfl rfl rfl rfl rfl rfl rfl ?_
          | refine r_off rfl rfl rfl rfl rfl rfl ?_
          | refine r_len_on tab_ok rfl rfl rfl rfl rfl rfl rfl rfl rfl ?_
          | refine r_ev_on tab_ok rfl rfl rfl rfl rfl rfl (by first | exact trivial | exact ⟨by omega, by omega⟩ | omega) rfl ?_
          | refine r_ld_on tab_ok rfl rfl rfl rfl rfl rfl rfl ?_
          | refine r_build tab_ok rfl rfl rfl rfl rfl rfl ?_
          | refine r_bstr tab_ok rfl rfl rfl rfl rfl rfl rfl rfl rfl rfl ?_
          | refine r_build_cnd tab_ok rfl rfl rfl rfl rfl (by first | exact fun _ => rfl | exact cs1) rfl rfl rfl ?_
          | refine r_built_cnd tab_ok rfl rfl rfl rfl rfl rfl rfl rfl (by first | exact fun _ => rfl | exact cs1) rfl rfl rfl ?_
          | refine r_rem rfl rfl rfl rfl rfl rfl (by omega) rfl ?_
          | refine r_built0 tab_ok rfl rfl rfl rfl rfl rfl rfl ?_
          | refine r_built tab_ok rfl rfl rfl rfl rfl rfl rfl rfl rfl ?_
          | refine r_range tab_ok rfl rfl rfl rfl rfl rfl rfl ?_
          | refine r_next rfl rfl rfl rfl (by assumption) rfl rfl rfl ?_
          | refine r_next_end rfl rfl rfl rfl (by assumption) rfl rfl rfl ?_
          | refine r_nilck rfl rfl rfl rfl rfl rfl rfl ?_
          | refine r_rstr tab_ok rfl rfl rfl rfl rfl rfl rfl rfl ?_
          | refine r_rsstr tab_ok rfl rfl rfl rfl rfl rfl rfl rfl rfl rfl ?_
          | refine r_bstr' tab_ok rfl rfl rfl rfl rfl rfl rfl rfl rfl ?_
          | refine r_rowstr tab_ok rfl rfl rfl rfl rfl rfl rfl rfl rfl rfl ?_
          | refine r_strd tab_ok rfl rfl rfl rfl rfl rfl (by omega) rfl rfl rfl ?_
          | refine r_idxr tab_ok rfl rfl rfl rfl rfl rfl rfl rfl (by first | exact ⟨by omega, by omega⟩ | (simp; omega)) rfl ?_
          | refine r_lde tab_ok rfl rfl rfl rfl rfl (by omega) rfl rfl rfl rfl ?_
          | refine r_idxr_cnd tab_ok rfl rfl rfl rfl rfl rfl rfl rfl (by first | exact fun _ => rfl | exact cs1 | exact cs2) rfl rfl (by first | (intro _; exact ⟨by omega, by omega⟩) | (intro h; simp at h ⊢; omega)) rfl ?_
          | refine r_lde_cnd tab_ok rfl rfl rfl rfl rfl rfl rfl (by first | exact fun _ => rfl | exact cs1 | exact cs2) (by omega) rfl rfl rfl rfl ?_
          | refine r_cut tab_ok rfl rfl rfl rfl rfl rfl rfl rfl (by first | exact ⟨by simp, by simp; omega, by simp⟩ | (simp; omega)) rfl ?_
          | refine r_append tab_ok rfl rfl rfl rfl rfl rfl rfl rfl rfl (by first | omega | (simp; omega)) rfl ?_
          | refine r_append_nil tab_ok rfl rfl rfl rfl rfl rfl rfl rfl (by first | omega | (simp; omega)) rfl ?_)
        | refine ret1 (by first | exact .inl rfl | exact .inr rfl) rfl rfl rfl ?_
        | refine ret1_row (by first | exact .inl rfl | exact .inr rfl) rfl rfl rfl ?_
        | refine ret2 (by first | exact .inl rfl | exact .inr rfl) rfl rfl rfl rfl ?_ ?_
        | refine retM1 (by first | exact .inl rfl | exact .inr rfl) rfl rfl rfl rfl rfl ?_
        | exact retM0 (by first | exact .inl rfl | exact .inr rfl) rfl rfl rfl
        | refine awp_cond_t rfl ?_
        | refine awp_cond_f rfl ?_)
      exact ⟨⟨i + 1, by omega⟩, by dsimp only; omega, fits_of rfl ⟨Sub.refl _, Sub.refl _, trivial⟩⟩
  · have : i = s.size := by simp at hge; omega
    subst this
    repeat (first
      | refine awp_seq ?_
      | refine thenA_normal ?_
      | refine awp_block ?_
      | refine a_region ?_
      | refine a_draw1 mixed_ok (by kernel_rfl) ?_
      | refine awp_ret ?_
      | refine awp_exit ?_
      | refine thenA_exit ?_
      | refine thenA_ret ?_
      | refine blockA_normal ?_
      | refine blockA_ret ?_
      | refine blockA_hit rfl ?_
      | refine blockA_miss rfl ?_
      | refine awp_skip ?_
      | refine r_done ?_
      | refine r_done' ?_
      | (refine r_id ?_; first
        | refine r_len tab_ok rfl rfl rfl rfl rfl rfl rfl ?_
        | refine r_ev tab_ok rfl rfl rfl rfl (by first | exact trivial | exact ⟨by omega, by omega⟩ | omega | exact ⟨by omega, by omega, by omega, by omega⟩ | exact Nat.le_of_ble_eq_true rfl) rfl ?_
        | refine r_ld tab_ok rfl rfl rfl rfl rfl ?_
        | refine r_idx tab_ok rfl rfl rfl rfl rfl rfl rfl (by first | exact ⟨by omega, by omega⟩ | (simp; omega)) rfl rfl ?_
        | refine r_idxd tab_ok rfl rfl rfl rfl rfl rfl rfl (by decide) rfl rfl rfl ?_
        | refine r_wr tab_ok rfl rfl rfl rfl rfl ?_
        | refine r_st tab_ok rfl rfl rfl rfl ?_
        | refine r_len_cnd tab_ok rfl rfl rfl rfl rfl rfl (by first | exact fun _ => rfl | exact cs1) rfl rfl rfl ?_
        | refine r_ev_cnd tab_ok rfl rfl rfl rfl rfl rfl (by first | exact fun _ => rfl | exact cs1 | exact cs2 | exact cs3) (by first | exact fun _ => trivial | (intro h; simp at h; first | exact ⟨by omega, by omega⟩ | omega)) rfl ?_
        | refine r_ld_cnd tab_ok rfl rfl rfl rfl rfl rfl (by first | exact fun _ => rfl | exact cs1 | exact cs2 | exact cs3) rfl ?_
        | refine r_idx_cnd tab_ok rfl rfl rfl rfl rfl rfl rfl (by first | exact fun _ => rfl | exact cs1 | exact cs2) rfl rfl (by exact ⟨by omega, by omega⟩) rfl rfl ?_
        | refine r_idx_cnd' tab_ok rfl rfl rfl rfl rfl rfl rfl (by first | exact fun _ => rfl | exact cs1 | exact cs2) rfl rfl (by intro h; simp at h; exact ⟨by omega, by omega⟩) rfl rfl ?_
        | refine r_and_cnd rfl rfl rfl rfl rfl rfl rfl rfl rfl rfl ?_
        | refine r_or_cnd rfl rfl rfl rfl rfl rfl rfl rfl rfl rfl ?_
        | refine r_or rfl rfl rfl rfl rfl rfl rfl rfl ?_
        | refine r_and rfl rfl rfl rfl rfl rfl rfl rfl ?_
        | refine r_pick_t rfl rfl rfl rfl rfl rfl rfl ?_
        | refine r_pick_f rfl rfl rfl rfl rfl rfl rfl ?_
        | refine r_off rfl rfl rfl rfl rfl rfl ?_
        | refine r_len_on tab_ok rfl rfl rfl rfl rfl rfl rfl rfl rfl ?_
        | refine r_ev_on tab_ok rfl rfl rfl rfl rfl rfl (by first | exact trivial | exact ⟨by omega, by omega⟩ | omega) rfl ?_
        | refine r_ld_on tab_ok rfl rfl rfl rfl rfl rfl rfl ?_
        | refine r_build tab_ok rfl rfl rfl rfl rfl rfl ?_
        | refine r_bstr tab_ok rfl rfl rfl rfl rfl rfl rfl rfl rfl rfl ?_
        | refine r_build_cnd tab_ok rfl rfl rfl rfl rfl (by first | exact fun _ => rfl | exact cs1) rfl rfl rfl ?_
        | refine r_built_cnd tab_ok rfl rfl rfl rfl rfl rfl rfl rfl (by first | exact fun _ => rfl | exact cs1) rfl rfl rfl ?_
        | refine r_rem rfl rfl rfl rfl rfl rfl (by omega) rfl ?_
        | refine r_built0 tab_ok rfl rfl rfl rfl rfl rfl rfl ?_
        | refine r_built tab_ok rfl rfl rfl rfl rfl rfl rfl rfl rfl ?_
        | refine r_range tab_ok rfl rfl rfl rfl rfl rfl rfl ?_
        | refine r_next rfl rfl rfl rfl (by assumption) rfl rfl rfl ?_
        | refine r_next_end rfl rfl rfl rfl (by assumption) rfl rfl rfl ?_
        | refine r_nilck rfl rfl rfl rfl rfl rfl rfl ?_
        | refine r_rstr tab_ok rfl rfl rfl rfl rfl rfl rfl rfl ?_
        | refine r_rsstr tab_ok rfl rfl rfl rfl rfl rfl rfl rfl rfl rfl ?_
        | refine r_bstr' tab_ok rfl rfl rfl rfl rfl rfl rfl rfl rfl ?_
        | refine r_rowstr tab_ok rfl rfl rfl rfl rfl rfl rfl rfl rfl rfl ?_
        | refine r_strd tab_ok rfl rfl rfl rfl rfl rfl (by omega) rfl rfl rfl ?_
        | refine r_idxr tab_ok rfl rfl rfl rfl rfl rfl rfl rfl (by first | exact ⟨by omega, by omega⟩ | (simp; omega)) rfl ?_
        | refine r_lde tab_ok rfl rfl rfl rfl rfl (by omega) rfl rfl rfl rfl ?_
        | refine r_idxr_cnd tab_ok rfl rfl rfl rfl rfl rfl rfl rfl (by first | exact fun _ => rfl | exact cs1 | exact cs2) rfl rfl (by first | (intro _; exact ⟨by omega, by omega⟩) | (intro h; simp at h ⊢; omega)) rfl ?_
        | refine r_lde_cnd tab_ok rfl rfl rfl rfl rfl rfl rfl (by first | exact fun _ => rfl | exact cs1 | exact cs2) (by omega) rfl rfl rfl rfl ?_
        | refine r_cut tab_ok rfl rfl rfl rfl rfl rfl rfl rfl (by first | exact ⟨by simp, by simp; omega, by simp⟩ | (simp; omega)) rfl ?_
        | refine r_append tab_ok rfl rfl rfl rfl rfl rfl rfl rfl rfl (by first | omega | (simp; omega)) rfl ?_
        | refine r_append_nil tab_ok rfl rfl rfl rfl rfl rfl rfl rfl (by first | omega | (simp; omega)) rfl ?_)
      | refine ret1 (by first | exact .inl rfl | exact .inr rfl) rfl rfl rfl ?_
      | refine ret1_row (by first | exact .inl rfl | exact .inr rfl) rfl rfl rfl ?_
      | refine ret2 (by first | exact .inl rfl | exact .inr rfl) rfl rfl rfl rfl ?_ ?_
      | refine retM1 (by first | exact .inl rfl | exact .inr rfl) rfl rfl rfl rfl rfl ?_
      | exact retM0 (by first | exact .inl rfl | exact .inr rfl) rfl rfl rfl
      | refine awp_cond_t rfl ?_
      | refine awp_cond_f rfl ?_)
    exact Sub.of_eq (by unfold mixL; rw [List.take_of_length_le (by omega), List.drop_of_length_le (by omega), List.append_nil]; rfl)
end Go.Proofs.Ytpnjkdmcalcleaa
