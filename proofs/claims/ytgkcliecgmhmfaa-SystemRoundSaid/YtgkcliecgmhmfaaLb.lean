/- Counter styles: Signs. Numbers of law9's seat. -/
import Derived.Test.YtgkcliecgmhmfaaLa
import Derived.Test.YtgkcliecgmhmfaaL8
namespace Go.Proofs.Ytgkcliecgmhmfaa
open Go Go.RowKit Go.Shelf

theorem repeat1_ok (s : ByteArray) : PCalls Try.prog 18 [.val (.string s), .val (.int .i64 1)] (.val (.string s)) := by
  refine p_start Try.func18 Try.ntmps18 rfl rfl rfl fun S w => ?_
  repeat (first
    | refine awp_seq ?_
    | refine thenA_normal ?_
    | refine awp_block ?_
    | refine a_region ?_
    | refine awp_ret ?_
    | refine thenA_ret ?_
    | refine blockA_ret ?_
    | refine r_done ?_
    | (refine r_id ?_; first
      | refine r_ev tab_ok rfl rfl rfl rfl (by first | exact trivial | exact ⟨by omega, by omega⟩ | omega | exact ⟨by omega, by omega, by omega, by omega⟩ | exact Nat.le_of_ble_eq_true rfl) rfl ?_)
    | refine ret1 (by first | exact .inl rfl | exact .inr rfl) rfl rfl rfl ?_
    | refine awp_cond_t rfl ?_
    | refine awp_cond_f rfl ?_)
  exact Sub.refl _
theorem repeat0_ok (s : ByteArray) (c : Nat) (hc2 : 2 ≤ c) (hc : c ≤ 60) (h0 : s.size = 0) : PCalls Try.prog 18 [.val (.string s), .val (.int .i64 c)] (.val (.string ⟨#[]⟩)) := by
  refine p_start Try.func18 Try.ntmps18 rfl rfl rfl fun S w => ?_
  repeat (first
    | refine awp_seq ?_
    | refine thenA_normal ?_
    | refine awp_block ?_
    | refine a_region ?_
    | refine r_done ?_
    | (refine r_id ?_; first
      | refine r_ev tab_ok rfl rfl rfl rfl (by first | exact trivial | exact ⟨by omega, by omega⟩ | omega | exact ⟨by omega, by omega, by omega, by omega⟩ | exact Nat.le_of_ble_eq_true rfl) rfl ?_))
  refine awp_cond_p rfl (fun h => absurd h (by omega)) (fun _ => ?_)
  repeat (first
    | refine awp_seq ?_
    | refine thenA_normal ?_
    | refine a_region ?_
    | refine r_done ?_
    | (refine r_id ?_; first
      | refine r_ev tab_ok rfl rfl rfl rfl (by first | exact trivial | exact ⟨by omega, by omega⟩ | omega | exact ⟨by omega, by omega, by omega, by omega⟩ | exact Nat.le_of_ble_eq_true rfl) rfl ?_))
  refine awp_cond_p rfl (fun h => absurd h (by omega)) (fun _ => ?_)
  repeat (first
    | refine awp_seq ?_
    | refine thenA_normal ?_
    | refine a_region ?_
    | refine awp_skip ?_
    | refine r_done ?_
    | (refine r_id ?_; first
      | refine r_ev tab_ok rfl rfl rfl rfl (by first | exact trivial | exact ⟨by omega, by omega⟩ | omega | exact ⟨by omega, by omega, by omega, by omega⟩ | exact Nat.le_of_ble_eq_true rfl) rfl ?_)
    | refine awp_cond_f rfl ?_)
  have hm := mul_ok s.size c (by omega) (by omega)
  rw [h0, Nat.zero_mul, Nat.zero_div, Nat.zero_mod] at hm
  rw [h0]
  refine r_call hm call28 rfl rfl ⟨Sub.refl _, Sub.refl _, trivial⟩ rfl rfl rfl rfl ?_
  repeat (first
    | refine awp_seq ?_
    | refine thenA_normal ?_
    | refine a_region ?_
    | refine awp_skip ?_
    | refine r_done ?_
    | (refine r_id ?_; first
      | refine r_ev tab_ok rfl rfl rfl rfl (by first | exact trivial | exact ⟨by omega, by omega⟩ | omega | exact ⟨by omega, by omega, by omega, by omega⟩ | exact Nat.le_of_ble_eq_true rfl) rfl ?_
      | refine r_ev_cnd tab_ok rfl rfl rfl rfl rfl rfl (by first | exact fun _ => rfl | exact cs1 | exact cs2 | exact cs3) (by first | exact fun _ => trivial | (intro h; simp at h; first | exact ⟨by omega, by omega⟩ | omega)) rfl ?_
      | refine r_or rfl rfl rfl rfl rfl rfl rfl rfl ?_)
    | refine awp_cond_f rfl ?_)
  refine awp_cond_p rfl (fun _ => ?_) (fun h => absurd (by omega) h)
  repeat (first
    | refine awp_seq ?_
    | refine thenA_normal ?_
    | refine a_region ?_
    | refine awp_ret ?_
    | refine thenA_ret ?_
    | refine r_done ?_
    | (refine r_id ?_; first
      | refine r_ev tab_ok rfl rfl rfl rfl (by first | exact trivial | exact ⟨by omega, by omega⟩ | omega | exact ⟨by omega, by omega, by omega, by omega⟩ | exact Nat.le_of_ble_eq_true rfl) rfl ?_)
    | refine ret1 (by first | exact .inl rfl | exact .inr rfl) rfl rfl rfl ?_)
  exact Sub.refl _
theorem rep_ok (s : ByteArray) (c : Nat) (hc1 : 1 ≤ c) (hc : c ≤ 60) (hs : s.size ≤ 100) : PCalls Try.prog 18 [.val (.string s), .val (.int .i64 c)] (.val (.string (repS s c))) := by
  rcases Nat.lt_or_ge 1 c with h1 | h1
  · rcases Nat.eq_zero_or_pos s.size with h0 | h0
    · have e : repS s c = ⟨#[]⟩ := by
        have e1 : s.data.toList = [] := List.eq_nil_of_length_eq_zero (by rw [← Lib.size_eq]; exact h0)
        rw [repS, e1]
        have e2 : Lib.repeatL ([] : List UInt8) c = [] := List.eq_nil_of_length_eq_zero (by rw [Lib.repeatL_length]; rfl)
        rw [e2]
      rw [e]
      exact repeat0_ok s c h1 hc h0
    · exact repeat_ok s c h1 hc h0 hs
  · have e : c = 1 := by omega
    subst e
    have e2 : repS s 1 = s := by rw [repS, Lib.repeatL_one]
    rw [e2]
    exact repeat1_ok s
end Go.Proofs.Ytgkcliecgmhmfaa
