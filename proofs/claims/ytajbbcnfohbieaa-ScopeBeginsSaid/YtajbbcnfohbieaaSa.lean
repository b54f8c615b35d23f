/- ScopeSums: the walk. -/
import Derived.Test.YtajbbcnfohbieaaS9
namespace Go.Proofs.Ytajbbcnfohbieaa
open Go Go.RowKit

def sn : ByteArray := ⟨#[110]⟩
def wantF (w k : Int) : Int := if -2147483648 ≤ w + k ∧ w + k < 2147483648 then w + k else w
theorem add1 (w k : Int) : addL [⟨sn, 1, w, false⟩] 2 ⟨sn, k, false, false⟩ = [⟨sn, 1, wantF w k, false⟩] := by
  have e : addL [⟨sn, 1, w, false⟩] 2 ⟨sn, k, false, false⟩ = if w + k < -2147483648 ∨ 2147483647 < w + k then [⟨sn, 1, w, false⟩] else [⟨sn, 1, w + k, false⟩] := rfl
  rw [e, wantF]
  by_cases h : w + k < -2147483648 ∨ 2147483647 < w + k
  · rw [if_pos h, if_neg (by omega)]
  · rw [if_neg h, if_pos (by omega)]
theorem value1 (w : Int) : PCalls Try.prog 9 [.sl 4 (([⟨sn, 1, w, false⟩] : List Ctr).map cD), .val (.string sn)] (.tup [.val (.int .i64 w), .val (.bool true)]) := value_ok [⟨sn, 1, w, false⟩] sn (by show 1 ≤ _; decide)
set_option maxHeartbeats 1000000 in
theorem sums_ok (start : Int) (l : List Int) (hl : l.length ≤ 9223372036854775807) : PCalls Try.prog 3 [.val (.int .i64 start), .sl 1 (l.map iD)] (.val (.bool true)) := by
  refine p_start Try.func3 Try.ntmps3 rfl rfl rfl fun S w => ?_
  repeat (first
    | refine awp_seq ?_
    | refine thenA_normal ?_
    | refine a_region ?_
    | refine r_done ?_
    | (refine r_id ?_; first
      | refine r_len tab_ok rfl rfl rfl rfl rfl rfl rfl ?_
      | refine r_ev tab_ok rfl rfl rfl rfl (by first | exact trivial | exact ⟨by omega, by omega⟩ | omega | exact ⟨by omega, by omega, by omega, by omega⟩ | exact Nat.le_of_ble_eq_true rfl) rfl ?_
      | refine r_ev_cnd tab_ok rfl rfl rfl rfl rfl rfl (by first | exact fun _ => rfl | exact cs1 | exact cs2 | exact cs3) (by first | exact fun _ => trivial | (intro h; simp at h; first | exact ⟨by omega, by omega⟩ | omega)) rfl ?_
      | refine r_or rfl rfl rfl rfl rfl rfl rfl rfl ?_))
  refine awp_cond rfl (fun _ => ?_) (fun h => ?_)
  · repeat (first
      | refine awp_seq ?_
      | refine a_region ?_)
    refine r_call awake_ok call6 rfl rfl trivial rfl rfl rfl rfl ?_
    repeat (first
      | refine thenA_normal ?_
      | refine awp_ret ?_
      | refine thenA_ret ?_
      | refine r_done ?_
      | (refine r_id ?_; first
        | refine r_ev tab_ok rfl rfl rfl rfl (by first | exact trivial | exact ⟨by omega, by omega⟩ | omega | exact ⟨by omega, by omega, by omega, by omega⟩ | exact Nat.le_of_ble_eq_true rfl) rfl ?_)
      | refine ret1 (by first | exact .inl rfl | exact .inr rfl) rfl rfl rfl ?_)
    exact Sub.refl _
  · simp only [Bool.or_eq_false_iff, decide_eq_false_iff_not] at h
    obtain ⟨⟨h1, h2⟩, h3⟩ := h
    have h0 := reset_ok [] 1 [] ⟨sn, start, false, false⟩ (by decide) (by decide)
    have e0 : resetL [] 1 [] ⟨sn, start, false, false⟩ = [⟨sn, 1, start, false⟩] := rfl
    rw [e0] at h0
    repeat (first
      | refine awp_seq ?_
      | refine a_region ?_
      | refine awp_skip ?_
      | (refine r_id ?_; first
        | refine r_ev tab_ok rfl rfl rfl rfl (by first | exact trivial | exact ⟨by omega, by omega⟩ | omega | exact ⟨by omega, by omega, by omega, by omega⟩ | exact Nat.le_of_ble_eq_true rfl) rfl ?_
        | refine r_build tab_ok rfl rfl rfl rfl rfl rfl ?_))
    refine r_call h0 call7 rfl rfl ⟨sub_nil4, Sub.refl _, sub_nil1, Sub.refl _, trivial⟩ rfl rfl rfl rfl ?_
    repeat (first
      | refine awp_seq ?_
      | refine thenA_normal ?_
      | refine awp_block ?_
      | refine a_region ?_
      | refine r_done ?_
      | (refine r_id ?_; first
        | refine r_ev tab_ok rfl rfl rfl rfl (by first | exact trivial | exact ⟨by omega, by omega⟩ | omega | exact ⟨by omega, by omega, by omega, by omega⟩ | exact Nat.le_of_ble_eq_true rfl) rfl ?_))
    refine a_loop (σ := {x : Nat × Int // x.1 ≤ l.length ∧ -2147483648 ≤ x.2 ∧ x.2 < 2147483648}) (fun _ => []) (fun x => [(1, .sl 1 (l.map iD)), (5, .sl 4 (([⟨sn, 1, x.1.2, false⟩] : List Ctr).map cD)), (6, .val (.int .i64 x.1.2)), (7, .val (.int .i64 x.1.1))]) (fun x => l.length - x.1.1) ⟨(0, start), Nat.zero_le _, by dsimp only; omega, by dsimp only; omega⟩
      (fits_of rfl ⟨Sub.refl _, Sub.refl _, Sub.refl _, Sub.refl _, trivial⟩) ?_
    rintro ⟨⟨i, wt⟩, hi, hw1, hw2⟩
    dsimp only at hi hw1 hw2 ⊢
    repeat (first
      | refine awp_seq ?_
      | refine thenA_normal ?_
      | refine a_region ?_
      | refine r_done ?_
      | (refine r_id ?_; first
        | refine r_len tab_ok rfl rfl rfl rfl rfl rfl rfl ?_
        | refine r_ev tab_ok rfl rfl rfl rfl (by first | exact trivial | exact ⟨by omega, by omega⟩ | omega | exact ⟨by omega, by omega, by omega, by omega⟩ | exact Nat.le_of_ble_eq_true rfl) rfl ?_))
    refine awp_cond_p rfl (fun hlt => ?_) (fun hge => ?_)
    · have hlt' : i < l.length := by omega
      repeat (first
        | refine awp_seq ?_
        | refine awp_block ?_
        | refine a_region ?_
        | refine awp_skip ?_
        | refine r_done ?_
        | (refine r_id ?_; first
          | refine r_ev tab_ok rfl rfl rfl rfl (by first | exact trivial | exact ⟨by omega, by omega⟩ | omega | exact ⟨by omega, by omega, by omega, by omega⟩ | exact Nat.le_of_ble_eq_true rfl) rfl ?_
          | refine r_idx tab_ok rfl rfl rfl rfl rfl rfl rfl (by first | exact ⟨by omega, by omega⟩ | (simp; omega)) rfl rfl ?_
          | refine r_build tab_ok rfl rfl rfl rfl rfl rfl ?_))
      obtain ⟨k, hk⟩ : ∃ k, max (min (l[((i : Nat) : Int).toNat]'hlt') 2147483647) (-2147483648) = k := ⟨_, rfl⟩
      have hk1 : -2147483648 ≤ k ∧ k ≤ 2147483647 := by omega
      rw [hk]
      clear hk
      have ha := add_ok [⟨sn, 1, wt, false⟩] 2 ⟨sn, k, false, false⟩ (by show 1 ≤ _; decide) (fun c hc => by rw [List.mem_singleton] at hc; subst hc; exact ⟨by dsimp only; omega, by dsimp only; omega⟩) ⟨by dsimp only; omega, by dsimp only; omega⟩
      rw [add1] at ha
      refine r_call ha call8 rfl rfl ⟨Sub.refl _, Sub.refl _, Sub.refl _, trivial⟩ rfl rfl rfl rfl ?_
      repeat (first
        | refine awp_seq ?_
        | refine thenA_normal ?_
        | refine a_region ?_
        | refine r_done ?_
        | (refine r_id ?_; first
          | refine r_ev tab_ok rfl rfl rfl rfl (by first | exact trivial | exact ⟨by omega, by omega⟩ | omega | exact ⟨by omega, by omega, by omega, by omega⟩ | exact Nat.le_of_ble_eq_true rfl) rfl ?_
          | refine r_ev_cnd tab_ok rfl rfl rfl rfl rfl rfl (by first | exact fun _ => rfl | exact cs1 | exact cs2 | exact cs3) (by first | exact fun _ => trivial | (intro h; simp at h; first | exact ⟨by omega, by omega⟩ | omega)) rfl ?_
          | refine r_and rfl rfl rfl rfl rfl rfl rfl rfl ?_))
      refine awp_cond rfl (fun h => ?_) (fun h => ?_)
      · simp only [Bool.and_eq_true, decide_eq_true_eq] at h
        have ew : wantF wt k = wt + k := if_pos h
        rw [ew]
        repeat (first
          | refine awp_seq ?_
          | refine a_region ?_
          | refine r_done ?_
          | (refine r_id ?_; first
            | refine r_ev tab_ok rfl rfl rfl rfl (by first | exact trivial | exact ⟨by omega, by omega⟩ | omega | exact ⟨by omega, by omega, by omega, by omega⟩ | exact Nat.le_of_ble_eq_true rfl) rfl ?_))
        refine r_call (value1 (wt + k)) call9 rfl rfl ⟨Sub.refl _, Sub.refl _, trivial⟩ rfl rfl rfl rfl ?_
        repeat (first
          | refine awp_seq ?_
          | refine thenA_normal ?_
          | refine a_region ?_
          | refine r_done ?_
          | (refine r_id ?_; first
            | refine r_ev tab_ok rfl rfl rfl rfl (by first | exact trivial | exact ⟨by omega, by omega⟩ | omega | exact ⟨by omega, by omega, by omega, by omega⟩ | exact Nat.le_of_ble_eq_true rfl) rfl ?_
            | refine r_len_cnd tab_ok rfl rfl rfl rfl rfl rfl (by first | exact fun _ => rfl | exact cs1) rfl rfl rfl ?_
            | refine r_ev_cnd tab_ok rfl rfl rfl rfl rfl rfl (by first | exact fun _ => rfl | exact cs1 | exact cs2 | exact cs3) (by first | exact fun _ => trivial | (intro h; simp at h; first | exact ⟨by omega, by omega⟩ | omega)) rfl ?_
            | refine r_or rfl rfl rfl rfl rfl rfl rfl rfl ?_))
        refine awp_cond rfl (fun h' => ?_) (fun h' => ?_)
        · simp at h'
        · repeat (first
            | refine thenA_normal ?_
            | refine a_region ?_
            | refine awp_skip ?_
            | refine r_done ?_
            | (refine r_id ?_; first
              | refine r_ev tab_ok rfl rfl rfl rfl (by first | exact trivial | exact ⟨by omega, by omega⟩ | omega | exact ⟨by omega, by omega, by omega, by omega⟩ | exact Nat.le_of_ble_eq_true rfl) rfl ?_))
          exact ⟨⟨(i + 1, wt + k), by dsimp only; omega, by dsimp only; omega, by dsimp only; omega⟩, by dsimp only; omega, fits_of rfl ⟨Sub.refl _, Sub.refl _, Sub.refl _, Sub.refl _, trivial⟩⟩
      · have h5 : ¬ (-2147483648 ≤ wt + k ∧ wt + k < 2147483648) := fun h6 => by
          rw [decide_eq_true h6.1, decide_eq_true h6.2] at h; cases h
        have ew : wantF wt k = wt := if_neg h5
        rw [ew]
        repeat (first
          | refine awp_seq ?_
          | refine a_region ?_
          | refine awp_skip ?_
          | (refine r_id ?_; first
            | refine r_ev tab_ok rfl rfl rfl rfl (by first | exact trivial | exact ⟨by omega, by omega⟩ | omega | exact ⟨by omega, by omega, by omega, by omega⟩ | exact Nat.le_of_ble_eq_true rfl) rfl ?_))
        refine r_call (value1 wt) call9 rfl rfl ⟨Sub.refl _, Sub.refl _, trivial⟩ rfl rfl rfl rfl ?_
        repeat (first
          | refine awp_seq ?_
          | refine thenA_normal ?_
          | refine a_region ?_
          | refine r_done ?_
          | (refine r_id ?_; first
            | refine r_ev tab_ok rfl rfl rfl rfl (by first | exact trivial | exact ⟨by omega, by omega⟩ | omega | exact ⟨by omega, by omega, by omega, by omega⟩ | exact Nat.le_of_ble_eq_true rfl) rfl ?_
            | refine r_len_cnd tab_ok rfl rfl rfl rfl rfl rfl (by first | exact fun _ => rfl | exact cs1) rfl rfl rfl ?_
            | refine r_ev_cnd tab_ok rfl rfl rfl rfl rfl rfl (by first | exact fun _ => rfl | exact cs1 | exact cs2 | exact cs3) (by first | exact fun _ => trivial | (intro h; simp at h; first | exact ⟨by omega, by omega⟩ | omega)) rfl ?_
            | refine r_or rfl rfl rfl rfl rfl rfl rfl rfl ?_))
        refine awp_cond rfl (fun h' => ?_) (fun h' => ?_)
        · simp at h'
        · repeat (first
            | refine thenA_normal ?_
            | refine a_region ?_
            | refine awp_skip ?_
            | refine r_done ?_
            | (refine r_id ?_; first
              | refine r_ev tab_ok rfl rfl rfl rfl (by first | exact trivial | exact ⟨by omega, by omega⟩ | omega | exact ⟨by omega, by omega, by omega, by omega⟩ | exact Nat.le_of_ble_eq_true rfl) rfl ?_))
          exact ⟨⟨(i + 1, wt), by dsimp only; omega, hw1, hw2⟩, by dsimp only; omega, fits_of rfl ⟨Sub.refl _, Sub.refl _, Sub.refl _, Sub.refl _, trivial⟩⟩
    · repeat (first
        | refine awp_seq ?_
        | refine a_region ?_
        | refine awp_exit ?_)
      refine r_call awake_ok call6 rfl rfl trivial rfl rfl rfl rfl ?_
      repeat (first
        | refine thenA_normal ?_
        | refine awp_ret ?_
        | refine r_done ?_
        | (refine r_id ?_; first
          | refine r_ev tab_ok rfl rfl rfl rfl (by first | exact trivial | exact ⟨by omega, by omega⟩ | omega | exact ⟨by omega, by omega, by omega, by omega⟩ | exact Nat.le_of_ble_eq_true rfl) rfl ?_)
        | refine ret1 (by first | exact .inl rfl | exact .inr rfl) rfl rfl rfl ?_)
      exact Sub.refl _
end Go.Proofs.Ytajbbcnfohbieaa
