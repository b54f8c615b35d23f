/- strings.Repeat on law9's seat. -/
import Derived.Test.YtgkcliecgmhmfaaL9
import Derived.Lib.RepeatB
namespace Go.Proofs.Ytgkcliecgmhmfaa
open Go Go.RowKit Go.Shelf

def repS (s : ByteArray) (c : Nat) : ByteArray := ⟨(Lib.repeatL s.data.toList c).toArray⟩
theorem fast_pre (K : ByteArray) (x : UInt8) (m : Nat) (hK : K.data.toList = List.replicate m x) (s : ByteArray) (c n : Nat) (hn : s.size * c = n) (hle : n ≤ m) (h1 : s.size ≤ m) (hp : K.extract 0 s.size = s) : K.extract 0 n = repS s c := by
  have hs : s.data.toList = List.replicate s.size x := by
    have h2 : (K.extract 0 s.size).data.toList = s.data.toList := by rw [hp]
    rw [← h2, Lib.extract_data, hK]
    simp [Nat.min_eq_left h1]
  have e : (K.extract 0 n).data.toList = (repS s c).data.toList := by
    rw [Lib.extract_data, hK, repS, List.toList_toArray, hs, Lib.repeatL_replicate]
    simp [Nat.min_eq_left hle]
    rw [← hn, Nat.mul_comm]
  exact ByteArray.ext (Array.toList_inj.1 e)
set_option maxHeartbeats 8000000 in
theorem repeat_ok (s : ByteArray) (c : Nat) (hc2 : 2 ≤ c) (hc : c ≤ 60) (h0 : 0 < s.size) (hs : s.size ≤ 100) : PCalls Try.prog 18 [.val (.string s), .val (.int .i64 c)] (.val (.string (repS s c))) := by
  refine p_start Try.func18 Try.ntmps18 rfl rfl rfl fun S w => ?_
  repeat (first
    | refine awp_seq ?_
    | refine thenA_normal ?_
    | refine awp_block ?_
    | refine a_region ?_
    | refine r_done ?_
    | (refine r_id ?_; first
      | refine r_ev tab_ok rfl rfl rfl rfl (by first | exact trivial | exact ⟨by omega, by omega⟩ | omega | exact ⟨by omega, by omega, by omega, by omega⟩ | exact Nat.le_of_ble_eq_true rfl) rfl ?_))
  refine awp_cond_p rfl (fun h => absurd h (by omega)) (fun _ => ?_)
  repeat (first
    | refine awp_seq ?_
    | refine thenA_normal ?_
    | refine a_region ?_
    | refine r_done ?_
    | (refine r_id ?_; first
      | refine r_ev tab_ok rfl rfl rfl rfl (by first | exact trivial | exact ⟨by omega, by omega⟩ | omega | exact ⟨by omega, by omega, by omega, by omega⟩ | exact Nat.le_of_ble_eq_true rfl) rfl ?_))
  refine awp_cond_p rfl (fun h => absurd h (by omega)) (fun _ => ?_)
  repeat (first
    | refine awp_seq ?_
    | refine thenA_normal ?_
    | refine a_region ?_
    | refine awp_skip ?_
    | refine r_done ?_
    | (refine r_id ?_; first
      | refine r_ev tab_ok rfl rfl rfl rfl (by first | exact trivial | exact ⟨by omega, by omega⟩ | omega | exact ⟨by omega, by omega, by omega, by omega⟩ | exact Nat.le_of_ble_eq_true rfl) rfl ?_)
    | refine awp_cond_f rfl ?_)
  have hm := mul_ok s.size c (by omega) (by omega)
  have hle : s.size * c ≤ 6000 := Nat.mul_le_mul hs hc
  rw [Nat.div_eq_of_lt (Nat.lt_of_le_of_lt hle (by decide)), Nat.mod_eq_of_lt (Nat.lt_of_le_of_lt hle (by decide))] at hm
  have hge : s.size ≤ s.size * c := Nat.le_mul_of_pos_right _ (by omega)
  obtain ⟨n, hn⟩ : ∃ n, s.size * c = n := ⟨_, rfl⟩
  rw [hn] at hm hle hge
  refine r_call hm call28 rfl rfl ⟨Sub.refl _, Sub.refl _, trivial⟩ rfl rfl rfl rfl ?_
  repeat (first
    | refine awp_seq ?_
    | refine thenA_normal ?_
    | refine a_region ?_
    | refine r_done ?_
    | (refine r_id ?_; first
      | refine r_ev tab_ok rfl rfl rfl rfl (by first | exact trivial | exact ⟨by omega, by omega⟩ | omega | exact ⟨by omega, by omega, by omega, by omega⟩ | exact Nat.le_of_ble_eq_true rfl) rfl ?_
      | refine r_ev_cnd tab_ok rfl rfl rfl rfl rfl rfl (by first | exact fun _ => rfl | exact cs1 | exact cs2 | exact cs3) (by first | exact fun _ => trivial | (intro h; simp at h; first | exact ⟨by omega, by omega⟩ | omega)) rfl ?_
      | refine r_or rfl rfl rfl rfl rfl rfl rfl rfl ?_))
  refine awp_cond rfl (fun h => ?_) (fun _ => ?_)
  · exfalso
    simp at h
    omega
  repeat (first
    | refine awp_seq ?_
    | refine thenA_normal ?_
    | refine a_region ?_
    | refine awp_skip ?_
    | refine r_done ?_
    | (refine r_id ?_; first
      | refine r_ev tab_ok rfl rfl rfl rfl (by first | exact trivial | exact ⟨by omega, by omega⟩ | omega | exact ⟨by omega, by omega, by omega, by omega⟩ | exact Nat.le_of_ble_eq_true rfl) rfl ?_))
  refine awp_cond_p rfl (fun h => absurd h (by omega)) (fun _ => ?_)
  repeat (first
    | refine awp_seq ?_
    | refine thenA_normal ?_
    | refine a_region ?_
    | refine awp_skip ?_
    | refine r_done ?_
    | (refine r_id ?_; first
      | refine r_ev tab_ok rfl rfl rfl rfl (by first | exact trivial | exact ⟨by omega, by omega⟩ | omega | exact ⟨by omega, by omega, by omega, by omega⟩ | exact Nat.le_of_ble_eq_true rfl) rfl ?_))
  refine awp_mono (Q := fun e s' => (e = .normal ∧ Fits ⟨Try.prog, 125, S, w, [], noE, none⟩ s' ⟨[], [(0, .val (.string s)), (1, .val (.int .i64 c)), (4, .val (.string ⟨#[]⟩)), (7, .val (.int .i64 n))]⟩) ∨ (e = .ret ∧ retQ Try.prog Try.f18 (.val (.string (repS s c))) .ret s')) ?_ ?_
  · refine awp_block ?_
    refine awp_seq ?_
    refine awp_mono (Q := fun e s' => e = .normal ∧ ∃ b : Bool, Fits ⟨Try.prog, 125, S, w, [], noE, none⟩ s' ⟨[], (43, .val (.bool b)) :: [(0, .val (.string s)), (1, .val (.int .i64 c)), (4, .val (.string ⟨#[]⟩)), (7, .val (.int .i64 n))]⟩) ?_ ?_
    · repeat (first
        | refine awp_seq ?_
        | refine thenA_normal ?_
        | refine a_region ?_
        | refine r_done ?_
        | (refine r_id ?_; first
          | refine r_ev tab_ok rfl rfl rfl rfl (by first | exact trivial | exact ⟨by omega, by omega⟩ | omega | exact ⟨by omega, by omega, by omega, by omega⟩ | exact Nat.le_of_ble_eq_true rfl) rfl ?_))
      refine awp_cond rfl (fun hb => ?_) (fun _ => ?_)
      · repeat (first
          | refine awp_skip ?_)
        exact ⟨rfl, _, fits_of rfl ⟨Sub.refl _, Sub.refl _, Sub.refl _, Sub.refl _, Sub.refl _, trivial⟩⟩
      repeat (first
        | refine awp_seq ?_
        | refine thenA_normal ?_
        | refine a_region ?_
        | refine r_done ?_
        | (refine r_id ?_; first
          | refine r_ev tab_ok rfl rfl rfl rfl (by first | exact trivial | exact ⟨by omega, by omega⟩ | omega | exact ⟨by omega, by omega, by omega, by omega⟩ | exact Nat.le_of_ble_eq_true rfl) rfl ?_))
      refine awp_cond rfl (fun hb => ?_) (fun _ => ?_)
      · repeat (first
          | refine awp_skip ?_)
        exact ⟨rfl, _, fits_of rfl ⟨Sub.refl _, Sub.refl _, Sub.refl _, Sub.refl _, Sub.refl _, trivial⟩⟩
      repeat (first
        | refine awp_seq ?_
        | refine thenA_normal ?_
        | refine a_region ?_
        | refine r_done ?_
        | (refine r_id ?_; first
          | refine r_ev tab_ok rfl rfl rfl rfl (by first | exact trivial | exact ⟨by omega, by omega⟩ | omega | exact ⟨by omega, by omega, by omega, by omega⟩ | exact Nat.le_of_ble_eq_true rfl) rfl ?_))
      refine awp_cond rfl (fun hb => ?_) (fun _ => ?_)
      · repeat (first
          | refine awp_skip ?_)
        exact ⟨rfl, _, fits_of rfl ⟨Sub.refl _, Sub.refl _, Sub.refl _, Sub.refl _, Sub.refl _, trivial⟩⟩
      repeat (first
        | refine awp_seq ?_
        | refine thenA_normal ?_
        | refine a_region ?_
        | refine r_done ?_
        | (refine r_id ?_; first
          | refine r_ev tab_ok rfl rfl rfl rfl (by first | exact trivial | exact ⟨by omega, by omega⟩ | omega | exact ⟨by omega, by omega, by omega, by omega⟩ | exact Nat.le_of_ble_eq_true rfl) rfl ?_))
      refine awp_cond rfl (fun hb => ?_) (fun _ => ?_)
      · repeat (first
          | refine awp_skip ?_)
        exact ⟨rfl, _, fits_of rfl ⟨Sub.refl _, Sub.refl _, Sub.refl _, Sub.refl _, Sub.refl _, trivial⟩⟩
      repeat (first
        | refine a_region ?_
        | refine r_done ?_
        | (refine r_id ?_; first
          | refine r_ev tab_ok rfl rfl rfl rfl (by first | exact trivial | exact ⟨by omega, by omega⟩ | omega | exact ⟨by omega, by omega, by omega, by omega⟩ | exact Nat.le_of_ble_eq_true rfl) rfl ?_))
      exact ⟨rfl, _, fits_of rfl ⟨Sub.refl _, Sub.refl _, Sub.refl _, Sub.refl _, Sub.refl _, trivial⟩⟩
    · rintro e s' ⟨rfl, b, hf⟩
      refine thenA_normal (awp_fits hf ?_)
      cases b
      · repeat (first
          | refine blockA_normal ?_
          | refine awp_skip ?_
          | refine awp_cond_f rfl ?_)
        exact .inl ⟨rfl, fits_of rfl ⟨Sub.refl _, Sub.refl _, Sub.refl _, Sub.refl _, trivial⟩⟩
      · repeat (first
          | refine awp_seq ?_
          | refine awp_block ?_
          | refine a_region ?_
          | (refine r_id ?_; first
            | refine r_ev tab_ok rfl rfl rfl rfl (by first | exact trivial | exact ⟨by omega, by omega⟩ | omega | exact ⟨by omega, by omega, by omega, by omega⟩ | exact Nat.le_of_ble_eq_true rfl) rfl ?_
            | refine r_ev_cnd tab_ok rfl rfl rfl rfl rfl rfl (by first | exact fun _ => rfl | exact cs1 | exact cs2 | exact cs3) (by first | exact fun _ => trivial | (intro h; simp at h; first | exact ⟨by omega, by omega⟩ | omega)) rfl ?_)
          | refine awp_cond_t rfl ?_)
        refine r_call_cnd (fun _ => prefix_ok _ s (by omega) (Nat.le_of_ble_eq_true (by kernel_rfl))) call29 rfl rfl rfl rfl (by first | exact fun _ => rfl | exact cs1 | exact cs2 | exact cs3) ⟨Sub.refl _, Sub.refl _, trivial⟩ rfl rfl rfl rfl ?_
        repeat (first
          | refine thenA_normal ?_
          | refine r_done ?_
          | (refine r_id ?_; first
            | refine r_ev tab_ok rfl rfl rfl rfl (by first | exact trivial | exact ⟨by omega, by omega⟩ | omega | exact ⟨by omega, by omega, by omega, by omega⟩ | exact Nat.le_of_ble_eq_true rfl) rfl ?_
            | refine r_and rfl rfl rfl rfl rfl rfl rfl rfl ?_))
        refine awp_cond rfl (fun hb => ?_) (fun _ => ?_)
        · simp only [Bool.and_eq_true, decide_eq_true_eq] at hb
          have hn1 : n ≤ 128 := by omega
          repeat (first
            | refine awp_seq ?_
            | refine a_region ?_
            | (refine r_id ?_; first
              | refine r_ev tab_ok rfl rfl rfl rfl (by first | exact trivial | exact ⟨by omega, by omega⟩ | omega | exact ⟨by omega, by omega, by omega, by omega⟩ | exact Nat.le_of_ble_eq_true rfl) rfl ?_))
          refine r_scut tab_ok rfl rfl rfl rfl rfl rfl rfl rfl ⟨Int.le_refl 0, Int.natCast_nonneg n, by show (n : Int) ≤ ((128 : Nat) : Int); omega⟩ rfl ?_
          repeat (first
            | refine thenA_normal ?_
            | refine awp_ret ?_
            | refine blockA_ret ?_
            | refine r_done ?_
            | (refine r_id ?_; first
              | refine r_ev tab_ok rfl rfl rfl rfl (by first | exact trivial | exact ⟨by omega, by omega⟩ | omega | exact ⟨by omega, by omega, by omega, by omega⟩ | exact Nat.le_of_ble_eq_true rfl) rfl ?_))
          exact .inr ⟨rfl, ret1 (.inr rfl) rfl rfl rfl (Sub.of_eq (congrArg (fun x => AV.val (.string x)) (fast_pre _ 32 128 rfl s c n hn hn1 (by omega) hb.2.2)))⟩
        repeat (first
          | refine awp_seq ?_
          | refine a_region ?_
          | (refine r_id ?_; first
            | refine r_ev tab_ok rfl rfl rfl rfl (by first | exact trivial | exact ⟨by omega, by omega⟩ | omega | exact ⟨by omega, by omega, by omega, by omega⟩ | exact Nat.le_of_ble_eq_true rfl) rfl ?_
            | refine r_ev_cnd tab_ok rfl rfl rfl rfl rfl rfl (by first | exact fun _ => rfl | exact cs1 | exact cs2 | exact cs3) (by first | exact fun _ => trivial | (intro h; simp at h; first | exact ⟨by omega, by omega⟩ | omega)) rfl ?_))
        refine r_call_cnd (fun _ => prefix_ok _ s (by omega) (Nat.le_of_ble_eq_true (by kernel_rfl))) call29 rfl rfl rfl rfl (by first | exact fun _ => rfl | exact cs1 | exact cs2 | exact cs3) ⟨Sub.refl _, Sub.refl _, trivial⟩ rfl rfl rfl rfl ?_
        repeat (first
          | refine thenA_normal ?_
          | refine r_done ?_
          | (refine r_id ?_; first
            | refine r_ev tab_ok rfl rfl rfl rfl (by first | exact trivial | exact ⟨by omega, by omega⟩ | omega | exact ⟨by omega, by omega, by omega, by omega⟩ | exact Nat.le_of_ble_eq_true rfl) rfl ?_
            | refine r_and rfl rfl rfl rfl rfl rfl rfl rfl ?_))
        refine awp_cond rfl (fun hb => ?_) (fun _ => ?_)
        · simp only [Bool.and_eq_true, decide_eq_true_eq] at hb
          have hn1 : n ≤ 128 := by omega
          repeat (first
            | refine awp_seq ?_
            | refine a_region ?_
            | (refine r_id ?_; first
              | refine r_ev tab_ok rfl rfl rfl rfl (by first | exact trivial | exact ⟨by omega, by omega⟩ | omega | exact ⟨by omega, by omega, by omega, by omega⟩ | exact Nat.le_of_ble_eq_true rfl) rfl ?_))
          refine r_scut tab_ok rfl rfl rfl rfl rfl rfl rfl rfl ⟨Int.le_refl 0, Int.natCast_nonneg n, by show (n : Int) ≤ ((128 : Nat) : Int); omega⟩ rfl ?_
          repeat (first
            | refine thenA_normal ?_
            | refine awp_ret ?_
            | refine blockA_ret ?_
            | refine r_done ?_
            | (refine r_id ?_; first
              | refine r_ev tab_ok rfl rfl rfl rfl (by first | exact trivial | exact ⟨by omega, by omega⟩ | omega | exact ⟨by omega, by omega, by omega, by omega⟩ | exact Nat.le_of_ble_eq_true rfl) rfl ?_))
          exact .inr ⟨rfl, ret1 (.inr rfl) rfl rfl rfl (Sub.of_eq (congrArg (fun x => AV.val (.string x)) (fast_pre _ 45 128 rfl s c n hn hn1 (by omega) hb.2.2)))⟩
        repeat (first
          | refine awp_seq ?_
          | refine a_region ?_
          | (refine r_id ?_; first
            | refine r_ev tab_ok rfl rfl rfl rfl (by first | exact trivial | exact ⟨by omega, by omega⟩ | omega | exact ⟨by omega, by omega, by omega, by omega⟩ | exact Nat.le_of_ble_eq_true rfl) rfl ?_
            | refine r_ev_cnd tab_ok rfl rfl rfl rfl rfl rfl (by first | exact fun _ => rfl | exact cs1 | exact cs2 | exact cs3) (by first | exact fun _ => trivial | (intro h; simp at h; first | exact ⟨by omega, by omega⟩ | omega)) rfl ?_))
        refine r_call_cnd (fun _ => prefix_ok _ s (by omega) (Nat.le_of_ble_eq_true (by kernel_rfl))) call29 rfl rfl rfl rfl (by first | exact fun _ => rfl | exact cs1 | exact cs2 | exact cs3) ⟨Sub.refl _, Sub.refl _, trivial⟩ rfl rfl rfl rfl ?_
        repeat (first
          | refine thenA_normal ?_
          | refine r_done ?_
          | (refine r_id ?_; first
            | refine r_ev tab_ok rfl rfl rfl rfl (by first | exact trivial | exact ⟨by omega, by omega⟩ | omega | exact ⟨by omega, by omega, by omega, by omega⟩ | exact Nat.le_of_ble_eq_true rfl) rfl ?_
            | refine r_and rfl rfl rfl rfl rfl rfl rfl rfl ?_))
        refine awp_cond rfl (fun hb => ?_) (fun _ => ?_)
        · simp only [Bool.and_eq_true, decide_eq_true_eq] at hb
          have hn1 : n ≤ 64 := by omega
          repeat (first
            | refine awp_seq ?_
            | refine a_region ?_
            | (refine r_id ?_; first
              | refine r_ev tab_ok rfl rfl rfl rfl (by first | exact trivial | exact ⟨by omega, by omega⟩ | omega | exact ⟨by omega, by omega, by omega, by omega⟩ | exact Nat.le_of_ble_eq_true rfl) rfl ?_))
          refine r_scut tab_ok rfl rfl rfl rfl rfl rfl rfl rfl ⟨Int.le_refl 0, Int.natCast_nonneg n, by show (n : Int) ≤ ((64 : Nat) : Int); omega⟩ rfl ?_
          repeat (first
            | refine thenA_normal ?_
            | refine awp_ret ?_
            | refine blockA_ret ?_
            | refine r_done ?_
            | (refine r_id ?_; first
              | refine r_ev tab_ok rfl rfl rfl rfl (by first | exact trivial | exact ⟨by omega, by omega⟩ | omega | exact ⟨by omega, by omega, by omega, by omega⟩ | exact Nat.le_of_ble_eq_true rfl) rfl ?_))
          exact .inr ⟨rfl, ret1 (.inr rfl) rfl rfl rfl (Sub.of_eq (congrArg (fun x => AV.val (.string x)) (fast_pre _ 48 64 rfl s c n hn hn1 (by omega) hb.2.2)))⟩
        repeat (first
          | refine awp_seq ?_
          | refine a_region ?_
          | (refine r_id ?_; first
            | refine r_ev tab_ok rfl rfl rfl rfl (by first | exact trivial | exact ⟨by omega, by omega⟩ | omega | exact ⟨by omega, by omega, by omega, by omega⟩ | exact Nat.le_of_ble_eq_true rfl) rfl ?_
            | refine r_ev_cnd tab_ok rfl rfl rfl rfl rfl rfl (by first | exact fun _ => rfl | exact cs1 | exact cs2 | exact cs3) (by first | exact fun _ => trivial | (intro h; simp at h; first | exact ⟨by omega, by omega⟩ | omega)) rfl ?_))
        refine r_call_cnd (fun _ => prefix_ok _ s (by omega) (Nat.le_of_ble_eq_true (by kernel_rfl))) call29 rfl rfl rfl rfl (by first | exact fun _ => rfl | exact cs1 | exact cs2 | exact cs3) ⟨Sub.refl _, Sub.refl _, trivial⟩ rfl rfl rfl rfl ?_
        repeat (first
          | refine thenA_normal ?_
          | refine r_done ?_
          | (refine r_id ?_; first
            | refine r_ev tab_ok rfl rfl rfl rfl (by first | exact trivial | exact ⟨by omega, by omega⟩ | omega | exact ⟨by omega, by omega, by omega, by omega⟩ | exact Nat.le_of_ble_eq_true rfl) rfl ?_
            | refine r_and rfl rfl rfl rfl rfl rfl rfl rfl ?_))
        refine awp_cond rfl (fun hb => ?_) (fun _ => ?_)
        · simp only [Bool.and_eq_true, decide_eq_true_eq] at hb
          have hn1 : n ≤ 128 := by omega
          repeat (first
            | refine awp_seq ?_
            | refine a_region ?_
            | (refine r_id ?_; first
              | refine r_ev tab_ok rfl rfl rfl rfl (by first | exact trivial | exact ⟨by omega, by omega⟩ | omega | exact ⟨by omega, by omega, by omega, by omega⟩ | exact Nat.le_of_ble_eq_true rfl) rfl ?_))
          refine r_scut tab_ok rfl rfl rfl rfl rfl rfl rfl rfl ⟨Int.le_refl 0, Int.natCast_nonneg n, by show (n : Int) ≤ ((128 : Nat) : Int); omega⟩ rfl ?_
          repeat (first
            | refine thenA_normal ?_
            | refine awp_ret ?_
            | refine blockA_ret ?_
            | refine r_done ?_
            | (refine r_id ?_; first
              | refine r_ev tab_ok rfl rfl rfl rfl (by first | exact trivial | exact ⟨by omega, by omega⟩ | omega | exact ⟨by omega, by omega, by omega, by omega⟩ | exact Nat.le_of_ble_eq_true rfl) rfl ?_))
          exact .inr ⟨rfl, ret1 (.inr rfl) rfl rfl rfl (Sub.of_eq (congrArg (fun x => AV.val (.string x)) (fast_pre _ 61 128 rfl s c n hn hn1 (by omega) hb.2.2)))⟩
        repeat (first
          | refine awp_seq ?_
          | refine a_region ?_
          | (refine r_id ?_; first
            | refine r_ev tab_ok rfl rfl rfl rfl (by first | exact trivial | exact ⟨by omega, by omega⟩ | omega | exact ⟨by omega, by omega, by omega, by omega⟩ | exact Nat.le_of_ble_eq_true rfl) rfl ?_
            | refine r_ev_cnd tab_ok rfl rfl rfl rfl rfl rfl (by first | exact fun _ => rfl | exact cs1 | exact cs2 | exact cs3) (by first | exact fun _ => trivial | (intro h; simp at h; first | exact ⟨by omega, by omega⟩ | omega)) rfl ?_))
        refine r_call_cnd (fun _ => prefix_ok _ s (by omega) (Nat.le_of_ble_eq_true (by kernel_rfl))) call29 rfl rfl rfl rfl (by first | exact fun _ => rfl | exact cs1 | exact cs2 | exact cs3) ⟨Sub.refl _, Sub.refl _, trivial⟩ rfl rfl rfl rfl ?_
        repeat (first
          | refine thenA_normal ?_
          | refine r_done ?_
          | (refine r_id ?_; first
            | refine r_ev tab_ok rfl rfl rfl rfl (by first | exact trivial | exact ⟨by omega, by omega⟩ | omega | exact ⟨by omega, by omega, by omega, by omega⟩ | exact Nat.le_of_ble_eq_true rfl) rfl ?_
            | refine r_and rfl rfl rfl rfl rfl rfl rfl rfl ?_))
        refine awp_cond rfl (fun hb => ?_) (fun _ => ?_)
        · simp only [Bool.and_eq_true, decide_eq_true_eq] at hb
          have hn1 : n ≤ 64 := by omega
          repeat (first
            | refine awp_seq ?_
            | refine a_region ?_
            | (refine r_id ?_; first
              | refine r_ev tab_ok rfl rfl rfl rfl (by first | exact trivial | exact ⟨by omega, by omega⟩ | omega | exact ⟨by omega, by omega, by omega, by omega⟩ | exact Nat.le_of_ble_eq_true rfl) rfl ?_))
          refine r_scut tab_ok rfl rfl rfl rfl rfl rfl rfl rfl ⟨Int.le_refl 0, Int.natCast_nonneg n, by show (n : Int) ≤ ((64 : Nat) : Int); omega⟩ rfl ?_
          repeat (first
            | refine thenA_normal ?_
            | refine awp_ret ?_
            | refine blockA_ret ?_
            | refine r_done ?_
            | (refine r_id ?_; first
              | refine r_ev tab_ok rfl rfl rfl rfl (by first | exact trivial | exact ⟨by omega, by omega⟩ | omega | exact ⟨by omega, by omega, by omega, by omega⟩ | exact Nat.le_of_ble_eq_true rfl) rfl ?_))
          exact .inr ⟨rfl, ret1 (.inr rfl) rfl rfl rfl (Sub.of_eq (congrArg (fun x => AV.val (.string x)) (fast_pre _ 9 64 rfl s c n hn hn1 (by omega) hb.2.2)))⟩
        repeat (first
          | refine blockA_normal ?_
          | refine awp_skip ?_)
        exact .inl ⟨rfl, fits_of rfl ⟨Sub.refl _, Sub.refl _, Sub.refl _, Sub.refl _, trivial⟩⟩
  · rintro e s' (⟨rfl, hf⟩ | ⟨rfl, hr⟩)
    · refine thenA_normal (awp_fits hf ?_)
      repeat (first
        | refine awp_seq ?_
        | refine thenA_normal ?_
        | refine a_region ?_
        | refine r_done ?_
        | (refine r_id ?_; first
          | refine r_ev tab_ok rfl rfl rfl rfl (by first | exact trivial | exact ⟨by omega, by omega⟩ | omega | exact ⟨by omega, by omega, by omega, by omega⟩ | exact Nat.le_of_ble_eq_true rfl) rfl ?_))
      refine awp_cond_p rfl (fun h => absurd h (by omega)) (fun _ => ?_)
      repeat (first
        | refine awp_seq ?_
        | refine a_region ?_
        | refine awp_skip ?_
        | refine r_done ?_
        | (refine r_id ?_; first
          | refine r_ev tab_ok rfl rfl rfl rfl (by first | exact trivial | exact ⟨by omega, by omega⟩ | omega | exact ⟨by omega, by omega, by omega, by omega⟩ | exact Nat.le_of_ble_eq_true rfl) rfl ?_
          | refine r_wr tab_ok rfl rfl rfl rfl rfl ?_))
      refine r_mcallx [0] 1 (growm_ok n (by omega) (by omega)) call30 rfl rfl ⟨rfl, trivial⟩ (by decide) (by decide) ⟨Sub.refl _, Sub.refl _, trivial⟩ rfl rfl rfl rfl rfl rfl rfl ?_
      repeat (first
        | refine awp_seq ?_
        | refine r_done ?_)
      refine awp_fits (fits_conv (M' := [.box 57 [selfP, .row 1 1], .row 1 5 1 (([] : List UInt8).map bD)]) (F' := [(0, .val (.string s)), (7, .val (.int .i64 n)), (8, .val (.int .i64 n)), (9, .ptr 0 0)]) (by repeat' first | exact trivial | exact rfl | (rw [List.map_append]; first | done | rfl) | exact c_sub rfl (Sub.refl _) rfl | exact c_nil rfl rfl | exact c_thaw rfl rfl rfl | exact c_row rfl rfl rfl | exact c_row rfl rfl (by rw [List.map_append]; first | done | rfl) | exact c_ptr rfl rfl rfl rfl | exact Or.inl ⟨c_sub rfl (Sub.refl _) rfl, c_ptr rfl rfl rfl rfl⟩ | exact c_alt rfl rfl rfl rfl | exact c_ro rfl rfl | exact c_eo rfl rfl | exact c_sub rfl (Sub.altl _ _) rfl | refine ⟨_, _, rfl, ?_, ?_⟩ | apply And.intro) (by repeat' first | exact trivial | exact rfl | (rw [List.map_append]; first | done | rfl) | exact c_sub rfl (Sub.refl _) rfl | exact c_nil rfl rfl | exact c_thaw rfl rfl rfl | exact c_row rfl rfl rfl | exact c_row rfl rfl (by rw [List.map_append]; first | done | rfl) | exact c_ptr rfl rfl rfl rfl | exact Or.inl ⟨c_sub rfl (Sub.refl _) rfl, c_ptr rfl rfl rfl rfl⟩ | exact c_alt rfl rfl rfl rfl | exact c_ro rfl rfl | exact c_eo rfl rfl | exact c_sub rfl (Sub.altl _ _) rfl | refine ⟨_, _, rfl, ?_, ?_⟩ | apply And.intro)) ?_
      repeat (first
        | refine a_region ?_
        | (refine r_id ?_; first
          | refine r_ev tab_ok rfl rfl rfl rfl (by first | exact trivial | exact ⟨by omega, by omega⟩ | omega | exact ⟨by omega, by omega, by omega, by omega⟩ | exact Nat.le_of_ble_eq_true rfl) rfl ?_))
      refine r_mcall [0, 1] (write_ok 1 [] s (by simp; omega)) call31 rfl rfl ⟨rfl, rfl, trivial⟩ (by decide) ⟨Sub.refl _, Sub.refl _, trivial⟩ rfl rfl rfl rfl rfl rfl rfl ?_
      repeat (first
        | refine awp_seq ?_
        | refine awp_block ?_
        | refine r_done ?_)
      refine a_loop (σ := {q : Nat // 1 ≤ q ∧ q ≤ c}) (fun q => [.box 57 [selfP, .row 1 1], .row 1 5 1 ((Lib.repeatL s.data.toList q.1).map bD)]) (fun q => [(7, .val (.int .i64 n)), (8, .val (.int .i64 n)), (9, .ptr 0 0)]) (fun q => c - q.1) ⟨1, Nat.le_refl _, by omega⟩ (fits_conv (by repeat' first | exact trivial | exact rfl | (rw [Lib.repeatL_one]; first | done | rfl) | exact c_sub rfl (Sub.refl _) rfl | exact c_nil rfl rfl | exact c_thaw rfl rfl rfl | exact c_row rfl rfl rfl | exact c_row rfl rfl (by rw [Lib.repeatL_one]; first | done | rfl) | exact c_ptr rfl rfl rfl rfl | exact Or.inl ⟨c_sub rfl (Sub.refl _) rfl, c_ptr rfl rfl rfl rfl⟩ | exact c_alt rfl rfl rfl rfl | exact c_sub rfl (Sub.altl _ _) rfl | refine ⟨_, _, rfl, ?_, ?_⟩ | apply And.intro) (by repeat' first | exact trivial | exact rfl | (rw [Lib.repeatL_one]; first | done | rfl) | exact c_sub rfl (Sub.refl _) rfl | exact c_nil rfl rfl | exact c_thaw rfl rfl rfl | exact c_row rfl rfl rfl | exact c_row rfl rfl (by rw [Lib.repeatL_one]; first | done | rfl) | exact c_ptr rfl rfl rfl rfl | exact Or.inl ⟨c_sub rfl (Sub.refl _) rfl, c_ptr rfl rfl rfl rfl⟩ | exact c_alt rfl rfl rfl rfl | exact c_sub rfl (Sub.altl _ _) rfl | refine ⟨_, _, rfl, ?_, ?_⟩ | apply And.intro)) ?_
      rintro ⟨q, hq1, hqc⟩
      dsimp only
      obtain ⟨Q, hQ⟩ : ∃ Q, q * s.size = Q := ⟨_, rfl⟩
      have hlq : (Lib.repeatL s.data.toList q).length = Q := by rw [Lib.repeatL_length, ← Lib.size_eq, hQ]
      have hnc : c * s.size = n := by rw [Nat.mul_comm]; exact hn
      have hQn : Q ≤ n := by rw [← hQ, ← hnc]; exact Nat.mul_le_mul_right _ hqc
      have hQ1 : 1 ≤ Q := by rw [← hQ]; exact Nat.mul_pos hq1 h0
      have hne : Lib.repeatL s.data.toList q ≠ [] := fun h => by rw [h] at hlq; simp at hlq; omega
      repeat (first
        | refine awp_seq ?_
        | refine a_region ?_)
      refine r_mcall [0, 1] (len_ok 1 (Lib.repeatL s.data.toList q) (by omega)) call32 rfl rfl ⟨rfl, rfl, trivial⟩ (by decide) ⟨Sub.refl _, trivial⟩ rfl rfl rfl rfl rfl rfl rfl ?_
      repeat (first
        | refine thenA_normal ?_
        | refine r_done ?_
        | (refine r_id ?_; first
          | refine r_ev tab_ok rfl rfl rfl rfl (by first | exact trivial | exact ⟨by omega, by omega⟩ | omega | exact ⟨by omega, by omega, by omega, by omega⟩ | exact Nat.le_of_ble_eq_true rfl) rfl ?_))
      refine awp_cond_p rfl (fun hlt => ?_) (fun hge => ?_)
      · have hqc' : q < c := by
          rcases Nat.lt_or_eq_of_le hqc with h | h
          · exact h
          · subst h; omega
        obtain ⟨k, hk1, hkq, hkc, hmin⟩ := Lib.chunk_ok c q c s.size hq1 hqc' (by omega)
        rw [hnc, hQ] at hmin
        obtain ⟨CH, hCH⟩ : ∃ CH, k * s.size = CH := ⟨_, rfl⟩
        rw [hCH] at hmin
        have hCHQ : CH ≤ Q := by rw [← hCH, ← hQ]; exact Nat.mul_le_mul_right _ hkq
        have hch : min (min ((n : Int) - (Lib.repeatL s.data.toList q).length) (Lib.repeatL s.data.toList q).length) n = CH := by rw [hlq]; omega
        repeat (first
          | refine awp_seq ?_
          | refine thenA_normal ?_
          | refine awp_block ?_
          | refine a_region ?_
          | refine awp_skip ?_
          | (refine r_id ?_; first
            | refine r_ev tab_ok rfl rfl rfl rfl (by first | exact trivial | exact ⟨by omega, by omega⟩ | omega | exact ⟨by omega, by omega, by omega, by omega⟩ | exact Nat.le_of_ble_eq_true rfl) rfl ?_))
        refine r_mcall [0, 1] (len_ok 1 (Lib.repeatL s.data.toList q) (by omega)) call32 rfl rfl ⟨rfl, rfl, trivial⟩ (by decide) ⟨Sub.refl _, trivial⟩ rfl rfl rfl rfl rfl rfl rfl ?_
        repeat (first
          | (refine r_id ?_; first
            | refine r_ev tab_ok rfl rfl rfl rfl (by first | exact trivial | exact ⟨by omega, by omega⟩ | omega | exact ⟨by omega, by omega, by omega, by omega⟩ | exact Nat.le_of_ble_eq_true rfl) rfl ?_))
        refine r_mcall [0, 1] (len_ok 1 (Lib.repeatL s.data.toList q) (by omega)) call32 rfl rfl ⟨rfl, rfl, trivial⟩ (by decide) ⟨Sub.refl _, trivial⟩ rfl rfl rfl rfl rfl rfl rfl ?_
        repeat (first
          | refine thenA_normal ?_
          | refine a_region ?_
          | refine r_done ?_
          | (refine r_id ?_; first
            | refine r_ev tab_ok rfl rfl rfl rfl (by first | exact trivial | exact ⟨by omega, by omega⟩ | omega | exact ⟨by omega, by omega, by omega, by omega⟩ | exact Nat.le_of_ble_eq_true rfl) rfl ?_
            | refine r_by (fun _ => astep_min3 rfl rfl rfl rfl) rfl rfl rfl rfl rfl ?_))
        rw [hch]
        refine r_mcall [0, 1] (stringk_ok 1 rfl (Lib.repeatL s.data.toList q) (by omega) hne) call33 rfl rfl ⟨rfl, rfl, trivial⟩ (by decide) ⟨Sub.refl _, trivial⟩ rfl rfl rfl rfl rfl rfl rfl ?_
        have hsz : (⟨(Lib.repeatL s.data.toList q).toArray⟩ : ByteArray).size = Q := by rw [Lib.size_eq, List.toList_toArray, hlq]
        repeat (first
          | (refine r_id ?_; first
            | refine r_ev tab_ok rfl rfl rfl rfl (by first | exact trivial | exact ⟨by omega, by omega⟩ | omega | exact ⟨by omega, by omega, by omega, by omega⟩ | exact Nat.le_of_ble_eq_true rfl) rfl ?_
            | refine r_scut tab_ok rfl rfl rfl rfl rfl rfl rfl rfl (by first | (simp; done) | exact ⟨by simp, by simp; omega, by simp; omega⟩ | (simp; omega)) rfl ?_))
        have hwd : ((⟨(Lib.repeatL s.data.toList q).toArray⟩ : ByteArray).extract 0 CH).data.toList = (Lib.repeatL s.data.toList q).take CH := by
          rw [Lib.extract_data]
          simp
        have hwz : ((⟨(Lib.repeatL s.data.toList q).toArray⟩ : ByteArray).extract 0 CH).size ≤ Q := by
          rw [Lib.size_eq, hwd, List.length_take, hlq]
          exact Nat.min_le_right _ _
        have he : Lib.repeatL s.data.toList q ++ ((⟨(Lib.repeatL s.data.toList q).toArray⟩ : ByteArray).extract 0 CH).data.toList = Lib.repeatL s.data.toList (q + k) := by
          rw [hwd, ← hCH, Lib.size_eq, Lib.step_ok _ _ _ hkq]
        refine r_mcall [0, 1] (write_ok 1 (Lib.repeatL s.data.toList q) ((⟨(Lib.repeatL s.data.toList q).toArray⟩ : ByteArray).extract 0 CH) (by omega)) call31 rfl rfl ⟨rfl, rfl, trivial⟩ (by decide) ⟨Sub.refl _, Sub.refl _, trivial⟩ rfl rfl rfl rfl rfl rfl rfl ?_
        repeat (first
          | refine thenA_normal ?_
          | refine blockA_normal ?_
          | refine r_done ?_)
        exact ⟨⟨q + k, by omega, hkc⟩, by dsimp only; omega, fits_conv (by repeat' first | exact trivial | exact rfl | (rw [he]; first | done | rfl) | exact c_sub rfl (Sub.refl _) rfl | exact c_nil rfl rfl | exact c_thaw rfl rfl rfl | exact c_row rfl rfl rfl | exact c_row rfl rfl (by rw [he]; first | done | rfl) | exact c_ptr rfl rfl rfl rfl | exact Or.inl ⟨c_sub rfl (Sub.refl _) rfl, c_ptr rfl rfl rfl rfl⟩ | exact c_alt rfl rfl rfl rfl | exact c_sub rfl (Sub.altl _ _) rfl | refine ⟨_, _, rfl, ?_, ?_⟩ | apply And.intro) (by repeat' first | exact trivial | exact rfl | (rw [he]; first | done | rfl) | exact c_sub rfl (Sub.refl _) rfl | exact c_nil rfl rfl | exact c_thaw rfl rfl rfl | exact c_row rfl rfl rfl | exact c_row rfl rfl (by rw [he]; first | done | rfl) | exact c_ptr rfl rfl rfl rfl | exact Or.inl ⟨c_sub rfl (Sub.refl _) rfl, c_ptr rfl rfl rfl rfl⟩ | exact c_alt rfl rfl rfl rfl | exact c_sub rfl (Sub.altl _ _) rfl | refine ⟨_, _, rfl, ?_, ?_⟩ | apply And.intro)⟩
      · have hqe : q = c := by
          rcases Nat.lt_or_eq_of_le hqc with h | h
          · exfalso
            have h1 : (q + 1) * s.size ≤ c * s.size := Nat.mul_le_mul_right _ h
            rw [Nat.succ_mul, hQ, hnc] at h1
            omega
          · exact h
        subst hqe
        repeat (first
          | refine awp_seq ?_
          | refine a_region ?_
          | refine awp_exit ?_)
        refine r_mcall [0, 1] (stringk_ok 1 rfl (Lib.repeatL s.data.toList q) (by omega) hne) call33 rfl rfl ⟨rfl, rfl, trivial⟩ (by decide) ⟨Sub.refl _, trivial⟩ rfl rfl rfl rfl rfl rfl rfl ?_
        repeat (first
          | refine thenA_normal ?_
          | refine awp_ret ?_
          | refine r_done ?_
          | (refine r_id ?_; first
            | refine r_ev tab_ok rfl rfl rfl rfl (by first | exact trivial | exact ⟨by omega, by omega⟩ | omega | exact ⟨by omega, by omega, by omega, by omega⟩ | exact Nat.le_of_ble_eq_true rfl) rfl ?_)
          | refine ret1 (by first | exact .inl rfl | exact .inr rfl) rfl rfl rfl ?_)
        exact Sub.refl _
    · exact thenA_ret hr
end Go.Proofs.Ytgkcliecgmhmfaa
