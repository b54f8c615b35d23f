/- The reference's Decimal of any number. -/
import Derived.Test.YtiolnmfaeenlmaaGreatDoorPf
import Derived.Test.YtiolnmfaeenlmaaGreatDoorRo
namespace Go.Proofs.YtiolnmfaeenlmaaGreatDoor
open Go Go.RowKit
set_option maxRecDepth 20000

structure DeT (n : Nat) where
  f : Nat
  u : Nat
  d : ByteArray
  hu : u < 10 ^ (f - 1)
  hn : u < 18446744073709551616
  h1 : 1 ≤ f
  he : f = 1 → d ≠ ⟨#[]⟩
  hd : d.size + f ≤ 21
  eq : dgtR f u d = decN n
def decI (n : Int) : ByteArray := if n < 0 then (⟨#[45]⟩ : ByteArray) ++ decN n.natAbs else decN n.natAbs
theorem wrap_u (n : Int) (h : n < 0 ∧ -9223372036854775808 ≤ n) : IntKind.wrap .u64 n = n + 18446744073709551616 := by
  simp [IntKind.wrap, IntKind.bits, IntKind.signed]; omega
theorem wrap_u2 (n : Int) (h : n < 0 ∧ -9223372036854775808 ≤ n) : IntKind.wrap .u64 (0 - (n + 18446744073709551616)) = -n := by
  simp [IntKind.wrap, IntKind.bits, IntKind.signed]; omega
set_option maxHeartbeats 2000000 in
theorem decNeg_ok (m : Nat) (hm : 1 ≤ m ∧ m ≤ 9223372036854775808) : PCalls Tryz.prog 23 [.val (.int .i64 (-(m : Int)))] (.val (.string ((⟨#[45]⟩ : ByteArray) ++ decN m))) := by
  refine p_start Tryz.func23 Tryz.ntmps23 rfl rfl rfl fun S w => ?_
  have h0 : -(m : Int) < 0 := by omega
  have hw1 := wrap_u (-(m : Int)) (by omega)
  have hw2 := wrap_u2 (-(m : Int)) (by omega)
  rw [Int.neg_neg] at hw2
  repeat (first
    | refine awp_seq ?_
    | refine a_region ?_
    | refine r_done ?_
    | (refine r_id ?_; first
      | refine r_ev tab_ok rfl rfl rfl rfl (by first | exact trivial | exact ⟨by omega, by omega⟩ | omega | exact ⟨by omega, by omega, by omega, by omega⟩ | exact Nat.le_of_ble_eq_true rfl) rfl ?_))
  refine r_by (fun _ => astep_conv_int tab_ok rfl rfl rfl rfl) rfl rfl rfl rfl rfl ?_
  rw [hw1]
  repeat (first
    | refine awp_seq ?_
    | refine thenA_normal ?_
    | refine a_region ?_
    | refine r_done ?_
    | (refine r_id ?_; first
      | refine r_ev tab_ok rfl rfl rfl rfl (by first | exact trivial | exact ⟨by omega, by omega⟩ | omega | exact ⟨by omega, by omega, by omega, by omega⟩ | exact Nat.le_of_ble_eq_true rfl) rfl ?_))
  refine awp_cond_p rfl (fun _ => ?_) (fun h => absurd h0 h)
  repeat (first
    | refine awp_seq ?_
    | refine a_region ?_
    | (refine r_id ?_; first
      | refine r_ev tab_ok rfl rfl rfl rfl (by first | exact trivial | exact ⟨by omega, by omega⟩ | omega | exact ⟨by omega, by omega, by omega, by omega⟩ | exact Nat.le_of_ble_eq_true rfl) rfl ?_))
  refine r_by (fun _ => astep_neg rfl rfl) rfl rfl rfl rfl rfl ?_
  rw [hw2]
  repeat (first
    | refine awp_seq ?_
    | refine thenA_normal ?_
    | refine awp_block ?_
    | refine a_region ?_
    | refine r_done ?_
    | (refine r_id ?_; first
      | refine r_ev tab_ok rfl rfl rfl rfl (by first | exact trivial | exact ⟨by omega, by omega⟩ | omega | exact ⟨by omega, by omega, by omega, by omega⟩ | exact Nat.le_of_ble_eq_true rfl) rfl ?_))
  refine a_loop (σ := DeT m) (fun _ => []) (fun x => [(3, .val (.int .u64 x.u)), (4, .val (.string ⟨#[45]⟩)), (5, .val (.string x.d))]) (fun x => x.f) ⟨21, m, ⟨#[]⟩, by omega, by omega, by omega, by omega, by decide, rfl⟩ (fits_of rfl ⟨Sub.refl _, Sub.refl _, Sub.refl _, trivial⟩) ?_
  rintro ⟨f, u, d, hu, hn, h1, he, hd, heq⟩
  dsimp only
  rw [← heq]
  obtain ⟨f, rfl⟩ : ∃ k, f = k + 1 := ⟨f - 1, by omega⟩
  rw [Nat.add_sub_cancel] at hu
  by_cases hp : 0 < u
  · have hf : 1 ≤ f := by
      rcases Nat.eq_zero_or_pos f with rfl | h
      · simp at hu; omega
      · exact h
    have hu2 : u / 10 < 10 ^ (f - 1) := by
      obtain ⟨g, rfl⟩ : ∃ k, f = k + 1 := ⟨f - 1, by omega⟩
      rw [Nat.add_sub_cancel]
      rw [Nat.pow_succ] at hu
      omega
    have e : dgtR (f + 1) u d = dgtR f (u / 10) (bytesStr [48 + (u : Int) % 10] ++ d) := by rw [dgtR, if_pos (.inl hp)]
    rw [e]
    repeat (first
      | refine awp_seq ?_
      | refine thenA_normal ?_
      | refine awp_block ?_
      | refine a_region ?_
      | refine awp_skip ?_
      | refine r_done ?_
      | (refine r_id ?_; first
        | refine r_ev tab_ok rfl rfl rfl rfl (by first | exact trivial | exact ⟨by omega, by omega⟩ | omega | exact ⟨by omega, by omega, by omega, by omega⟩ | exact Nat.le_of_ble_eq_true rfl) rfl ?_
        | refine r_bstr tab_ok rfl rfl rfl rfl rfl rfl rfl rfl rfl rfl ?_
        | refine r_built tab_ok rfl rfl rfl rfl rfl rfl rfl rfl rfl ?_)
      | refine awp_cond_t rfl ?_
      | refine r_pick_t rfl rfl (congrArg (fun b => AV.val (.bool b)) (decide_eq_true (by omega))) rfl rfl rfl rfl ?_
      | refine r_off rfl rfl (congrArg (fun b => AV.val (.bool b)) (decide_eq_true (by omega))) rfl rfl rfl ?_)
    refine r_ev tab_ok rfl rfl rfl rfl (by show 1 + d.size ≤ _; omega) rfl ?_
    repeat (first
      | refine thenA_normal ?_
      | refine a_region ?_
      | refine blockA_normal ?_
      | refine r_done ?_
      | (refine r_id ?_; first
        | refine r_ev tab_ok rfl rfl rfl rfl (by first | exact trivial | exact ⟨by omega, by omega⟩ | omega | exact ⟨by omega, by omega, by omega, by omega⟩ | exact Nat.le_of_ble_eq_true rfl) rfl ?_))
    exact ⟨⟨f, u / 10, bytesStr [48 + (u : Int) % 10] ++ d, hu2, by omega, hf, fun _ => bs_one_ne _ _, by rw [bs_one_size]; omega, by rw [← heq, e]⟩, by dsimp only; omega, fits_of rfl ⟨Sub.of_eq (by simp only [Int.natCast_ediv]; rfl), Sub.refl _, Sub.refl _, trivial⟩⟩
  · have hz : u = 0 := by omega
    subst hz
    repeat (first
      | refine awp_seq ?_
      | refine thenA_normal ?_
      | refine a_region ?_
      | refine r_done ?_
      | (refine r_id ?_; first
        | refine r_ev tab_ok rfl rfl rfl rfl (by first | exact trivial | exact ⟨by omega, by omega⟩ | omega | exact ⟨by omega, by omega, by omega, by omega⟩ | exact Nat.le_of_ble_eq_true rfl) rfl ?_
        | refine r_pick_f rfl rfl rfl rfl rfl rfl rfl ?_
        | refine r_ev_on tab_ok rfl rfl rfl rfl rfl rfl (by first | exact trivial | exact ⟨by omega, by omega⟩ | omega) rfl ?_))
    refine awp_cond_p rfl (fun h => ?_) (fun h => ?_)
    · have hf : 1 ≤ f := by
        rcases Nat.eq_zero_or_pos f with rfl | h2
        · exact absurd h (he rfl)
        · exact h2
      have e : dgtR (f + 1) 0 d = dgtR f 0 (bytesStr [48 + ((0 : Nat) : Int) % 10] ++ d) := by rw [dgtR, if_pos (.inr h)]
      rw [e]
      repeat (first
        | refine awp_seq ?_
        | refine thenA_normal ?_
        | refine awp_block ?_
        | refine a_region ?_
        | refine awp_skip ?_
        | (refine r_id ?_; first
          | refine r_ev tab_ok rfl rfl rfl rfl (by first | exact trivial | exact ⟨by omega, by omega⟩ | omega | exact ⟨by omega, by omega, by omega, by omega⟩ | exact Nat.le_of_ble_eq_true rfl) rfl ?_
          | refine r_bstr tab_ok rfl rfl rfl rfl rfl rfl rfl rfl rfl rfl ?_
          | refine r_built tab_ok rfl rfl rfl rfl rfl rfl rfl rfl rfl ?_))
      refine r_ev tab_ok rfl rfl rfl rfl (by show 1 + d.size ≤ _; omega) rfl ?_
      repeat (first
        | refine thenA_normal ?_
        | refine a_region ?_
        | refine blockA_normal ?_
        | refine r_done ?_
        | (refine r_id ?_; first
          | refine r_ev tab_ok rfl rfl rfl rfl (by first | exact trivial | exact ⟨by omega, by omega⟩ | omega | exact ⟨by omega, by omega, by omega, by omega⟩ | exact Nat.le_of_ble_eq_true rfl) rfl ?_))
      exact ⟨⟨f, 0, bytesStr [48 + ((0 : Nat) : Int) % 10] ++ d, Nat.pow_pos (by decide), by omega, hf, fun _ => bs_one_ne _ _, by rw [bs_one_size]; omega, by rw [← heq, e]⟩, by dsimp only; omega, fits_of rfl ⟨Sub.refl _, Sub.refl _, Sub.refl _, trivial⟩⟩
    · have e : dgtR (f + 1) 0 d = d := by rw [dgtR, if_neg (by rintro (h2 | h2); exact absurd h2 (Nat.lt_irrefl _); exact h h2)]
      rw [e]
      repeat (first
        | refine awp_seq ?_
        | refine a_region ?_
        | refine awp_exit ?_
        | (refine r_id ?_; first
          | refine r_ev tab_ok rfl rfl rfl rfl (by first | exact trivial | exact ⟨by omega, by omega⟩ | omega | exact ⟨by omega, by omega, by omega, by omega⟩ | exact Nat.le_of_ble_eq_true rfl) rfl ?_))
      refine r_ev tab_ok rfl rfl rfl rfl (by show 1 + d.size ≤ _; omega) rfl ?_
      repeat (first
        | refine thenA_normal ?_
        | refine awp_ret ?_
        | refine r_done ?_
        | (refine r_id ?_; first
          | refine r_ev tab_ok rfl rfl rfl rfl (by first | exact trivial | exact ⟨by omega, by omega⟩ | omega | exact ⟨by omega, by omega, by omega, by omega⟩ | exact Nat.le_of_ble_eq_true rfl) rfl ?_)
        | refine ret1 (by first | exact .inl rfl | exact .inr rfl) rfl rfl rfl ?_)
      exact Sub.refl _
theorem dec_all (n : Int) (hn : -9223372036854775808 ≤ n ∧ n ≤ 9223372036854775807) : PCalls Tryz.prog 23 [.val (.int .i64 n)] (.val (.string (decI n))) := by
  rw [decI]
  by_cases h : n < 0
  · obtain ⟨m, rfl⟩ : ∃ m : Nat, n = -(m : Int) := ⟨n.natAbs, by omega⟩
    rw [if_pos h, Int.natAbs_neg, Int.natAbs_natCast]
    exact decNeg_ok m (by omega)
  · obtain ⟨m, rfl⟩ : ∃ m : Nat, n = (m : Int) := ⟨n.natAbs, by omega⟩
    rw [if_neg h, Int.natAbs_natCast]
    exact decimal_ok m (by omega)
end Go.Proofs.YtiolnmfaeenlmaaGreatDoor
