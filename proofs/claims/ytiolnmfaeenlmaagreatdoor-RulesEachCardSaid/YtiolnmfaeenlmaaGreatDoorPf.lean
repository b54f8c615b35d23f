/- The reference's Decimal of a number from 0 on; walked. -/
import Derived.Test.YtiolnmfaeenlmaaGreatDoorF4
import Derived.Test.YtiolnmfaeenlmaaGreatDoorRo
namespace Go.Proofs.YtiolnmfaeenlmaaGreatDoor
open Go Go.RowKit
set_option maxRecDepth 20000

def dgtR : Nat → Nat → ByteArray → ByteArray
  | 0, _, d => d
  | f + 1, u, d => if 0 < u ∨ d = ⟨#[]⟩ then dgtR f (u / 10) (bytesStr [48 + (u : Int) % 10] ++ d) else d
def decN (n : Nat) : ByteArray := dgtR 21 n ⟨#[]⟩
theorem bs_nil_app (d : ByteArray) : (⟨#[]⟩ : ByteArray) ++ d = d := by
  apply ByteArray.ext
  simp [ByteArray.data_append]
theorem bs_one_size (x : Int) (d : ByteArray) : (bytesStr [x] ++ d).size = d.size + 1 := by
  rw [ByteArray.size_append]
  show 1 + d.size = _
  omega
theorem bs_one_ne (x : Int) (d : ByteArray) : bytesStr [x] ++ d ≠ ⟨#[]⟩ := by
  intro h
  have := congrArg ByteArray.size h
  rw [bs_one_size] at this
  exact absurd this (by show ¬ (d.size + 1 = 0); omega)
structure DeS (n : Nat) where
  f : Nat
  u : Nat
  d : ByteArray
  hu : u < 10 ^ (f - 1)
  hn : u < 9223372036854775808
  h1 : 1 ≤ f
  he : f = 1 → d ≠ ⟨#[]⟩
  hd : d.size + f ≤ 21
  eq : dgtR f u d = decN n
set_option maxHeartbeats 1000000 in
theorem decimal_ok (n : Nat) (hn : n < 9223372036854775808) : PCalls Tryz.prog 23 [.val (.int .i64 n)] (.val (.string (decN n))) := by
  refine p_start Tryz.func23 Tryz.ntmps23 rfl rfl rfl fun S w => ?_
  have h0 : ¬ (n : Int) < 0 := by omega
  repeat (first
    | refine awp_seq ?_
    | refine thenA_normal ?_
    | refine awp_block ?_
    | refine a_region ?_
    | refine awp_skip ?_
    | refine r_done ?_
    | (refine r_id ?_; first
      | refine r_ev tab_ok rfl rfl rfl rfl (by first | exact trivial | exact ⟨by omega, by omega⟩ | omega | exact ⟨by omega, by omega, by omega, by omega⟩ | exact Nat.le_of_ble_eq_true rfl) rfl ?_)
    | refine awp_cond_f rfl ?_)
  refine a_loop (σ := DeS n) (fun _ => []) (fun x => [(3, .val (.int .u64 x.u)), (4, .val (.string ⟨#[]⟩)), (5, .val (.string x.d))]) (fun x => x.f) ⟨21, n, ⟨#[]⟩, by omega, hn, by omega, by omega, by decide, rfl⟩ (fits_of rfl ⟨Sub.refl _, Sub.refl _, Sub.refl _, trivial⟩) ?_
  rintro ⟨f, u, d, hu, hn, h1, he, hd, heq⟩
  dsimp only
  rw [← heq]
  obtain ⟨f, rfl⟩ : ∃ k, f = k + 1 := ⟨f - 1, by omega⟩
  rw [Nat.add_sub_cancel] at hu
  by_cases hp : 0 < u
  · have hf : 1 ≤ f := by
      rcases Nat.eq_zero_or_pos f with rfl | h
      · simp at hu; omega
      · exact h
    have hu2 : u / 10 < 10 ^ (f - 1) := by
      obtain ⟨g, rfl⟩ : ∃ k, f = k + 1 := ⟨f - 1, by omega⟩
      rw [Nat.add_sub_cancel]
      rw [Nat.pow_succ] at hu
      omega
    have e : dgtR (f + 1) u d = dgtR f (u / 10) (bytesStr [48 + (u : Int) % 10] ++ d) := by rw [dgtR, if_pos (.inl hp)]
    rw [e]
    repeat (first
      | refine awp_seq ?_
      | refine thenA_normal ?_
      | refine awp_block ?_
      | refine a_region ?_
      | refine awp_skip ?_
      | refine r_done ?_
      | (refine r_id ?_; first
        | refine r_ev tab_ok rfl rfl rfl rfl (by first | exact trivial | exact ⟨by omega, by omega⟩ | omega | exact ⟨by omega, by omega, by omega, by omega⟩ | exact Nat.le_of_ble_eq_true rfl) rfl ?_
        | refine r_bstr tab_ok rfl rfl rfl rfl rfl rfl rfl rfl rfl rfl ?_
        | refine r_built tab_ok rfl rfl rfl rfl rfl rfl rfl rfl rfl ?_)
      | refine awp_cond_t rfl ?_
      | refine r_pick_t rfl rfl (congrArg (fun b => AV.val (.bool b)) (decide_eq_true (by omega))) rfl rfl rfl rfl ?_
      | refine r_off rfl rfl (congrArg (fun b => AV.val (.bool b)) (decide_eq_true (by omega))) rfl rfl rfl ?_)
    refine r_ev tab_ok rfl rfl rfl rfl (by show 1 + d.size ≤ _; omega) rfl ?_
    repeat (first
      | refine thenA_normal ?_
      | refine a_region ?_
      | refine blockA_normal ?_
      | refine r_done ?_
      | (refine r_id ?_; first
        | refine r_ev tab_ok rfl rfl rfl rfl (by first | exact trivial | exact ⟨by omega, by omega⟩ | omega | exact ⟨by omega, by omega, by omega, by omega⟩ | exact Nat.le_of_ble_eq_true rfl) rfl ?_))
    exact ⟨⟨f, u / 10, bytesStr [48 + (u : Int) % 10] ++ d, hu2, by omega, hf, fun _ => bs_one_ne _ _, by rw [bs_one_size]; omega, by rw [← heq, e]⟩, by dsimp only; omega, fits_of rfl ⟨Sub.of_eq (by simp only [Int.natCast_ediv]; rfl), Sub.refl _, Sub.refl _, trivial⟩⟩
  · have hz : u = 0 := by omega
    subst hz
    repeat (first
      | refine awp_seq ?_
      | refine thenA_normal ?_
      | refine a_region ?_
      | refine r_done ?_
      | (refine r_id ?_; first
        | refine r_ev tab_ok rfl rfl rfl rfl (by first | exact trivial | exact ⟨by omega, by omega⟩ | omega | exact ⟨by omega, by omega, by omega, by omega⟩ | exact Nat.le_of_ble_eq_true rfl) rfl ?_
        | refine r_pick_f rfl rfl rfl rfl rfl rfl rfl ?_
        | refine r_ev_on tab_ok rfl rfl rfl rfl rfl rfl (by first | exact trivial | exact ⟨by omega, by omega⟩ | omega) rfl ?_))
    refine awp_cond_p rfl (fun h => ?_) (fun h => ?_)
    · have hf : 1 ≤ f := by
        rcases Nat.eq_zero_or_pos f with rfl | h2
        · exact absurd h (he rfl)
        · exact h2
      have e : dgtR (f + 1) 0 d = dgtR f 0 (bytesStr [48 + ((0 : Nat) : Int) % 10] ++ d) := by rw [dgtR, if_pos (.inr h)]
      rw [e]
      repeat (first
        | refine awp_seq ?_
        | refine thenA_normal ?_
        | refine awp_block ?_
        | refine a_region ?_
        | refine awp_skip ?_
        | (refine r_id ?_; first
          | refine r_ev tab_ok rfl rfl rfl rfl (by first | exact trivial | exact ⟨by omega, by omega⟩ | omega | exact ⟨by omega, by omega, by omega, by omega⟩ | exact Nat.le_of_ble_eq_true rfl) rfl ?_
          | refine r_bstr tab_ok rfl rfl rfl rfl rfl rfl rfl rfl rfl rfl ?_
          | refine r_built tab_ok rfl rfl rfl rfl rfl rfl rfl rfl rfl ?_))
      refine r_ev tab_ok rfl rfl rfl rfl (by show 1 + d.size ≤ _; omega) rfl ?_
      repeat (first
        | refine thenA_normal ?_
        | refine a_region ?_
        | refine blockA_normal ?_
        | refine r_done ?_
        | (refine r_id ?_; first
          | refine r_ev tab_ok rfl rfl rfl rfl (by first | exact trivial | exact ⟨by omega, by omega⟩ | omega | exact ⟨by omega, by omega, by omega, by omega⟩ | exact Nat.le_of_ble_eq_true rfl) rfl ?_))
      exact ⟨⟨f, 0, bytesStr [48 + ((0 : Nat) : Int) % 10] ++ d, Nat.pow_pos (by decide), by omega, hf, fun _ => bs_one_ne _ _, by rw [bs_one_size]; omega, by rw [← heq, e]⟩, by dsimp only; omega, fits_of rfl ⟨Sub.refl _, Sub.refl _, Sub.refl _, trivial⟩⟩
    · have e : dgtR (f + 1) 0 d = d := by rw [dgtR, if_neg (by rintro (h2 | h2); exact absurd h2 (Nat.lt_irrefl _); exact h h2)]
      rw [e]
      repeat (first
        | refine awp_seq ?_
        | refine a_region ?_
        | refine awp_exit ?_
        | (refine r_id ?_; first
          | refine r_ev tab_ok rfl rfl rfl rfl (by first | exact trivial | exact ⟨by omega, by omega⟩ | omega | exact ⟨by omega, by omega, by omega, by omega⟩ | exact Nat.le_of_ble_eq_true rfl) rfl ?_))
      refine r_ev tab_ok rfl rfl rfl rfl (by show 0 + d.size ≤ _; omega) rfl ?_
      repeat (first
        | refine thenA_normal ?_
        | refine awp_ret ?_
        | refine r_done ?_
        | (refine r_id ?_; first
          | refine r_ev tab_ok rfl rfl rfl rfl (by first | exact trivial | exact ⟨by omega, by omega⟩ | omega | exact ⟨by omega, by omega, by omega, by omega⟩ | exact Nat.le_of_ble_eq_true rfl) rfl ?_)
        | refine ret1 (by first | exact .inl rfl | exact .inr rfl) rfl rfl rfl ?_)
      exact Sub.of_eq (by rw [bs_nil_app])
end Go.Proofs.YtiolnmfaeenlmaaGreatDoor
