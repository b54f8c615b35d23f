/- Scope: lists of numbers; awake. -/
import Derived.Test.YtajbbcnfohbieaaS8
namespace Go.Proofs.Ytajbbcnfohbieaa
open Go Go.RowKit

theorem ints_ok (a b : List Int) (ha : a.length ≤ 70368744177664) (hb : b.length ≤ 70368744177664) : PCalls Try.prog 12 [.sl 1 (a.map iD), .sl 1 (b.map iD)] (.val (.bool (decide (a = b)))) := by
  refine p_start Try.func12 Try.ntmps12 rfl rfl rfl fun S w => ?_
  repeat (first
    | refine awp_seq ?_
    | refine thenA_normal ?_
    | refine a_region ?_
    | refine r_done ?_
    | (refine r_id ?_; first
      | refine r_len tab_ok rfl rfl rfl rfl rfl rfl rfl ?_
      | refine r_ev tab_ok rfl rfl rfl rfl (by first | exact trivial | exact ⟨by omega, by omega⟩ | omega | exact ⟨by omega, by omega, by omega, by omega⟩ | exact Nat.le_of_ble_eq_true rfl) rfl ?_))
  refine awp_cond_n rfl (fun h => ?_) (fun h => ?_)
  · repeat (first
      | refine awp_seq ?_
      | refine thenA_normal ?_
      | refine a_region ?_
      | refine awp_ret ?_
      | refine thenA_ret ?_
      | refine r_done ?_
      | (refine r_id ?_; first
        | refine r_ev tab_ok rfl rfl rfl rfl (by first | exact trivial | exact ⟨by omega, by omega⟩ | omega | exact ⟨by omega, by omega, by omega, by omega⟩ | exact Nat.le_of_ble_eq_true rfl) rfl ?_)
      | refine ret1 (by first | exact .inl rfl | exact .inr rfl) rfl rfl rfl ?_)
    exact Sub.of_eq (by rw [decide_eq_false]; intro e; subst e; exact h rfl)
  · have hl : a.length = b.length := by omega
    repeat (first
      | refine awp_seq ?_
      | refine thenA_normal ?_
      | refine awp_block ?_
      | refine a_region ?_
      | refine awp_skip ?_
      | refine r_done ?_
      | (refine r_id ?_; first
        | refine r_ev tab_ok rfl rfl rfl rfl (by first | exact trivial | exact ⟨by omega, by omega⟩ | omega | exact ⟨by omega, by omega, by omega, by omega⟩ | exact Nat.le_of_ble_eq_true rfl) rfl ?_))
    refine a_loop (σ := {i : Nat // i ≤ a.length ∧ a.take i = b.take i}) (fun _ => []) (fun x => [(0, .sl 1 (a.map iD)), (1, .sl 1 (b.map iD)), (5, .val (.int .i64 x.1))]) (fun x => a.length - x.1) ⟨0, by omega, by simp⟩
      (fits_of rfl ⟨Sub.refl _, Sub.refl _, Sub.refl _, trivial⟩) ?_
    rintro ⟨i, hi, he⟩
    dsimp only
    repeat (first
      | refine awp_seq ?_
      | refine thenA_normal ?_
      | refine a_region ?_
      | refine r_done ?_
      | (refine r_id ?_; first
        | refine r_len tab_ok rfl rfl rfl rfl rfl rfl rfl ?_
        | refine r_ev tab_ok rfl rfl rfl rfl (by first | exact trivial | exact ⟨by omega, by omega⟩ | omega | exact ⟨by omega, by omega, by omega, by omega⟩ | exact Nat.le_of_ble_eq_true rfl) rfl ?_))
    refine awp_cond_p rfl (fun hlt => ?_) (fun hge => ?_)
    · repeat (first
        | refine awp_seq ?_
        | refine thenA_normal ?_
        | refine awp_block ?_
        | refine a_draw1 mixed_ok (by kernel_rfl) ?_
        | refine awp_skip ?_
        | refine r_done' ?_
        | (refine r_id ?_; first
          | refine r_ev tab_ok rfl rfl rfl rfl (by first | exact trivial | exact ⟨by omega, by omega⟩ | omega | exact ⟨by omega, by omega, by omega, by omega⟩ | exact Nat.le_of_ble_eq_true rfl) rfl ?_
          | refine r_idx tab_ok rfl rfl rfl rfl rfl rfl rfl (by first | exact ⟨by omega, by omega⟩ | (simp; omega)) rfl rfl ?_))
      refine awp_cond_n rfl (fun hne => ?_) (fun heq => ?_)
      · repeat (first
          | refine awp_seq ?_
          | refine thenA_normal ?_
          | refine a_region ?_
          | refine awp_ret ?_
          | refine thenA_ret ?_
          | refine blockA_ret ?_
          | refine r_done ?_
          | (refine r_id ?_; first
            | refine r_ev tab_ok rfl rfl rfl rfl (by first | exact trivial | exact ⟨by omega, by omega⟩ | omega | exact ⟨by omega, by omega, by omega, by omega⟩ | exact Nat.le_of_ble_eq_true rfl) rfl ?_)
          | refine ret1 (by first | exact .inl rfl | exact .inr rfl) rfl rfl rfl ?_)
        exact Sub.of_eq (by rw [decide_eq_false]; intro e; subst e; exact hne rfl)
      · repeat (first
          | refine thenA_normal ?_
          | refine a_region ?_
          | refine awp_skip ?_
          | refine r_done ?_
          | (refine r_id ?_; first
            | refine r_ev tab_ok rfl rfl rfl rfl (by first | exact trivial | exact ⟨by omega, by omega⟩ | omega | exact ⟨by omega, by omega, by omega, by omega⟩ | exact Nat.le_of_ble_eq_true rfl) rfl ?_))
        refine ⟨⟨i + 1, by omega, ?_⟩, by dsimp only; omega, fits_of rfl ⟨Sub.refl _, Sub.refl _, Sub.refl _, trivial⟩⟩
        have h1 : i < a.length := by omega
        have h2 : i < b.length := by omega
        simp only [Int.toNat_natCast] at heq
        rw [List.take_add_one, List.take_add_one, he, List.getElem?_eq_getElem h1, List.getElem?_eq_getElem h2, heq]
    · repeat (first
        | refine awp_seq ?_
        | refine thenA_normal ?_
        | refine a_region ?_
        | refine awp_ret ?_
        | refine awp_exit ?_
        | refine r_done ?_
        | (refine r_id ?_; first
          | refine r_ev tab_ok rfl rfl rfl rfl (by first | exact trivial | exact ⟨by omega, by omega⟩ | omega | exact ⟨by omega, by omega, by omega, by omega⟩ | exact Nat.le_of_ble_eq_true rfl) rfl ?_)
        | refine ret1 (by first | exact .inl rfl | exact .inr rfl) rfl rfl rfl ?_)
      exact Sub.of_eq (by
        have : a = b := by rwa [List.take_of_length_le (by omega), List.take_of_length_le (by omega)] at he
        rw [decide_eq_true this])
def sa : ByteArray := ⟨#[97]⟩
def sb : ByteArray := ⟨#[98]⟩
def sc : ByteArray := ⟨#[99]⟩
def sq : ByteArray := ⟨#[113]⟩
theorem aw1 : resetL [] 1 [] ⟨sa, 4, false, false⟩ = [⟨sa, 1, 4, false⟩] := rfl
theorem aw2 : resetL [⟨sa, 1, 4, false⟩] 2 [] ⟨sa, 0, false, false⟩ = [⟨sa, 1, 4, false⟩, ⟨sa, 2, 0, false⟩] := rfl
theorem aw3 : resetL [⟨sa, 1, 4, false⟩, ⟨sa, 2, 0, false⟩] 3 [2] ⟨sa, 9, false, false⟩ = [⟨sa, 1, 4, false⟩, ⟨sa, 3, 9, false⟩] := rfl
theorem aw4 : addL [⟨sa, 1, 4, false⟩, ⟨sa, 3, 9, false⟩] 3 ⟨sa, -2, false, false⟩ = [⟨sa, 1, 4, false⟩, ⟨sa, 3, 7, false⟩] := rfl
theorem aw5 : addL [⟨sa, 1, 4, false⟩, ⟨sa, 3, 7, false⟩] 3 ⟨sb, 2147483647, false, false⟩ = [⟨sa, 1, 4, false⟩, ⟨sa, 3, 7, false⟩, ⟨sb, 3, 2147483647, false⟩] := rfl
theorem aw6 : addL [⟨sa, 1, 4, false⟩, ⟨sa, 3, 7, false⟩, ⟨sb, 3, 2147483647, false⟩] 3 ⟨sb, 1, false, false⟩ = [⟨sa, 1, 4, false⟩, ⟨sa, 3, 7, false⟩, ⟨sb, 3, 2147483647, false⟩] := rfl
theorem aw7 : beginL [⟨sa, 1, 4, false⟩, ⟨sa, 2, 0, false⟩] [⟨sa, 1, 4, false⟩, ⟨sa, 3, 9, false⟩] [] = [⟨sa, 1, 4, false⟩, ⟨sa, 2, 0, false⟩, ⟨sa, 3, 9, false⟩] := rfl
theorem aw8 : putL [] 1 ⟨sq, 3, false, false⟩ = [⟨sq, 1, 3, false⟩] := rfl
abbrev L0 : List Ctr := []
abbrev L1 : List Ctr := [⟨sa, 1, 4, false⟩]
abbrev L2 : List Ctr := [⟨sa, 1, 4, false⟩, ⟨sa, 2, 0, false⟩]
abbrev L3 : List Ctr := [⟨sa, 1, 4, false⟩, ⟨sa, 3, 9, false⟩]
abbrev L4 : List Ctr := [⟨sa, 1, 4, false⟩, ⟨sa, 3, 7, false⟩]
abbrev L5 : List Ctr := [⟨sa, 1, 4, false⟩, ⟨sa, 3, 7, false⟩, ⟨sb, 3, 2147483647, false⟩]
theorem sub_nil4 : Sub (.val (.slice none 0 0)) (.sl 4 (L0.map cD)) := Sub.nil 4
theorem sub_nil1 : Sub (.val (.slice none 0 0)) (.sl 1 (([] : List Int).map iD)) := Sub.nil 1
theorem subs1 {x x' : AV} (h : Sub x x') : Subs [x] [x'] := ⟨h, trivial⟩
theorem subs3 {x y z x' y' z' : AV} (h : Sub x x') (k : Sub y y') (l : Sub z z') : Subs [x, y, z] [x', y', z'] := ⟨h, k, l, trivial⟩
theorem subs4 {x y z u x' y' z' u' : AV} (h : Sub x x') (k : Sub y y') (l : Sub z z') (m : Sub u u') : Subs [x, y, z, u] [x', y', z', u'] := ⟨h, k, l, m, trivial⟩
theorem small_of {l : List Ctr} (h : l.all (fun c => decide (-4294967296 ≤ c.n) && decide (c.n ≤ 4294967296)) = true) : Small l := fun c hc => by
  have := List.all_eq_true.1 h c hc
  rw [Bool.and_eq_true, decide_eq_true_eq, decide_eq_true_eq] at this
  exact this
theorem small3 : Small L3 := small_of rfl
theorem small4 : Small L4 := small_of rfl
theorem small5 : Small L5 := small_of rfl
set_option maxHeartbeats 1000000 in
theorem awake_ok : PCalls Try.prog 6 [] (.val (.bool true)) := by
  refine p_start Try.func6 Try.ntmps6 rfl rfl rfl fun S w => ?_
  have h1 := reset_ok [] 1 [] ⟨sa, 4, false, false⟩ (by decide) (by decide)
  have h2 := reset_ok L1 2 [] ⟨sa, 0, false, false⟩ (by decide) (by decide)
  have h3 := reset_ok L2 3 [2] ⟨sa, 9, false, false⟩ (by decide) (by decide)
  have h4 := add_ok L3 3 ⟨sa, -2, false, false⟩ (by decide) small3 (by decide)
  have h5 := add_ok L4 3 ⟨sb, 2147483647, false, false⟩ (by decide) small4 (by decide)
  have h6 := add_ok L5 3 ⟨sb, 1, false, false⟩ (by decide) small5 (by decide)
  have h7 : PCalls Try.prog 9 [.sl 4 (L5.map cD), .val (.string sb)] (.tup [.val (.int .i64 2147483647), .val (.bool true)]) := value_ok L5 sb (by decide)
  have h8 : PCalls Try.prog 9 [.sl 4 (L5.map cD), .val (.string sc)] (.tup [.val (.int .i64 0), .val (.bool false)]) := value_ok L5 sc (by decide)
  have h9 : PCalls Try.prog 13 [.sl 4 (L2.map cD), .val (.string sa)] (.sl 1 (([4, 0] : List Int).map iD)) := values_ok L2 sa (by decide)
  have h10 : PCalls Try.prog 13 [.sl 4 (L4.map cD), .val (.string sa)] (.sl 1 (([4, 7] : List Int).map iD)) := values_ok L4 sa (by decide)
  have i1 : PCalls Try.prog 12 [.sl 1 (([4, 0] : List Int).map iD), .sl 1 (([4, 0] : List Int).map iD)] (.val (.bool true)) := ints_ok [4, 0] [4, 0] (by decide) (by decide)
  have i2 : PCalls Try.prog 12 [.sl 1 (([4, 7] : List Int).map iD), .sl 1 (([4, 7] : List Int).map iD)] (.val (.bool true)) := ints_ok [4, 7] [4, 7] (by decide) (by decide)
  have h11 := pairs_ok L5 (by decide)
  have h12 := begin_ok L2 L3 [] [] (by decide) (by decide) (by decide)
  have h13 := put_ok [] 1 ⟨sq, 3, false, false⟩ (by decide)
  rw [aw1] at h1; rw [aw2] at h2; rw [aw3] at h3; rw [aw4] at h4; rw [aw5] at h5; rw [aw6] at h6; rw [aw7] at h12; rw [aw8] at h13
  repeat (first
    | refine awp_seq ?_
    | refine a_region ?_
    | refine r_done ?_
    | (refine r_id ?_; first
      | refine r_ev tab_ok rfl rfl rfl rfl (by first | exact trivial | exact ⟨by omega, by omega⟩ | omega | exact ⟨by omega, by omega, by omega, by omega⟩ | exact Nat.le_of_ble_eq_true rfl) rfl ?_
      | refine r_build tab_ok rfl rfl rfl rfl rfl rfl ?_))
  refine r_call h1 call7 rfl rfl ⟨sub_nil4, Sub.refl _, sub_nil1, Sub.refl _, trivial⟩ rfl rfl rfl rfl ?_
  repeat (first
    | refine awp_seq ?_
    | refine a_region ?_
    | refine r_done ?_
    | (refine r_id ?_; first
      | refine r_ev tab_ok rfl rfl rfl rfl (by first | exact trivial | exact ⟨by omega, by omega⟩ | omega | exact ⟨by omega, by omega, by omega, by omega⟩ | exact Nat.le_of_ble_eq_true rfl) rfl ?_
      | refine r_build tab_ok rfl rfl rfl rfl rfl rfl ?_))
  refine r_call h2 call7 rfl rfl ⟨Sub.refl _, Sub.refl _, sub_nil1, Sub.refl _, trivial⟩ rfl rfl rfl rfl ?_
  repeat (first
    | refine awp_seq ?_
    | refine a_region ?_
    | refine r_done ?_
    | (refine r_id ?_; first
      | refine r_ev tab_ok rfl rfl rfl rfl (by first | exact trivial | exact ⟨by omega, by omega⟩ | omega | exact ⟨by omega, by omega, by omega, by omega⟩ | exact Nat.le_of_ble_eq_true rfl) rfl ?_
      | refine r_build tab_ok rfl rfl rfl rfl rfl rfl ?_
      | refine r_built tab_ok rfl rfl rfl rfl rfl rfl rfl rfl rfl ?_))
  refine r_call h3 call7 rfl rfl ⟨Sub.refl _, Sub.refl _, Sub.refl _, Sub.refl _, trivial⟩ rfl rfl rfl rfl ?_
  repeat (first
    | refine awp_seq ?_
    | refine a_region ?_
    | refine r_done ?_
    | (refine r_id ?_; first
      | refine r_ev tab_ok rfl rfl rfl rfl (by first | exact trivial | exact ⟨by omega, by omega⟩ | omega | exact ⟨by omega, by omega, by omega, by omega⟩ | exact Nat.le_of_ble_eq_true rfl) rfl ?_
      | refine r_build tab_ok rfl rfl rfl rfl rfl rfl ?_))
  refine r_call h4 call8 rfl rfl ⟨Sub.refl _, Sub.refl _, Sub.refl _, trivial⟩ rfl rfl rfl rfl ?_
  repeat (first
    | refine awp_seq ?_
    | refine a_region ?_
    | refine r_done ?_
    | (refine r_id ?_; first
      | refine r_ev tab_ok rfl rfl rfl rfl (by first | exact trivial | exact ⟨by omega, by omega⟩ | omega | exact ⟨by omega, by omega, by omega, by omega⟩ | exact Nat.le_of_ble_eq_true rfl) rfl ?_
      | refine r_build tab_ok rfl rfl rfl rfl rfl rfl ?_))
  refine r_call h5 call8 rfl rfl ⟨Sub.refl _, Sub.refl _, Sub.refl _, trivial⟩ rfl rfl rfl rfl ?_
  repeat (first
    | refine awp_seq ?_
    | refine a_region ?_
    | refine r_done ?_
    | (refine r_id ?_; first
      | refine r_ev tab_ok rfl rfl rfl rfl (by first | exact trivial | exact ⟨by omega, by omega⟩ | omega | exact ⟨by omega, by omega, by omega, by omega⟩ | exact Nat.le_of_ble_eq_true rfl) rfl ?_
      | refine r_build tab_ok rfl rfl rfl rfl rfl rfl ?_))
  refine r_call h6 call8 rfl rfl ⟨Sub.refl _, Sub.refl _, Sub.refl _, trivial⟩ rfl rfl rfl rfl ?_
  repeat (first
    | refine awp_seq ?_
    | refine a_region ?_
    | refine r_done ?_
    | (refine r_id ?_; first
      | refine r_ev tab_ok rfl rfl rfl rfl (by first | exact trivial | exact ⟨by omega, by omega⟩ | omega | exact ⟨by omega, by omega, by omega, by omega⟩ | exact Nat.le_of_ble_eq_true rfl) rfl ?_))
  refine r_call h7 call9 rfl rfl ⟨Sub.refl _, Sub.refl _, trivial⟩ rfl rfl rfl rfl ?_
  repeat (first
    | refine awp_seq ?_
    | refine a_region ?_
    | refine r_done ?_
    | (refine r_id ?_; first
      | refine r_ev tab_ok rfl rfl rfl rfl (by first | exact trivial | exact ⟨by omega, by omega⟩ | omega | exact ⟨by omega, by omega, by omega, by omega⟩ | exact Nat.le_of_ble_eq_true rfl) rfl ?_))
  refine r_call h8 call9 rfl rfl ⟨Sub.refl _, Sub.refl _, trivial⟩ rfl rfl rfl rfl ?_
  repeat (first
    | refine awp_seq ?_
    | refine a_region ?_
    | refine r_done ?_
    | (refine r_id ?_; first
      | refine r_ev tab_ok rfl rfl rfl rfl (by first | exact trivial | exact ⟨by omega, by omega⟩ | omega | exact ⟨by omega, by omega, by omega, by omega⟩ | exact Nat.le_of_ble_eq_true rfl) rfl ?_))
  refine r_call h9 call13 rfl rfl ⟨Sub.refl _, Sub.refl _, trivial⟩ rfl rfl rfl rfl ?_
  repeat (first
    | (refine r_id ?_; first
      | refine r_built tab_ok rfl rfl rfl rfl rfl rfl rfl rfl rfl ?_))
  refine r_call i1 call12 rfl rfl ⟨Sub.refl _, Sub.refl _, trivial⟩ rfl rfl rfl rfl ?_
  repeat (first
    | (refine r_id ?_; first
      | refine r_ev tab_ok rfl rfl rfl rfl (by first | exact trivial | exact ⟨by omega, by omega⟩ | omega | exact ⟨by omega, by omega, by omega, by omega⟩ | exact Nat.le_of_ble_eq_true rfl) rfl ?_
      | refine r_ev_cnd tab_ok rfl rfl rfl rfl rfl rfl (by first | exact fun _ => rfl | exact cs1 | exact cs2 | exact cs3) (by first | exact fun _ => trivial | (intro h; simp at h; first | exact ⟨by omega, by omega⟩ | omega)) rfl ?_))
  refine r_call_cnd (fun _ => h10) call13 rfl rfl rfl rfl (by first | exact fun _ => rfl | exact cs1 | exact cs2 | exact cs3) (subs2 (Sub.refl _) (Sub.refl _)) rfl rfl rfl rfl ?_
  repeat (first
    | (refine r_id ?_; first
      | refine r_built_cnd tab_ok rfl rfl rfl rfl rfl rfl rfl rfl (by first | exact fun _ => rfl | exact cs1) rfl rfl rfl ?_))
  refine r_call_cnd (fun _ => i2) call12 rfl rfl rfl rfl (by first | exact fun _ => rfl | exact cs1 | exact cs2 | exact cs3) (subs2 (Sub.refl _) (Sub.refl _)) rfl rfl rfl rfl ?_
  repeat (first
    | (refine r_id ?_; first
      | refine r_ev tab_ok rfl rfl rfl rfl (by first | exact trivial | exact ⟨by omega, by omega⟩ | omega | exact ⟨by omega, by omega, by omega, by omega⟩ | exact Nat.le_of_ble_eq_true rfl) rfl ?_
      | refine r_ev_cnd tab_ok rfl rfl rfl rfl rfl rfl (by first | exact fun _ => rfl | exact cs1 | exact cs2 | exact cs3) (by first | exact fun _ => trivial | (intro h; simp at h; first | exact ⟨by omega, by omega⟩ | omega)) rfl ?_
      | refine r_and rfl rfl rfl rfl rfl rfl rfl rfl ?_))
  refine r_call_cnd (fun _ => h11) call19 rfl rfl rfl rfl (by first | exact fun _ => rfl | exact cs1 | exact cs2 | exact cs3) (subs1 (Sub.refl _)) rfl rfl rfl rfl ?_
  repeat (first
    | (refine r_id ?_; first
      | refine r_ev tab_ok rfl rfl rfl rfl (by first | exact trivial | exact ⟨by omega, by omega⟩ | omega | exact ⟨by omega, by omega, by omega, by omega⟩ | exact Nat.le_of_ble_eq_true rfl) rfl ?_
      | refine r_len_cnd tab_ok rfl rfl rfl rfl rfl rfl (by first | exact fun _ => rfl | exact cs1) rfl rfl rfl ?_
      | refine r_ev_cnd tab_ok rfl rfl rfl rfl rfl rfl (by first | exact fun _ => rfl | exact cs1 | exact cs2 | exact cs3) (by first | exact fun _ => trivial | (intro h; simp at h; first | exact ⟨by omega, by omega⟩ | omega)) rfl ?_
      | refine r_and rfl rfl rfl rfl rfl rfl rfl rfl ?_))
  refine r_call_cnd (fun _ => h12) call18 rfl rfl rfl rfl (by first | exact fun _ => rfl | exact cs1 | exact cs2 | exact cs3) (subs4 (Sub.refl _) (Sub.refl _) sub_nil4 sub_nil1) rfl rfl rfl rfl ?_
  repeat (first
    | (refine r_id ?_; first
      | refine r_ev tab_ok rfl rfl rfl rfl (by first | exact trivial | exact ⟨by omega, by omega⟩ | omega | exact ⟨by omega, by omega, by omega, by omega⟩ | exact Nat.le_of_ble_eq_true rfl) rfl ?_
      | refine r_len_cnd tab_ok rfl rfl rfl rfl rfl rfl (by first | exact fun _ => rfl | exact cs1) rfl rfl rfl ?_
      | refine r_ev_cnd tab_ok rfl rfl rfl rfl rfl rfl (by first | exact fun _ => rfl | exact cs1 | exact cs2 | exact cs3) (by first | exact fun _ => trivial | (intro h; simp at h; first | exact ⟨by omega, by omega⟩ | omega)) rfl ?_
      | refine r_and rfl rfl rfl rfl rfl rfl rfl rfl ?_
      | refine r_build_cnd tab_ok rfl rfl rfl rfl rfl (by first | exact fun _ => rfl | exact cs1) rfl rfl rfl ?_))
  refine r_call_cnd (fun _ => h13) call10 rfl rfl rfl rfl (by first | exact fun _ => rfl | exact cs1 | exact cs2 | exact cs3) (subs3 sub_nil4 (Sub.refl _) (Sub.refl _)) rfl rfl rfl rfl ?_
  repeat (first
    | refine thenA_normal ?_
    | refine awp_ret ?_
    | refine r_done ?_
    | (refine r_id ?_; first
      | refine r_ev tab_ok rfl rfl rfl rfl (by first | exact trivial | exact ⟨by omega, by omega⟩ | omega | exact ⟨by omega, by omega, by omega, by omega⟩ | exact Nat.le_of_ble_eq_true rfl) rfl ?_
      | refine r_len_cnd tab_ok rfl rfl rfl rfl rfl rfl (by first | exact fun _ => rfl | exact cs1) rfl rfl rfl ?_
      | refine r_ev_cnd tab_ok rfl rfl rfl rfl rfl rfl (by first | exact fun _ => rfl | exact cs1 | exact cs2 | exact cs3) (by first | exact fun _ => trivial | (intro h; simp at h; first | exact ⟨by omega, by omega⟩ | omega)) rfl ?_
      | refine r_and rfl rfl rfl rfl rfl rfl rfl rfl ?_)
    | refine ret1 (by first | exact .inl rfl | exact .inr rfl) rfl rfl rfl ?_)
  exact Sub.refl _
end Go.Proofs.Ytajbbcnfohbieaa
