/- strings.Repeat on law9's seat: what it calls. -/
import Derived.Test.YtgkcliecgmhmfaaL5
import Derived.Test.YtgkcliecgmhmfaaG5
import Derived.Shelf.Bits.Mul64
namespace Go.Proofs.Ytgkcliecgmhmfaa
open Go Go.RowKit Go.Shelf

theorem slprefix_ok (s p : ByteArray) (hp : p.size ≤ 1000) (hs : s.size ≤ 4611686018427387904) : PCalls Try.prog 42 [.val (.string s), .val (.string p)] (.val (.bool (decide ((p.size : Int) ≤ s.size) && decide (s.extract 0 p.size = p)))) := by
  refine p_start Try.func42 Try.ntmps42 rfl rfl rfl fun S w => ?_
  repeat (first
    | refine awp_seq ?_
    | refine thenA_normal ?_
    | refine a_region ?_
    | refine awp_ret ?_
    | refine r_done ?_
    | (refine r_id ?_; first
      | refine r_ev tab_ok rfl rfl rfl rfl (by first | exact trivial | exact ⟨by omega, by omega⟩ | omega | exact ⟨by omega, by omega, by omega, by omega⟩ | exact Nat.le_of_ble_eq_true rfl) rfl ?_
      | refine r_ev_cnd tab_ok rfl rfl rfl rfl rfl rfl (by first | exact fun _ => rfl | exact cs1 | exact cs2 | exact cs3) (by first | exact fun _ => trivial | (intro h; simp at h; first | exact ⟨by omega, by omega⟩ | omega)) rfl ?_
      | refine r_and rfl rfl rfl rfl rfl rfl rfl rfl ?_
      | refine r_scut_cnd tab_ok rfl rfl rfl rfl rfl rfl rfl rfl (by first | exact fun _ => rfl | exact cs1 | exact cs2 | exact cs3) rfl rfl (by intro h; simp at h ⊢; omega) rfl ?_)
    | refine ret1 (by first | exact .inl rfl | exact .inr rfl) rfl rfl rfl ?_)
  exact Sub.refl _
theorem prefix_ok (s p : ByteArray) (hp : p.size ≤ 1000) (hs : s.size ≤ 4611686018427387904) : PCalls Try.prog 29 [.val (.string s), .val (.string p)] (.val (.bool (decide ((p.size : Int) ≤ s.size) && decide (s.extract 0 p.size = p)))) := by
  refine p_start Try.func29 Try.ntmps29 rfl rfl rfl fun S w => ?_
  repeat (first
    | refine awp_seq ?_
    | refine a_region ?_
    | refine r_done ?_
    | (refine r_id ?_; first
      | refine r_ev tab_ok rfl rfl rfl rfl (by first | exact trivial | exact ⟨by omega, by omega⟩ | omega | exact ⟨by omega, by omega, by omega, by omega⟩ | exact Nat.le_of_ble_eq_true rfl) rfl ?_))
  refine r_call (slprefix_ok s p hp hs) call42 rfl rfl ⟨Sub.refl _, Sub.refl _, trivial⟩ rfl rfl rfl rfl ?_
  repeat (first
    | refine thenA_normal ?_
    | refine awp_ret ?_
    | refine r_done ?_
    | (refine r_id ?_; first
      | refine r_ev tab_ok rfl rfl rfl rfl (by first | exact trivial | exact ⟨by omega, by omega⟩ | omega | exact ⟨by omega, by omega, by omega, by omega⟩ | exact Nat.le_of_ble_eq_true rfl) rfl ?_)
    | refine ret1 (by first | exact .inl rfl | exact .inr rfl) rfl rfl rfl ?_)
  exact Sub.refl _

-- The laying, written out after the kit's tool (lay-plain).
def Try.lays264_ren : Go.Shelf.Ren := ⟨fun | 264 => 41 | n => n, fun | 53 => 43 | 46 => 51 | n => n, fun | n => n⟩
theorem Try.lays264 : Go.Proofs.Lays.n264 Try.prog Try.lays264_ren := {
  mixed := by kernel_rfl
  f264 := Try.func41.trans (congrArg some (by kernel_rfl))
  t46 := Try.underlying51
  a46 := Try.isAgg51
  z46 := Try.sizeOf51
  v46 := Try.zeroValue51
  t53 := Try.underlying43
  a53 := Try.isAgg43
  z53 := Try.sizeOf43
  v53 := Try.zeroValue43 }
theorem mul64_calls (x y : Nat) (hx : x < 18446744073709551616) (hy : y < 18446744073709551616) (w : World) :
    Calls Try.prog 41 #[.int .u64 x, .int .u64 y] w fun e w' => e = .returned (.tuple #[.int .u64 ((x * y / 18446744073709551616 : Nat) : Int), .int .u64 ((x * y % 18446744073709551616 : Nat) : Int)]) ∧ w' = w := Any.bits_Mul64 Try.lays264 x y hx hy w
theorem mul64_ok (x y : Nat) (hx : x < 18446744073709551616) (hy : y < 18446744073709551616) :
    PCalls Try.prog 41 [.val (.int .u64 x), .val (.int .u64 y)] (.tup [.val (.int .u64 ((x * y / 18446744073709551616 : Nat) : Int)), .val (.int .u64 ((x * y % 18446744073709551616 : Nat) : Int))]) := by
  intro S w vs hS hvs
  obtain ⟨v0, r, h1, h2, v1, r', h3, h4, h5⟩ := hvs
  subst h3
  have h2 : v0 = .int .u64 x := h2
  have h4 : v1 = .int .u64 y := h4
  have h5 : r' = [] := h5
  subst h2 h4 h5
  obtain ⟨l⟩ := vs
  simp only at h1
  subst h1
  refine (mul64_calls x y hx hy w).mono fun e w' ⟨he, hw⟩ => ?_
  subst hw
  exact ⟨_, he, Below.refl _ _, _, rfl, _, _, rfl, rfl, _, _, rfl, rfl, rfl⟩
theorem mul_ok (x y : Nat) (hx : x < 18446744073709551616) (hy : y < 18446744073709551616) :
    PCalls Try.prog 28 [.val (.int .u64 x), .val (.int .u64 y)] (.tup [.val (.int .u64 ((x * y / 18446744073709551616 : Nat) : Int)), .val (.int .u64 ((x * y % 18446744073709551616 : Nat) : Int))]) := by
  refine p_start Try.func28 Try.ntmps28 rfl rfl rfl fun S w => ?_
  repeat (first
    | refine awp_seq ?_
    | refine a_region ?_
    | refine awp_skip ?_
    | refine r_done ?_
    | (refine r_id ?_; first
      | refine r_ev tab_ok rfl rfl rfl rfl (by first | exact trivial | exact ⟨by omega, by omega⟩ | omega | exact ⟨by omega, by omega, by omega, by omega⟩ | exact Nat.le_of_ble_eq_true rfl) rfl ?_)
    | refine awp_cond_f rfl ?_)
  refine r_call (mul64_ok x y hx hy) call41 rfl rfl ⟨Sub.refl _, Sub.refl _, trivial⟩ rfl rfl rfl rfl ?_
  repeat (first
    | refine awp_seq ?_
    | refine thenA_normal ?_
    | refine a_region ?_
    | refine awp_ret ?_
    | refine r_done ?_
    | (refine r_id ?_; first
      | refine r_ev tab_ok rfl rfl rfl rfl (by first | exact trivial | exact ⟨by omega, by omega⟩ | omega | exact ⟨by omega, by omega, by omega, by omega⟩ | exact Nat.le_of_ble_eq_true rfl) rfl ?_)
    | refine ret2 (by first | exact .inl rfl | exact .inr rfl) rfl rfl rfl rfl ?_ ?_)
  · exact Sub.refl _
  · exact Sub.refl _
theorem under30 : Try.prog.underlying 30 = some (.slice 5) := by kernel_rfl
/-- (*strings.Builder).grow of a builder that is empty. -/
theorem grow_ok (n : Nat) (hn : n ≤ 1000000) : MCalls Try.prog 44 [.box 57 [.ptr 0 0, .val (.slice none 0 0)]] [.ptr 0 0, .val (.int .i64 n)] [.box 57 [.ptr 0 0, .row 1 1], .row 1 5 1 []] (.tup []) := by
  refine mcalls_ofn Try.func44 Try.ntmps44 rfl rfl rfl 2 (by decide) fun S w β => ?_
  repeat (first
    | refine awp_seq ?_)
  refine a_draw mixed_ok [0, 0, 0, 1, 1, 0, 0, 0, 3, 0, 0, 0, 4, 0, 1, 0] (by kernel_rfl) ?_
  repeat (first
    | (refine r_id ?_; first
      | refine r_ev tab_ok rfl rfl rfl rfl (by first | exact trivial | exact ⟨by omega, by omega⟩ | omega | exact ⟨by omega, by omega, by omega, by omega⟩ | exact Nat.le_of_ble_eq_true rfl) rfl ?_
      | refine r_ld tab_ok rfl rfl rfl rfl rfl ?_
      | refine r_nilck rfl rfl rfl rfl rfl rfl rfl ?_))
  refine r_by1 (astep_cap0 tab_ok rfl rfl rfl) rfl rfl rfl rfl rfl ?_
  repeat (first
    | (refine r_id ?_; first
      | refine r_ev tab_ok rfl rfl rfl rfl (by first | exact trivial | exact ⟨by omega, by omega⟩ | omega | exact ⟨by omega, by omega, by omega, by omega⟩ | exact Nat.le_of_ble_eq_true rfl) rfl ?_))
  have e : (2 * 0 + (n : Int)) = n := by omega
  rw [e]
  refine r_push (astep_nozero Try.func47 rfl rfl rfl rfl under30 rfl rfl (by omega)) rfl rfl rfl rfl rfl rfl ?_
  repeat (first
    | (refine r_id ?_; first
      | refine r_ev tab_ok rfl rfl rfl rfl (by first | exact trivial | exact ⟨by omega, by omega⟩ | omega | exact ⟨by omega, by omega, by omega, by omega⟩ | exact Nat.le_of_ble_eq_true rfl) rfl ?_
      | refine r_nilck rfl rfl rfl rfl rfl rfl rfl ?_))
  refine r_ld0 tab_ok rfl rfl rfl rfl rfl rfl rfl ?_
  repeat (first
    | (refine r_id ?_; first
      | refine r_ev tab_ok rfl rfl rfl rfl (by first | exact trivial | exact ⟨by omega, by omega⟩ | omega | exact ⟨by omega, by omega, by omega, by omega⟩ | exact Nat.le_of_ble_eq_true rfl) rfl ?_))
  refine r_by1 (astep_vwcut tab_ok rfl rfl rfl rfl rfl) rfl rfl rfl rfl rfl ?_
  repeat (first
    | refine awp_seq ?_
    | refine a_region ?_
    | refine r_done' ?_
    | (refine r_id ?_; first
      | refine r_ev tab_ok rfl rfl rfl rfl (by first | exact trivial | exact ⟨by omega, by omega⟩ | omega | exact ⟨by omega, by omega, by omega, by omega⟩ | exact Nat.le_of_ble_eq_true rfl) rfl ?_
      | refine r_ld tab_ok rfl rfl rfl rfl rfl ?_
      | refine r_nilck rfl rfl rfl rfl rfl rfl rfl ?_))
  refine r_by1 (astep_copy0 tab_ok rfl rfl rfl rfl rfl rfl) rfl rfl rfl rfl rfl ?_
  repeat (first
    | refine thenA_normal ?_
    | refine a_region ?_
    | refine r_done ?_
    | (refine r_id ?_; first
      | refine r_ev tab_ok rfl rfl rfl rfl (by first | exact trivial | exact ⟨by omega, by omega⟩ | omega | exact ⟨by omega, by omega, by omega, by omega⟩ | exact Nat.le_of_ble_eq_true rfl) rfl ?_
      | refine r_st tab_ok rfl rfl rfl rfl ?_
      | refine r_nilck rfl rfl rfl rfl rfl rfl rfl ?_)
    | exact retM0 (by first | exact .inl rfl | exact .inr rfl) rfl rfl rfl)
theorem check_nil0 : MCalls Try.prog 43 [.box 57 [.val (.pointer none), .val (.slice none 0 0)]] [.ptr 0 0] [.box 57 [.ptr 0 0, .val (.slice none 0 0)]] (.tup []) := by
  refine m_start Try.func43 Try.ntmps43 rfl rfl rfl fun S w β => ?_
  repeat (first
    | refine awp_seq ?_
    | refine a_region ?_
    | (refine r_id ?_; first
      | refine r_ev tab_ok rfl rfl rfl rfl (by first | exact trivial | exact ⟨by omega, by omega⟩ | omega | exact ⟨by omega, by omega, by omega, by omega⟩ | exact Nat.le_of_ble_eq_true rfl) rfl ?_
      | refine r_ld tab_ok rfl rfl rfl rfl rfl ?_
      | refine r_nilck rfl rfl rfl rfl rfl rfl rfl ?_))
  refine r_by (fun _ => astep_eqnil_nil under55 rfl rfl rfl) rfl rfl rfl rfl rfl ?_
  repeat (first
    | refine thenA_normal ?_
    | refine a_region ?_
    | refine r_done ?_
    | (refine r_id ?_; first
      | refine r_ev tab_ok rfl rfl rfl rfl (by first | exact trivial | exact ⟨by omega, by omega⟩ | omega | exact ⟨by omega, by omega, by omega, by omega⟩ | exact Nat.le_of_ble_eq_true rfl) rfl ?_)
    | refine awp_cond_t rfl ?_)
  refine r_by1 (astep_tounsafe tab_ok under55 under80 rfl rfl rfl rfl rfl) rfl rfl rfl rfl rfl ?_
  refine r_by (fun _ => astep_noescape Try.func46 rfl rfl rfl rfl rfl) rfl rfl rfl rfl rfl ?_
  refine r_by1 (astep_fromunsafe tab_ok under80 under55 rfl rfl rfl rfl lies57) rfl rfl rfl rfl rfl ?_
  repeat (first
    | refine r_done ?_
    | (refine r_id ?_; first
      | refine r_ev tab_ok rfl rfl rfl rfl (by first | exact trivial | exact ⟨by omega, by omega⟩ | omega | exact ⟨by omega, by omega, by omega, by omega⟩ | exact Nat.le_of_ble_eq_true rfl) rfl ?_
      | refine r_st tab_ok rfl rfl rfl rfl ?_
      | refine r_nilck rfl rfl rfl rfl rfl rfl rfl ?_)
    | exact retM0 (by first | exact .inl rfl | exact .inr rfl) rfl rfl rfl)
/-- (*strings.Builder).Grow of a fresh builder. -/
theorem growm_ok (n : Nat) (h1 : 1 ≤ n) (hn : n ≤ 1000000) : MCalls Try.prog 30 [.box 57 [.val (.pointer none), .val (.slice none 0 0)]] [.ptr 0 0, .val (.int .i64 n)] [.box 57 [.ptr 0 0, .row 1 1], .row 1 5 1 []] (.tup []) := by
  refine mcalls_ofn Try.func30 Try.ntmps30 rfl rfl rfl 2 (by decide) fun S w β => ?_
  repeat (first
    | refine awp_seq ?_
    | refine a_region ?_
    | (refine r_id ?_; first
      | refine r_ev tab_ok rfl rfl rfl rfl (by first | exact trivial | exact ⟨by omega, by omega⟩ | omega | exact ⟨by omega, by omega, by omega, by omega⟩ | exact Nat.le_of_ble_eq_true rfl) rfl ?_))
  refine r_mcall [0] check_nil0 call43 rfl rfl ⟨rfl, trivial⟩ (by decide) ⟨Sub.refl _, trivial⟩ rfl rfl rfl rfl rfl rfl rfl ?_
  repeat (first
    | refine awp_seq ?_
    | refine thenA_normal ?_
    | refine a_region ?_
    | refine a_draw1 mixed_ok (by kernel_rfl) ?_
    | refine awp_skip ?_
    | refine r_done ?_
    | (refine r_id ?_; first
      | refine r_ev tab_ok rfl rfl rfl rfl (by first | exact trivial | exact ⟨by omega, by omega⟩ | omega | exact ⟨by omega, by omega, by omega, by omega⟩ | exact Nat.le_of_ble_eq_true rfl) rfl ?_
      | refine r_ld tab_ok rfl rfl rfl rfl rfl ?_
      | refine r_nilck rfl rfl rfl rfl rfl rfl rfl ?_)
    | refine awp_cond_f rfl ?_)
  refine r_by1 (astep_cap0 tab_ok rfl rfl rfl) rfl rfl rfl rfl rfl ?_
  repeat (first
    | refine thenA_normal ?_
    | refine r_done' ?_
    | (refine r_id ?_; first
      | refine r_ev tab_ok rfl rfl rfl rfl (by first | exact trivial | exact ⟨by omega, by omega⟩ | omega | exact ⟨by omega, by omega, by omega, by omega⟩ | exact Nat.le_of_ble_eq_true rfl) rfl ?_
      | refine r_ld tab_ok rfl rfl rfl rfl rfl ?_
      | refine r_nilck rfl rfl rfl rfl rfl rfl rfl ?_))
  refine awp_cond_p rfl (fun _ => ?_) (fun h => absurd h (by omega))
  repeat (first
    | refine a_region ?_
    | (refine r_id ?_; first
      | refine r_ev tab_ok rfl rfl rfl rfl (by first | exact trivial | exact ⟨by omega, by omega⟩ | omega | exact ⟨by omega, by omega, by omega, by omega⟩ | exact Nat.le_of_ble_eq_true rfl) rfl ?_))
  refine r_mcallx [0] 1 (grow_ok n hn) call44 rfl rfl ⟨rfl, trivial⟩ (by decide) (by decide) ⟨Sub.refl _, Sub.refl _, trivial⟩ rfl rfl rfl rfl rfl rfl rfl ?_
  repeat (first
    | refine r_done ?_
    | exact retM0 (by first | exact .inl rfl | exact .inr rfl) rfl rfl rfl)
  trace_state
end Go.Proofs.Ytgkcliecgmhmfaa
