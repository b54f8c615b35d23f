/- Counter styles: the plain functions; slices' searches. Numbers of law9's seat. -/
import Derived.Test.YtgkcliecgmhmfaaCb
import Derived.Test.YtgkcliecgmhmfaaD
import Derived.Test.YtgkcliecgmhmfaaG2
import Derived.Test.YtgkcliecgmhmfaaG3
namespace Go.Proofs.Ytgkcliecgmhmfaa
open Go Go.RowKit

structure Df where
  name : ByteArray
  sys : ByteArray
  first : Int
  syms : List ByteArray
  ws : List Int
  neg0 : ByteArray
  neg1 : ByteArray
  pre : ByteArray
  suf : ByteArray
  auto : Bool
  rng : List (Int × Int)
  pad : Int
  padS : ByteArray
  fall : ByteArray
  ext : ByteArray
  said : Int
def sD (s : ByteArray) : D := .val (.string s)
def rgD (r : Int × Int) : D := .ag [.val (.int .i64 r.1), .val (.int .i64 r.2)]
def dfC (d : Df) : List AV := [.val (.string d.name), .val (.string d.sys), .val (.int .i64 d.first), .sl 1 (d.syms.map sD), .sl 1 (d.ws.map iD), .val (.string d.neg0), .val (.string d.neg1), .val (.string d.pre), .val (.string d.suf), .val (.bool d.auto), .sl 2 (d.rng.map rgD), .val (.int .i64 d.pad), .val (.string d.padS), .val (.string d.fall), .val (.string d.ext), .val (.int .i64 d.said)]
def dfA (d : Df) : AV := .agg (dfC d)

def ustr (l : List UInt8) : ByteArray := ⟨l.toArray⟩
def cyclicS : ByteArray := ⟨#[99, 121, 99, 108, 105, 99]⟩
def symbolicS : ByteArray := ⟨#[115, 121, 109, 98, 111, 108, 105, 99]⟩
def fixedS : ByteArray := ⟨#[102, 105, 120, 101, 100]⟩
def alphabeticS : ByteArray := ⟨#[97, 108, 112, 104, 97, 98, 101, 116, 105, 99]⟩
def numericS : ByteArray := ⟨#[110, 117, 109, 101, 114, 105, 99]⟩
def additiveS : ByteArray := ⟨#[97, 100, 100, 105, 116, 105, 118, 101]⟩
def extendsS : ByteArray := ⟨#[101, 120, 116, 101, 110, 100, 115]⟩

theorem round_eq (k n : Int) (hn : 0 < n) : (k.tmod n + n).tmod n = k % n := by
  have h1 := Int.tmod_lt_of_pos k hn
  have h2 := Int.lt_tmod_of_pos k hn
  rw [Int.tmod_eq_emod_of_nonneg (by omega), Int.add_emod_right, Int.tmod_eq_emod]
  split
  · simp
  · rw [Int.sub_emod, Int.emod_emod_of_dvd _ (Int.dvd_refl n)]
    have : ((n.natAbs : Int)) % n = 0 := by rw [Int.natAbs_of_nonneg (by omega)]; exact Int.emod_self
    rw [this]; simp
theorem round_ok (k n : Int) (hn0 : 0 < n) (hn : n ≤ 4611686018427387904) : PCalls Try.prog 12 [.val (.int .i64 k), .val (.int .i64 n)] (.val (.int .i64 (k % n))) := by
  refine p_start Try.func12 Try.ntmps12 rfl rfl rfl fun S w => ?_
  have h1 := Int.tmod_lt_of_pos k hn0
  have h2 := Int.lt_tmod_of_pos k hn0
  have h3 := round_eq k n hn0
  repeat (first
    | refine awp_seq ?_
    | refine thenA_normal ?_
    | refine a_region ?_
    | refine awp_ret ?_
    | refine r_done ?_
    | (refine r_id ?_; first
      | refine r_ev tab_ok rfl rfl rfl rfl (by first | exact trivial | exact ⟨by omega, by omega⟩ | omega | exact ⟨by omega, by omega, by omega, by omega⟩ | exact Nat.le_of_ble_eq_true rfl) rfl ?_
      | refine r_rem rfl rfl rfl rfl rfl rfl (by omega) rfl ?_)
    | refine ret1 (by first | exact .inl rfl | exact .inr rfl) rfl rfl rfl ?_)
  generalize k.tmod n = t at h1 h2 h3 ⊢
  exact Sub.of_eq (by rw [← h3, Int.tmod_eq_emod_of_nonneg (by omega)])
def usesF (d : Df) (n : Int) : Bool := (decide (d.sys = symbolicS) || decide (d.sys = alphabeticS) || decide (d.sys = numericS) || decide (d.sys = additiveS)) && decide (n < 0)
theorem uses_ok (d : Df) (n : Int) : PCalls Try.prog 15 [dfA d, .val (.int .i64 n)] (.val (.bool (usesF d n))) := by
  refine p_start Try.func15 Try.ntmps15 rfl rfl rfl fun S w => ?_
  obtain ⟨name, sys, first, syms, ws, neg0, neg1, pre, suf, auto, rng, pad, padS, fall, ext, said⟩ := d
  by_cases h1 : sys = symbolicS
  · subst h1
    repeat (first
      | refine awp_seq ?_
      | refine thenA_normal ?_
      | refine awp_block ?_
      | refine a_region ?_
      | refine awp_ret ?_
      | refine thenA_ret ?_
      | refine blockA_ret ?_
      | refine awp_skip ?_
      | refine r_done ?_
      | (refine r_id ?_; first
        | refine r_ev tab_ok rfl rfl rfl rfl (by first | exact trivial | exact ⟨by omega, by omega⟩ | omega | exact ⟨by omega, by omega, by omega, by omega⟩ | exact Nat.le_of_ble_eq_true rfl) rfl ?_
        | refine r_ld tab_ok rfl rfl rfl rfl rfl ?_
        | refine r_wr tab_ok rfl rfl rfl rfl rfl ?_)
      | refine ret1 (by first | exact .inl rfl | exact .inr rfl) rfl rfl rfl ?_
      | refine awp_cond_t rfl ?_)
    exact Sub.refl _
  by_cases h2 : sys = alphabeticS
  · subst h2
    repeat (first
      | refine awp_seq ?_
      | refine thenA_normal ?_
      | refine awp_block ?_
      | refine a_region ?_
      | refine awp_ret ?_
      | refine thenA_ret ?_
      | refine blockA_ret ?_
      | refine awp_skip ?_
      | refine r_done ?_
      | (refine r_id ?_; first
        | refine r_ev tab_ok rfl rfl rfl rfl (by first | exact trivial | exact ⟨by omega, by omega⟩ | omega | exact ⟨by omega, by omega, by omega, by omega⟩ | exact Nat.le_of_ble_eq_true rfl) rfl ?_
        | refine r_ld tab_ok rfl rfl rfl rfl rfl ?_
        | refine r_wr tab_ok rfl rfl rfl rfl rfl ?_)
      | refine ret1 (by first | exact .inl rfl | exact .inr rfl) rfl rfl rfl ?_
      | refine awp_cond_t rfl ?_
      | refine awp_cond_f rfl ?_)
    exact Sub.refl _
  by_cases h3 : sys = numericS
  · subst h3
    repeat (first
      | refine awp_seq ?_
      | refine thenA_normal ?_
      | refine awp_block ?_
      | refine a_region ?_
      | refine awp_ret ?_
      | refine thenA_ret ?_
      | refine blockA_ret ?_
      | refine awp_skip ?_
      | refine r_done ?_
      | (refine r_id ?_; first
        | refine r_ev tab_ok rfl rfl rfl rfl (by first | exact trivial | exact ⟨by omega, by omega⟩ | omega | exact ⟨by omega, by omega, by omega, by omega⟩ | exact Nat.le_of_ble_eq_true rfl) rfl ?_
        | refine r_ld tab_ok rfl rfl rfl rfl rfl ?_
        | refine r_wr tab_ok rfl rfl rfl rfl rfl ?_)
      | refine ret1 (by first | exact .inl rfl | exact .inr rfl) rfl rfl rfl ?_
      | refine awp_cond_t rfl ?_
      | refine awp_cond_f rfl ?_)
    exact Sub.refl _
  by_cases h4 : sys = additiveS
  · subst h4
    repeat (first
      | refine awp_seq ?_
      | refine thenA_normal ?_
      | refine awp_block ?_
      | refine a_region ?_
      | refine awp_ret ?_
      | refine thenA_ret ?_
      | refine blockA_ret ?_
      | refine r_done ?_
      | (refine r_id ?_; first
        | refine r_ev tab_ok rfl rfl rfl rfl (by first | exact trivial | exact ⟨by omega, by omega⟩ | omega | exact ⟨by omega, by omega, by omega, by omega⟩ | exact Nat.le_of_ble_eq_true rfl) rfl ?_
        | refine r_ld tab_ok rfl rfl rfl rfl rfl ?_
        | refine r_wr tab_ok rfl rfl rfl rfl rfl ?_)
      | refine ret1 (by first | exact .inl rfl | exact .inr rfl) rfl rfl rfl ?_
      | refine awp_cond_t rfl ?_
      | refine awp_cond_f rfl ?_)
    exact Sub.refl _
  repeat (first
    | refine awp_seq ?_
    | refine thenA_normal ?_
    | refine awp_block ?_
    | refine a_region ?_
    | refine r_done ?_
    | (refine r_id ?_; first
      | refine r_ev tab_ok rfl rfl rfl rfl (by first | exact trivial | exact ⟨by omega, by omega⟩ | omega | exact ⟨by omega, by omega, by omega, by omega⟩ | exact Nat.le_of_ble_eq_true rfl) rfl ?_
      | refine r_ld tab_ok rfl rfl rfl rfl rfl ?_
      | refine r_wr tab_ok rfl rfl rfl rfl rfl ?_))
  refine awp_cond_p rfl (fun h => absurd h h1) (fun _ => ?_)
  repeat (first
    | refine awp_seq ?_
    | refine thenA_normal ?_
    | refine a_region ?_
    | refine r_done ?_
    | (refine r_id ?_; first
      | refine r_ev tab_ok rfl rfl rfl rfl (by first | exact trivial | exact ⟨by omega, by omega⟩ | omega | exact ⟨by omega, by omega, by omega, by omega⟩ | exact Nat.le_of_ble_eq_true rfl) rfl ?_))
  refine awp_cond_p rfl (fun h => absurd h h2) (fun _ => ?_)
  repeat (first
    | refine awp_seq ?_
    | refine thenA_normal ?_
    | refine a_region ?_
    | refine r_done ?_
    | (refine r_id ?_; first
      | refine r_ev tab_ok rfl rfl rfl rfl (by first | exact trivial | exact ⟨by omega, by omega⟩ | omega | exact ⟨by omega, by omega, by omega, by omega⟩ | exact Nat.le_of_ble_eq_true rfl) rfl ?_))
  refine awp_cond_p rfl (fun h => absurd h h3) (fun _ => ?_)
  repeat (first
    | refine thenA_normal ?_
    | refine a_region ?_
    | refine r_done ?_
    | (refine r_id ?_; first
      | refine r_ev tab_ok rfl rfl rfl rfl (by first | exact trivial | exact ⟨by omega, by omega⟩ | omega | exact ⟨by omega, by omega, by omega, by omega⟩ | exact Nat.le_of_ble_eq_true rfl) rfl ?_))
  refine awp_cond_p rfl (fun h => absurd h h4) (fun _ => ?_)
  repeat (first
    | refine awp_seq ?_
    | refine thenA_normal ?_
    | refine a_region ?_
    | refine awp_ret ?_
    | refine awp_skip ?_
    | refine r_done ?_
    | (refine r_id ?_; first
      | refine r_ev tab_ok rfl rfl rfl rfl (by first | exact trivial | exact ⟨by omega, by omega⟩ | omega | exact ⟨by omega, by omega, by omega, by omega⟩ | exact Nat.le_of_ble_eq_true rfl) rfl ?_)
    | refine ret1 (by first | exact .inl rfl | exact .inr rfl) rfl rfl rfl ?_)
  exact Sub.of_eq (by simp [usesF, h1, h2, h3, h4])
theorem map2_ok (b : Bool) : PCalls Try.prog 17 [.val (.bool b)] (.val (.int .i64 (if b then 1 else 0))) := by
  refine p_start Try.func17 Try.ntmps17 rfl rfl rfl fun S w => ?_
  repeat (first
    | refine awp_seq ?_
    | refine thenA_normal ?_
    | refine a_region ?_
    | refine r_done ?_
    | (refine r_id ?_; first
      | refine r_ev tab_ok rfl rfl rfl rfl (by first | exact trivial | exact ⟨by omega, by omega⟩ | omega | exact ⟨by omega, by omega, by omega, by omega⟩ | exact Nat.le_of_ble_eq_true rfl) rfl ?_))
  cases b
  · repeat (first
      | refine awp_seq ?_
      | refine thenA_normal ?_
      | refine a_region ?_
      | refine awp_ret ?_
      | refine awp_skip ?_
      | refine r_done ?_
      | (refine r_id ?_; first
        | refine r_ev tab_ok rfl rfl rfl rfl (by first | exact trivial | exact ⟨by omega, by omega⟩ | omega | exact ⟨by omega, by omega, by omega, by omega⟩ | exact Nat.le_of_ble_eq_true rfl) rfl ?_)
      | refine ret1 (by first | exact .inl rfl | exact .inr rfl) rfl rfl rfl ?_
      | refine awp_cond_f rfl ?_)
    exact Sub.refl _
  · repeat (first
      | refine awp_seq ?_
      | refine thenA_normal ?_
      | refine a_region ?_
      | refine awp_ret ?_
      | refine thenA_ret ?_
      | refine r_done ?_
      | (refine r_id ?_; first
        | refine r_ev tab_ok rfl rfl rfl rfl (by first | exact trivial | exact ⟨by omega, by omega⟩ | omega | exact ⟨by omega, by omega, by omega, by omega⟩ | exact Nat.le_of_ble_eq_true rfl) rfl ?_)
      | refine ret1 (by first | exact .inl rfl | exact .inr rfl) rfl rfl rfl ?_
      | refine awp_cond_t rfl ?_)
    exact Sub.refl _
theorem long_ok (s : ByteArray) : PCalls Try.prog 24 [.val (.string s)] (.val (.bool (decide (100 < (s.size : Int))))) := by
  refine p_start Try.func24 Try.ntmps24 rfl rfl rfl fun S w => ?_
  repeat (first
    | refine awp_seq ?_
    | refine thenA_normal ?_
    | refine a_region ?_
    | refine awp_ret ?_
    | refine r_done ?_
    | (refine r_id ?_; first
      | refine r_ev tab_ok rfl rfl rfl rfl (by first | exact trivial | exact ⟨by omega, by omega⟩ | omega | exact ⟨by omega, by omega, by omega, by omega⟩ | exact Nat.le_of_ble_eq_true rfl) rfl ?_)
    | refine ret1 (by first | exact .inl rfl | exact .inr rfl) rfl rfl rfl ?_)
  exact Sub.refl _
theorem mayr_ok (r : Int × Int) : PCalls Try.prog 26 [.agg [.val (.int .i64 r.1), .val (.int .i64 r.2)]] (.val (.bool (decide (r.2 < r.1) || decide (r.1 < -2147483648) || decide (2147483647 < r.2)))) := by
  refine p_start Try.func26 Try.ntmps26 rfl rfl rfl fun S w => ?_
  repeat (first
    | refine awp_seq ?_
    | refine thenA_normal ?_
    | refine a_region ?_
    | refine awp_ret ?_
    | refine r_done ?_
    | (refine r_id ?_; first
      | refine r_ev tab_ok rfl rfl rfl rfl (by first | exact trivial | exact ⟨by omega, by omega⟩ | omega | exact ⟨by omega, by omega, by omega, by omega⟩ | exact Nat.le_of_ble_eq_true rfl) rfl ?_
      | refine r_ld tab_ok rfl rfl rfl rfl rfl ?_
      | refine r_wr tab_ok rfl rfl rfl rfl rfl ?_
      | refine r_ev_cnd tab_ok rfl rfl rfl rfl rfl rfl (by first | exact fun _ => rfl | exact cs1 | exact cs2 | exact cs3) (by first | exact fun _ => trivial | (intro h; simp at h; first | exact ⟨by omega, by omega⟩ | omega)) rfl ?_
      | refine r_ld_cnd tab_ok rfl rfl rfl rfl rfl rfl (by first | exact fun _ => rfl | exact cs1 | exact cs2 | exact cs3) rfl ?_
      | refine r_or rfl rfl rfl rfl rfl rfl rfl rfl ?_
      | refine r_idxa tab_ok rfl rfl rfl rfl (by decide) rfl rfl rfl rfl ?_
      | refine r_idxa_cnd tab_ok rfl rfl rfl rfl rfl rfl (by decide) rfl rfl rfl (by first | exact fun _ => rfl | exact cs1 | exact cs2 | exact cs3) rfl ?_)
    | refine ret1 (by first | exact .inl rfl | exact .inr rfl) rfl rfl rfl ?_)
  exact Sub.refl _
theorem made_ok (s : ByteArray) (l : List ByteArray) : PCalls Try.prog 10 [.val (.string s), .sl 1 (l.map sD)] (dfA ⟨⟨#[]⟩, s, 1, l, [], ⟨#[]⟩, ⟨#[]⟩, ⟨#[]⟩, ⟨#[]⟩, true, [], 0, ⟨#[]⟩, ⟨#[]⟩, ⟨#[]⟩, 0⟩) := by
  refine p_start Try.func10 Try.ntmps10 rfl rfl rfl fun S w => ?_
  repeat (first
    | refine awp_seq ?_
    | refine thenA_normal ?_
    | refine a_region ?_
    | refine awp_ret ?_
    | refine r_done ?_
    | (refine r_id ?_; first
      | refine r_ev tab_ok rfl rfl rfl rfl (by first | exact trivial | exact ⟨by omega, by omega⟩ | omega | exact ⟨by omega, by omega, by omega, by omega⟩ | exact Nat.le_of_ble_eq_true rfl) rfl ?_
      | refine r_wr tab_ok rfl rfl rfl rfl rfl ?_
      | refine r_st tab_ok rfl rfl rfl rfl ?_
      | refine r_build tab_ok rfl rfl rfl rfl rfl rfl ?_))
  exact ret1c tab_ok (by first | exact .inl rfl | exact .inr rfl) rfl rfl rfl rfl rfl rfl (Sub.agg (by repeat' first | exact trivial | exact Sub.refl _ | exact Sub.nil _ | refine Sub.agg ?_ | apply And.intro))
/-- Weights that fall. -/
def fallF : List Int → Bool
  | [] => true
  | [a] => decide (0 ≤ a)
  | a :: b :: r => decide (0 ≤ a) && decide (b < a) && fallF (b :: r)
def fallAt (l : List Int) (i : Nat) : Bool := decide (0 ≤ l.getD i 0) && (decide (i = 0) || decide (l.getD i 0 < l.getD (i - 1) 0))
theorem fall_all : ∀ (l : List Int), fallF l = (List.range l.length).all (fallAt l)
  | [] => rfl
  | [a] => by simp [fallF, fallAt, List.range_succ]
  | a :: b :: r => by
    rw [fallF, fall_all (b :: r)]
    rw [Bool.eq_iff_iff]
    simp only [Bool.and_eq_true, List.all_eq_true, List.mem_range, decide_eq_true_eq, fallAt, Bool.or_eq_true, List.length_cons]
    constructor
    · rintro ⟨⟨h1, h2⟩, h3⟩ i hi
      match i with
      | 0 => exact ⟨by simpa using h1, .inl rfl⟩
      | 1 => exact ⟨by have := (h3 0 (by omega)).1; simpa using this, .inr (by simpa using h2)⟩
      | i + 2 =>
        obtain ⟨h4, h5⟩ := h3 (i + 1) (by omega)
        exact ⟨by simpa using h4, .inr (by rcases h5 with h | h; omega; simpa using h)⟩
    · intro h
      refine ⟨⟨by simpa using (h 0 (by omega)).1, ?_⟩, fun i hi => ?_⟩
      · rcases (h 1 (by omega)).2 with h | h
        · omega
        · simpa using h
      · obtain ⟨h4, h5⟩ := h (i + 1) (by omega)
        refine ⟨by simpa using h4, ?_⟩
        rcases Nat.eq_zero_or_pos i with h0 | h0
        · exact .inl h0
        · obtain ⟨j, rfl⟩ : ∃ j, i = j + 1 := ⟨i - 1, by omega⟩
          rcases h5 with h | h
          · omega
          · exact .inr (by simpa using h)
theorem falling_ok (l : List Int) (hl : l.length ≤ 4611686018427387904) : PCalls Try.prog 37 [.sl 1 (l.map iD)] (.val (.bool (fallF l))) := by
  refine p_start Try.func37 Try.ntmps37 rfl rfl rfl fun S w => ?_
  repeat (first
    | refine awp_seq ?_
    | refine thenA_normal ?_
    | refine awp_block ?_
    | refine a_region ?_
    | refine r_done ?_
    | (refine r_id ?_; first
      | refine r_len tab_ok rfl rfl rfl rfl rfl rfl rfl ?_
      | refine r_ev tab_ok rfl rfl rfl rfl (by first | exact trivial | exact ⟨by omega, by omega⟩ | omega | exact ⟨by omega, by omega, by omega, by omega⟩ | exact Nat.le_of_ble_eq_true rfl) rfl ?_))
  refine a_loop (σ := {i : Nat // i ≤ l.length ∧ (List.range i).all (fallAt l) = true}) (fun _ => []) (fun x => [(0, .sl 1 (l.map iD)), (5, .sl 1 (l.map iD)), (6, .val (.int .i64 l.length)), (7, .val (.int .i64 x.1))]) (fun x => l.length - x.1) ⟨0, by simp⟩
    (fits_of rfl ⟨Sub.refl _, Sub.refl _, Sub.refl _, Sub.refl _, trivial⟩) ?_
  rintro ⟨i, hi, hall⟩
  dsimp only
  repeat (first
    | refine awp_seq ?_
    | refine a_region ?_
    | refine r_done ?_
    | (refine r_id ?_; first
      | refine r_ev tab_ok rfl rfl rfl rfl (by first | exact trivial | exact ⟨by omega, by omega⟩ | omega | exact ⟨by omega, by omega, by omega, by omega⟩ | exact Nat.le_of_ble_eq_true rfl) rfl ?_))
  refine awp_cond_p rfl (fun hlt => ?_) (fun hge => ?_)
  · have hi' : i < l.length := by omega
    have hg0 : l.getD i 0 = l[i] := by simp [hi']
    repeat (first
      | refine awp_seq ?_
      | refine thenA_normal ?_
      | refine awp_block ?_
      | refine a_region ?_
      | refine awp_skip ?_
      | refine r_done ?_
      | (refine r_id ?_; first
        | refine r_ev tab_ok rfl rfl rfl rfl (by first | exact trivial | exact ⟨by omega, by omega⟩ | omega | exact ⟨by omega, by omega, by omega, by omega⟩ | exact Nat.le_of_ble_eq_true rfl) rfl ?_
        | refine r_idx tab_ok rfl rfl rfl rfl rfl rfl rfl (by first | exact ⟨by omega, by omega⟩ | (simp; omega)) rfl rfl ?_
        | refine r_ev_cnd tab_ok rfl rfl rfl rfl rfl rfl (by first | exact fun _ => rfl | exact cs1 | exact cs2 | exact cs3) (by first | exact fun _ => trivial | (intro h; simp at h; first | exact ⟨by omega, by omega⟩ | omega)) rfl ?_
        | refine r_idx_cnd' tab_ok rfl rfl rfl rfl rfl rfl rfl (by first | exact fun _ => rfl | exact cs1 | exact cs2) rfl rfl (by intro h; simp at h; exact ⟨by omega, by omega⟩) rfl rfl ?_
        | refine r_and_cnd rfl rfl rfl rfl rfl rfl rfl rfl rfl rfl ?_
        | refine r_or rfl rfl rfl rfl rfl rfl rfl rfl ?_))
    simp only [Int.toNat_natCast]
    refine awp_cond rfl (fun hb => ?_) (fun hb => ?_)
    · repeat (first
        | refine awp_seq ?_
        | refine thenA_normal ?_
        | refine a_region ?_
        | refine awp_ret ?_
        | refine thenA_ret ?_
        | refine blockA_ret ?_
        | refine r_done ?_
        | (refine r_id ?_; first
          | refine r_ev tab_ok rfl rfl rfl rfl (by first | exact trivial | exact ⟨by omega, by omega⟩ | omega | exact ⟨by omega, by omega, by omega, by omega⟩ | exact Nat.le_of_ble_eq_true rfl) rfl ?_)
        | refine ret1 (by first | exact .inl rfl | exact .inr rfl) rfl rfl rfl ?_)
      exact Sub.of_eq (by
        have : fallF l = false := by
          rw [fall_all, Bool.eq_false_iff]
          intro h
          rw [List.all_eq_true] at h
          have h1 := h i (List.mem_range.2 hi')
          simp only [fallAt, hg0, Bool.and_eq_true, Bool.or_eq_true, decide_eq_true_eq] at h1
          simp only [Bool.or_eq_true, Bool.and_eq_true, decide_eq_true_eq] at hb
          rcases hb with hb | ⟨hb, hb2⟩
          · omega
          · have e1 : (((i : Int) - 1).toNat) = i - 1 := by omega
            rw [e1] at hb2
            have e2 : l.getD (i - 1) default = l.getD (i - 1) 0 := rfl
            rw [e2] at hb2
            omega
        rw [this])
    · have hs : (List.range (i + 1)).all (fallAt l) = true := by
        rw [List.range_succ, List.all_append, hall]
        simp only [Bool.or_eq_false_iff, Bool.and_eq_false_iff, decide_eq_false_iff_not] at hb
        simp only [List.all_cons, List.all_nil, Bool.and_true, Bool.true_and, fallAt, hg0, Bool.and_eq_true, Bool.or_eq_true, decide_eq_true_eq]
        refine ⟨by omega, ?_⟩
        rcases hb.2 with h | h
        · exact .inl (by omega)
        · right
          have e1 : (((i : Int) - 1).toNat) = i - 1 := by omega
          rw [e1] at h
          have e2 : l.getD (i - 1) default = l.getD (i - 1) 0 := rfl
          rw [e2] at h
          omega
      repeat (first
        | refine thenA_normal ?_
        | refine a_region ?_
        | refine awp_skip ?_
        | refine r_done ?_
        | (refine r_id ?_; first
          | refine r_ev tab_ok rfl rfl rfl rfl (by first | exact trivial | exact ⟨by omega, by omega⟩ | omega | exact ⟨by omega, by omega, by omega, by omega⟩ | exact Nat.le_of_ble_eq_true rfl) rfl ?_))
      exact ⟨⟨i + 1, by omega, hs⟩, by dsimp only; omega, fits_of rfl ⟨Sub.refl _, Sub.refl _, Sub.refl _, Sub.refl _, trivial⟩⟩
  · have : i = l.length := by omega
    subst this
    repeat (first
      | refine awp_seq ?_
      | refine thenA_normal ?_
      | refine a_region ?_
      | refine awp_ret ?_
      | refine awp_exit ?_
      | refine r_done ?_
      | (refine r_id ?_; first
        | refine r_ev tab_ok rfl rfl rfl rfl (by first | exact trivial | exact ⟨by omega, by omega⟩ | omega | exact ⟨by omega, by omega, by omega, by omega⟩ | exact Nat.le_of_ble_eq_true rfl) rfl ?_)
      | refine ret1 (by first | exact .inl rfl | exact .inr rfl) rfl rfl rfl ?_)
    exact Sub.of_eq (by rw [fall_all, hall])
/-- slices.Index over ints. -/
def idxF : List Int → Int → Nat
  | [], _ => 0
  | a :: r, v => if v = a then 0 else idxF r v + 1
theorem idxF_le : ∀ (l : List Int) (v : Int), idxF l v ≤ l.length
  | [], _ => Nat.le_refl _
  | a :: r, v => by
    rw [idxF]
    split
    · exact Nat.zero_le _
    · have := idxF_le r v
      simp; omega
theorem idxF_at : ∀ (l : List Int) (v : Int) (i : Nat) (hi : i < l.length), i ≤ idxF l v → (idxF l v = i ↔ v = l[i])
  | a :: r, v, 0, _, _ => by
    rw [idxF]
    split
    · simp_all
    · simp_all
  | a :: r, v, i + 1, hi, hle => by
    rw [idxF] at hle ⊢
    split at hle
    · omega
    · rename_i hne
      rw [if_neg hne]
      have := idxF_at r v i (by simpa using hi) (by omega)
      simp only [List.getElem_cons_succ]
      rw [← this]
      omega
def indexR (l : List Int) (v : Int) : Int := if idxF l v < l.length then idxF l v else -1
theorem index_ok (l : List Int) (v : Int) (hl : l.length ≤ 4611686018427387904) : PCalls Try.prog 35 [.sl 1 (l.map iD), .val (.int .i64 v)] (.val (.int .i64 (indexR l v))) := by
  refine p_start Try.func35 Try.ntmps35 rfl rfl rfl fun S w => ?_
  repeat (first
    | refine awp_seq ?_
    | refine thenA_normal ?_
    | refine awp_block ?_
    | refine a_region ?_
    | refine r_done ?_
    | (refine r_id ?_; first
      | refine r_len tab_ok rfl rfl rfl rfl rfl rfl rfl ?_
      | refine r_ev tab_ok rfl rfl rfl rfl (by first | exact trivial | exact ⟨by omega, by omega⟩ | omega | exact ⟨by omega, by omega, by omega, by omega⟩ | exact Nat.le_of_ble_eq_true rfl) rfl ?_))
  refine a_loop (σ := {i : Nat // i ≤ idxF l v}) (fun _ => []) (fun x => [(0, .sl 1 (l.map iD)), (1, .val (.int .i64 v)), (6, .sl 1 (l.map iD)), (7, .val (.int .i64 l.length)), (8, .val (.int .i64 x.1))]) (fun x => l.length - x.1) ⟨0, Nat.zero_le _⟩
    (fits_of rfl ⟨Sub.refl _, Sub.refl _, Sub.refl _, Sub.refl _, Sub.refl _, trivial⟩) ?_
  rintro ⟨i, hi⟩
  dsimp only
  have hle := idxF_le l v
  repeat (first
    | refine awp_seq ?_
    | refine a_region ?_
    | refine r_done ?_
    | (refine r_id ?_; first
      | refine r_ev tab_ok rfl rfl rfl rfl (by first | exact trivial | exact ⟨by omega, by omega⟩ | omega | exact ⟨by omega, by omega, by omega, by omega⟩ | exact Nat.le_of_ble_eq_true rfl) rfl ?_))
  refine awp_cond_p rfl (fun hlt => ?_) (fun hge => ?_)
  · have hi' : i < l.length := by omega
    have hat := idxF_at l v i hi' hi
    repeat (first
      | refine awp_seq ?_
      | refine thenA_normal ?_
      | refine awp_block ?_
      | refine a_region ?_
      | refine awp_skip ?_
      | refine r_done ?_
      | (refine r_id ?_; first
        | refine r_ev tab_ok rfl rfl rfl rfl (by first | exact trivial | exact ⟨by omega, by omega⟩ | omega | exact ⟨by omega, by omega, by omega, by omega⟩ | exact Nat.le_of_ble_eq_true rfl) rfl ?_
        | refine r_idx tab_ok rfl rfl rfl rfl rfl rfl rfl (by first | exact ⟨by omega, by omega⟩ | (simp; omega)) rfl rfl ?_))
    simp only [Int.toNat_natCast]
    refine awp_cond_p rfl (fun hb => ?_) (fun hb => ?_)
    · repeat (first
        | refine awp_seq ?_
        | refine thenA_normal ?_
        | refine a_region ?_
        | refine awp_ret ?_
        | refine thenA_ret ?_
        | refine blockA_ret ?_
        | refine r_done ?_
        | (refine r_id ?_; first
          | refine r_ev tab_ok rfl rfl rfl rfl (by first | exact trivial | exact ⟨by omega, by omega⟩ | omega | exact ⟨by omega, by omega, by omega, by omega⟩ | exact Nat.le_of_ble_eq_true rfl) rfl ?_)
        | refine ret1 (by first | exact .inl rfl | exact .inr rfl) rfl rfl rfl ?_)
      have := hat.2 hb
      exact Sub.of_eq (by rw [indexR, if_pos (by omega), this])
    · have : idxF l v ≠ i := fun h => hb (hat.1 h)
      repeat (first
        | refine thenA_normal ?_
        | refine a_region ?_
        | refine awp_skip ?_
        | refine r_done ?_
        | (refine r_id ?_; first
          | refine r_ev tab_ok rfl rfl rfl rfl (by first | exact trivial | exact ⟨by omega, by omega⟩ | omega | exact ⟨by omega, by omega, by omega, by omega⟩ | exact Nat.le_of_ble_eq_true rfl) rfl ?_))
      exact ⟨⟨i + 1, by omega⟩, by dsimp only; omega, fits_of rfl ⟨Sub.refl _, Sub.refl _, Sub.refl _, Sub.refl _, Sub.refl _, trivial⟩⟩
  · repeat (first
      | refine awp_seq ?_
      | refine thenA_normal ?_
      | refine a_region ?_
      | refine awp_ret ?_
      | refine awp_exit ?_
      | refine r_done ?_
      | (refine r_id ?_; first
        | refine r_ev tab_ok rfl rfl rfl rfl (by first | exact trivial | exact ⟨by omega, by omega⟩ | omega | exact ⟨by omega, by omega, by omega, by omega⟩ | exact Nat.le_of_ble_eq_true rfl) rfl ?_)
      | refine ret1 (by first | exact .inl rfl | exact .inr rfl) rfl rfl rfl ?_)
    exact Sub.of_eq (by rw [indexR, if_neg (by omega)])
end Go.Proofs.Ytgkcliecgmhmfaa
