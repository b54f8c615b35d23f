/- Quote: depths. -/
import Derived.Test.YtecnkliefoddaaaQ5
namespace Go.Proofs.Ytecnkliefoddaaa
open Go Go.RowKit

def roundF (k n : Int) : Int := (k.tmod n + n).tmod n
theorem tmod_rng (k n : Int) (h : 1 ≤ n) : -n < k.tmod n ∧ k.tmod n < n := by
  have h1 := Int.natAbs_tmod k n
  have h2 : k.natAbs % n.natAbs < n.natAbs := Nat.mod_lt _ (by omega)
  omega
theorem roundF_rng (k n : Int) (h : 1 ≤ n) : 0 ≤ roundF k n ∧ roundF k n < n := by
  have h1 := tmod_rng k n h
  have h2 := tmod_rng (k.tmod n + n) n h
  refine ⟨?_, h2.2⟩
  unfold roundF
  exact Int.tmod_nonneg _ (by omega)
theorem round2_ok (k n r : Int) (h1 : 1 ≤ n) (h2 : n ≤ 1000) (hr : roundF k n = r) : PCalls Try.prog 14 [.val (.int .i64 k), .val (.int .i64 n)] (.val (.int .i64 r)) := by
  have h3 := tmod_rng k n h1
  subst hr
  refine p_start Try.func14 Try.ntmps14 rfl rfl rfl fun S w => ?_
  repeat (first
    | refine awp_seq ?_
    | refine thenA_normal ?_
    | refine awp_block ?_
    | refine a_region ?_
    | refine a_draw1 mixed_ok (by kernel_rfl) ?_
    | refine awp_ret ?_
    | refine awp_exit ?_
    | refine thenA_exit ?_
    | refine thenA_ret ?_
    | refine blockA_normal ?_
    | refine blockA_ret ?_
    | refine blockA_hit rfl ?_
    | refine blockA_miss rfl ?_
    | refine awp_skip ?_
    | refine r_done ?_
    | refine r_done' ?_
    | (refine r_id ?_; first
      | refine r_len tab_ok rfl rfl rfl rfl rfl rfl rfl ?_
      | refine r_ev tab_ok rfl rfl rfl rfl (by first | exact trivial | exact ⟨by omega, by omega⟩ | omega | exact ⟨by omega, by omega, by omega, by omega⟩ | exact Nat.le_of_ble_eq_true rfl) rfl ?_
      | refine r_ld tab_ok rfl rfl rfl rfl rfl ?_
      | refine r_idx tab_ok rfl rfl rfl rfl rfl rfl rfl (by first | exact ⟨by omega, by omega⟩ | (simp; omega)) rfl rfl ?_
      | refine r_idxd tab_ok rfl rfl rfl rfl rfl rfl rfl (by decide) rfl rfl rfl ?_
      | refine r_wr tab_ok rfl rfl rfl rfl rfl ?_
      | refine r_st tab_ok rfl rfl rfl rfl ?_
      | refine r_len_cnd tab_ok rfl rfl rfl rfl rfl rfl (by first | exact fun _ => rfl | exact cs1) rfl rfl rfl ?_
      | refine r_ev_cnd tab_ok rfl rfl rfl rfl rfl rfl (by first | exact fun _ => rfl | exact cs1 | exact cs2 | exact cs3) (by first | exact fun _ => trivial | (intro h; simp at h; first | exact ⟨by omega, by omega⟩ | omega)) rfl ?_
      | refine r_ld_cnd tab_ok rfl rfl rfl rfl rfl rfl (by first | exact fun _ => rfl | exact cs1 | exact cs2 | exact cs3) rfl ?_
      | refine r_idx_cnd tab_ok rfl rfl rfl rfl rfl rfl rfl (by first | exact fun _ => rfl | exact cs1 | exact cs2) rfl rfl (by exact ⟨by omega, by omega⟩) rfl rfl ?_
      | refine r_idx_cnd' tab_ok rfl rfl rfl rfl rfl rfl rfl (by first | exact fun _ => rfl | exact cs1 | exact cs2) rfl rfl (by intro h; simp at h; exact ⟨by omega, by omega⟩) rfl rfl ?_
      | refine r_or rfl rfl rfl rfl rfl rfl rfl rfl ?_
      | refine r_and rfl rfl rfl rfl rfl rfl rfl rfl ?_
      | refine r_pick_t rfl rfl rfl rfl rfl rfl rfl ?_
      | refine r_pick_f rfl rfl rfl rfl rfl rfl rfl ?_
      | refine r_off rfl rfl rfl rfl rfl rfl ?_
      | refine r_len_on tab_ok rfl rfl rfl rfl rfl rfl rfl rfl rfl ?_
      | refine r_ev_on tab_ok rfl rfl rfl rfl rfl rfl (by first | exact trivial | exact ⟨by omega, by omega⟩ | omega) rfl ?_
      | refine r_ld_on tab_ok rfl rfl rfl rfl rfl rfl rfl ?_
      | refine r_build tab_ok rfl rfl rfl rfl rfl rfl ?_
      | refine r_bstr tab_ok rfl rfl rfl rfl rfl rfl rfl rfl rfl rfl ?_
      | refine r_build_cnd tab_ok rfl rfl rfl rfl rfl (by first | exact fun _ => rfl | exact cs1) rfl rfl rfl ?_
      | refine r_built_cnd tab_ok rfl rfl rfl rfl rfl rfl rfl rfl (by first | exact fun _ => rfl | exact cs1) rfl rfl rfl ?_
      | refine r_rem rfl rfl rfl rfl rfl rfl (by omega) rfl ?_
      | refine r_built0 tab_ok rfl rfl rfl rfl rfl rfl rfl ?_
      | refine r_built tab_ok rfl rfl rfl rfl rfl rfl rfl rfl rfl ?_
      | refine r_append tab_ok rfl rfl rfl rfl rfl rfl rfl rfl rfl (by first | omega | (simp; omega)) rfl ?_
      | refine r_append_nil tab_ok rfl rfl rfl rfl rfl rfl rfl rfl (by first | omega | (simp; omega)) rfl ?_)
    | refine ret1 (by first | exact .inl rfl | exact .inr rfl) rfl rfl rfl ?_
    | refine ret1_row (by first | exact .inl rfl | exact .inr rfl) rfl rfl rfl ?_
    | refine ret2 (by first | exact .inl rfl | exact .inr rfl) rfl rfl rfl rfl ?_ ?_
    | refine awp_cond_t rfl ?_
    | refine awp_cond_f rfl ?_)
  exact Sub.of_eq (by rw [roundF, Int.tmod_eq_emod_of_nonneg (a := k.tmod n + n) (by omega)])
theorem stDo6z (a b : Nat → ByteArray) (k : Nat) (d : Int) (hk : k ≤ 100) (h0 : d = 0) : PCalls Try.prog 9 [stA (stP (prs a b k)), .val (.int .i64 d), .val (.int .i64 6)] (.tup [.val (.string ⟨#[]⟩), .val (.int .i64 d)]) := by
  have := do_ok (stP (prs a b k)) d 6 (by have := prs_len a b k; simp only [stP]; omega) (by omega)
  rw [stP6 a b k (by omega) (by omega), if_neg (by omega), show max (d - 1) 0 = d by omega] at this
  exact this
theorem stDo7 (a b : Nat → ByteArray) (k : Nat) (d : Int) (hk : k ≤ 100) (h0 : 0 ≤ d) (h1 : d ≤ 1000) : PCalls Try.prog 9 [stA (stP (prs a b k)), .val (.int .i64 d), .val (.int .i64 7)] (.tup [.val (.string ⟨#[]⟩), .val (.int .i64 (d + 1))]) := by
  have := do_ok (stP (prs a b k)) d 7 (by have := prs_len a b k; simp only [stP]; omega) (by omega)
  have e : doF (stP (prs a b k)) d 7 = (⟨#[]⟩, d + 1) := by
    unfold doF
    rw [if_neg (by decide), if_pos rfl]
    exact Prod.ext rfl (by dsimp only; omega)
  rw [e] at this
  exact this
theorem stDo8 (a b : Nat → ByteArray) (k : Nat) (d : Int) (hk : k ≤ 100) (h0 : 0 ≤ d) (h1 : d ≤ 1000) : PCalls Try.prog 9 [stA (stP (prs a b k)), .val (.int .i64 d), .val (.int .i64 8)] (.tup [.val (.string ⟨#[]⟩), .val (.int .i64 (max (d - 1) 0))]) := by
  have := do_ok (stP (prs a b k)) d 8 (by have := prs_len a b k; simp only [stP]; omega) (by omega)
  have e : doF (stP (prs a b k)) d 8 = (⟨#[]⟩, max (d - 1) 0) := by
    unfold doF
    rw [if_neg (by decide), if_neg (by decide), if_neg (by simp)]
    split
    · exact Prod.ext rfl (by dsimp only; omega)
    · rename_i h
      refine Prod.ext rfl ?_
      have : ¬ 0 < max d 0 := fun h' => h ⟨rfl, h'⟩
      dsimp only
      omega
  rw [e] at this
  exact this
theorem depth_step (d k : Int) (h0 : 0 ≤ d) (h1 : d ≤ 1000) : (doF st0 d k).2 = if k = 5 ∨ k = 7 then d + 1 else if k = 6 ∨ k = 8 then max (d - 1) 0 else d := by
  unfold doF
  by_cases a5 : k = 5
  · subst a5; simp; omega
  by_cases a7 : k = 7
  · subst a7; simp; omega
  by_cases a6 : k = 6
  · subst a6
    by_cases hd : 0 < max d 0
    · simp [hd]; omega
    · simp [hd]; omega
  by_cases a8 : k = 8
  · subst a8
    by_cases hd : 0 < max d 0
    · simp [hd]; omega
    · simp [hd]; omega
  simp [a5, a6, a7, a8]
  omega
theorem depthF_le (l : List Int) : depthF l ≤ l.length := by
  have key : ∀ (l : List Int) (d : Int), 0 ≤ d → l.foldl (fun d k => (doF st0 d k).2) d ≤ d + l.length := by
    intro l
    induction l with
    | nil => intro d _; simp
    | cons k l ih =>
      intro d h0
      have h1 := doF_rng st0 d k h0
      have h2 : (doF st0 d k).2 ≤ d + 1 := by
        unfold doF
        repeat (first | split | (dsimp only; omega))
      have := ih (doF st0 d k).2 h1.1
      simp only [List.foldl_cons, List.length_cons]
      omega
  have := key l 0 (by omega)
  unfold depthF
  omega
def oB (k : Nat) : ByteArray := ⟨#[111]⟩ ++ bytesStr [48 + (k : Int)]
def kB (k : Nat) : ByteArray := ⟨#[99]⟩ ++ bytesStr [48 + (k : Int)]
theorem mkS_oB {p : Nat} {d : Int} (hp : 1 ≤ p) (hd : 0 ≤ d) : mkS oB p d = ⟨#[111]⟩ ++ bytesStr [48 + min d ((p : Int) - 1)] := by
  rw [mkS, if_neg (by omega), oB, show (((min d ((p : Int) - 1)).toNat : Nat) : Int) = min d ((p : Int) - 1) by omega]
theorem mkS_kB {p : Nat} {d : Int} (hp : 1 ≤ p) (hd : 0 ≤ d) : mkS kB p d = ⟨#[99]⟩ ++ bytesStr [48 + min d ((p : Int) - 1)] := by
  rw [mkS, if_neg (by omega), kB, show (((min d ((p : Int) - 1)).toNat : Nat) : Int) = min d ((p : Int) - 1) by omega]

set_option maxHeartbeats 8000000 in
theorem depths_ok (l : List Int) (pairs : Int) (hl : l.length ≤ 9223372036854775807) : PCalls Try.prog 4 [.sl 1 (l.map iDn), .val (.int .i64 pairs)] (.val (.bool true)) := by
  refine p_start Try.func4 Try.ntmps4 rfl rfl rfl fun S w => ?_
  repeat (first
    | refine awp_seq ?_
    | refine thenA_normal ?_
    | refine awp_block ?_
    | refine a_region ?_
    | refine a_draw1 mixed_ok (by kernel_rfl) ?_
    | refine awp_ret ?_
    | refine awp_exit ?_
    | refine thenA_exit ?_
    | refine thenA_ret ?_
    | refine blockA_normal ?_
    | refine blockA_ret ?_
    | refine blockA_hit rfl ?_
    | refine blockA_miss rfl ?_
    | refine awp_skip ?_
    | refine r_done ?_
    | refine r_done' ?_
    | (refine r_id ?_; first
      | refine r_len tab_ok rfl rfl rfl rfl rfl rfl rfl ?_
      | refine r_ev tab_ok rfl rfl rfl rfl (by first | exact trivial | exact ⟨by omega, by omega⟩ | omega | exact ⟨by omega, by omega, by omega, by omega⟩ | exact Nat.le_of_ble_eq_true rfl) rfl ?_
      | refine r_ld tab_ok rfl rfl rfl rfl rfl ?_
      | refine r_idx tab_ok rfl rfl rfl rfl rfl rfl rfl (by first | exact ⟨by omega, by omega⟩ | (simp; omega)) rfl rfl ?_
      | refine r_idxd tab_ok rfl rfl rfl rfl rfl rfl rfl (by decide) rfl rfl rfl ?_
      | refine r_wr tab_ok rfl rfl rfl rfl rfl ?_
      | refine r_st tab_ok rfl rfl rfl rfl ?_
      | refine r_len_cnd tab_ok rfl rfl rfl rfl rfl rfl (by first | exact fun _ => rfl | exact cs1) rfl rfl rfl ?_
      | refine r_ev_cnd tab_ok rfl rfl rfl rfl rfl rfl (by first | exact fun _ => rfl | exact cs1 | exact cs2 | exact cs3) (by first | exact fun _ => trivial | (intro h; simp at h; first | exact ⟨by omega, by omega⟩ | omega)) rfl ?_
      | refine r_ld_cnd tab_ok rfl rfl rfl rfl rfl rfl (by first | exact fun _ => rfl | exact cs1 | exact cs2 | exact cs3) rfl ?_
      | refine r_idx_cnd tab_ok rfl rfl rfl rfl rfl rfl rfl (by first | exact fun _ => rfl | exact cs1 | exact cs2) rfl rfl (by exact ⟨by omega, by omega⟩) rfl rfl ?_
      | refine r_idx_cnd' tab_ok rfl rfl rfl rfl rfl rfl rfl (by first | exact fun _ => rfl | exact cs1 | exact cs2) rfl rfl (by intro h; simp at h; exact ⟨by omega, by omega⟩) rfl rfl ?_
      | refine r_or rfl rfl rfl rfl rfl rfl rfl rfl ?_
      | refine r_and rfl rfl rfl rfl rfl rfl rfl rfl ?_
      | refine r_pick_t rfl rfl rfl rfl rfl rfl rfl ?_
      | refine r_pick_f rfl rfl rfl rfl rfl rfl rfl ?_
      | refine r_off rfl rfl rfl rfl rfl rfl ?_
      | refine r_len_on tab_ok rfl rfl rfl rfl rfl rfl rfl rfl rfl ?_
      | refine r_ev_on tab_ok rfl rfl rfl rfl rfl rfl (by first | exact trivial | exact ⟨by omega, by omega⟩ | omega) rfl ?_
      | refine r_ld_on tab_ok rfl rfl rfl rfl rfl rfl rfl ?_
      | refine r_build tab_ok rfl rfl rfl rfl rfl rfl ?_
      | refine r_bstr tab_ok rfl rfl rfl rfl rfl rfl rfl rfl rfl rfl ?_
      | refine r_build_cnd tab_ok rfl rfl rfl rfl rfl (by first | exact fun _ => rfl | exact cs1) rfl rfl rfl ?_
      | refine r_built_cnd tab_ok rfl rfl rfl rfl rfl rfl rfl rfl (by first | exact fun _ => rfl | exact cs1) rfl rfl rfl ?_
      | refine r_rem rfl rfl rfl rfl rfl rfl (by omega) rfl ?_
      | refine r_built0 tab_ok rfl rfl rfl rfl rfl rfl rfl ?_
      | refine r_built tab_ok rfl rfl rfl rfl rfl rfl rfl rfl rfl ?_
      | refine r_append tab_ok rfl rfl rfl rfl rfl rfl rfl rfl rfl (by first | omega | (simp; omega)) rfl ?_
      | refine r_append_nil tab_ok rfl rfl rfl rfl rfl rfl rfl rfl (by first | omega | (simp; omega)) rfl ?_)
    | refine ret1 (by first | exact .inl rfl | exact .inr rfl) rfl rfl rfl ?_
    | refine ret1_row (by first | exact .inl rfl | exact .inr rfl) rfl rfl rfl ?_
    | refine ret2 (by first | exact .inl rfl | exact .inr rfl) rfl rfl rfl rfl ?_ ?_
    | refine awp_cond_t rfl ?_
    | refine awp_cond_f rfl ?_)
  refine awp_cond rfl (fun h => ?_) (fun h => ?_)
  · repeat (first
      | refine awp_seq ?_
      | refine thenA_normal ?_
      | refine awp_block ?_
      | refine a_region ?_
      | refine a_draw1 mixed_ok (by kernel_rfl) ?_
      | refine awp_ret ?_
      | refine awp_exit ?_
      | refine thenA_exit ?_
      | refine thenA_ret ?_
      | refine blockA_normal ?_
      | refine blockA_ret ?_
      | refine blockA_hit rfl ?_
      | refine blockA_miss rfl ?_
      | refine awp_skip ?_
      | refine r_done ?_
      | refine r_done' ?_
      | (refine r_id ?_; first
        | refine r_len tab_ok rfl rfl rfl rfl rfl rfl rfl ?_
        | refine r_ev tab_ok rfl rfl rfl rfl (by first | exact trivial | exact ⟨by omega, by omega⟩ | omega | exact ⟨by omega, by omega, by omega, by omega⟩ | exact Nat.le_of_ble_eq_true rfl) rfl ?_
        | refine r_ld tab_ok rfl rfl rfl rfl rfl ?_
        | refine r_idx tab_ok rfl rfl rfl rfl rfl rfl rfl (by first | exact ⟨by omega, by omega⟩ | (simp; omega)) rfl rfl ?_
        | refine r_idxd tab_ok rfl rfl rfl rfl rfl rfl rfl (by decide) rfl rfl rfl ?_
        | refine r_wr tab_ok rfl rfl rfl rfl rfl ?_
        | refine r_st tab_ok rfl rfl rfl rfl ?_
        | refine r_len_cnd tab_ok rfl rfl rfl rfl rfl rfl (by first | exact fun _ => rfl | exact cs1) rfl rfl rfl ?_
        | refine r_ev_cnd tab_ok rfl rfl rfl rfl rfl rfl (by first | exact fun _ => rfl | exact cs1 | exact cs2 | exact cs3) (by first | exact fun _ => trivial | (intro h; simp at h; first | exact ⟨by omega, by omega⟩ | omega)) rfl ?_
        | refine r_ld_cnd tab_ok rfl rfl rfl rfl rfl rfl (by first | exact fun _ => rfl | exact cs1 | exact cs2 | exact cs3) rfl ?_
        | refine r_idx_cnd tab_ok rfl rfl rfl rfl rfl rfl rfl (by first | exact fun _ => rfl | exact cs1 | exact cs2) rfl rfl (by exact ⟨by omega, by omega⟩) rfl rfl ?_
        | refine r_idx_cnd' tab_ok rfl rfl rfl rfl rfl rfl rfl (by first | exact fun _ => rfl | exact cs1 | exact cs2) rfl rfl (by intro h; simp at h; exact ⟨by omega, by omega⟩) rfl rfl ?_
        | refine r_or rfl rfl rfl rfl rfl rfl rfl rfl ?_
        | refine r_and rfl rfl rfl rfl rfl rfl rfl rfl ?_
        | refine r_pick_t rfl rfl rfl rfl rfl rfl rfl ?_
        | refine r_pick_f rfl rfl rfl rfl rfl rfl rfl ?_
        | refine r_off rfl rfl rfl rfl rfl rfl ?_
        | refine r_len_on tab_ok rfl rfl rfl rfl rfl rfl rfl rfl rfl ?_
        | refine r_ev_on tab_ok rfl rfl rfl rfl rfl rfl (by first | exact trivial | exact ⟨by omega, by omega⟩ | omega) rfl ?_
        | refine r_ld_on tab_ok rfl rfl rfl rfl rfl rfl rfl ?_
        | refine r_build tab_ok rfl rfl rfl rfl rfl rfl ?_
        | refine r_bstr tab_ok rfl rfl rfl rfl rfl rfl rfl rfl rfl rfl ?_
        | refine r_build_cnd tab_ok rfl rfl rfl rfl rfl (by first | exact fun _ => rfl | exact cs1) rfl rfl rfl ?_
        | refine r_built_cnd tab_ok rfl rfl rfl rfl rfl rfl rfl rfl (by first | exact fun _ => rfl | exact cs1) rfl rfl rfl ?_
        | refine r_rem rfl rfl rfl rfl rfl rfl (by omega) rfl ?_
        | refine r_built0 tab_ok rfl rfl rfl rfl rfl rfl rfl ?_
        | refine r_built tab_ok rfl rfl rfl rfl rfl rfl rfl rfl rfl ?_
        | refine r_append tab_ok rfl rfl rfl rfl rfl rfl rfl rfl rfl (by first | omega | (simp; omega)) rfl ?_
        | refine r_append_nil tab_ok rfl rfl rfl rfl rfl rfl rfl rfl (by first | omega | (simp; omega)) rfl ?_)
      | refine ret1 (by first | exact .inl rfl | exact .inr rfl) rfl rfl rfl ?_
      | refine ret1_row (by first | exact .inl rfl | exact .inr rfl) rfl rfl rfl ?_
      | refine ret2 (by first | exact .inl rfl | exact .inr rfl) rfl rfl rfl rfl ?_ ?_
      | refine awp_cond_t rfl ?_
      | refine awp_cond_f rfl ?_)
    refine r_call awake_ok call8 rfl rfl (by repeat' first | exact trivial | exact Sub.refl _ | exact Sub.nil _ | refine Sub.agg ?_ | apply And.intro) rfl rfl rfl rfl ?_
    repeat (first
      | refine awp_seq ?_
      | refine thenA_normal ?_
      | refine awp_block ?_
      | refine a_region ?_
      | refine a_draw1 mixed_ok (by kernel_rfl) ?_
      | refine awp_ret ?_
      | refine awp_exit ?_
      | refine thenA_exit ?_
      | refine thenA_ret ?_
      | refine blockA_normal ?_
      | refine blockA_ret ?_
      | refine blockA_hit rfl ?_
      | refine blockA_miss rfl ?_
      | refine awp_skip ?_
      | refine r_done ?_
      | refine r_done' ?_
      | (refine r_id ?_; first
        | refine r_len tab_ok rfl rfl rfl rfl rfl rfl rfl ?_
        | refine r_ev tab_ok rfl rfl rfl rfl (by first | exact trivial | exact ⟨by omega, by omega⟩ | omega | exact ⟨by omega, by omega, by omega, by omega⟩ | exact Nat.le_of_ble_eq_true rfl) rfl ?_
        | refine r_ld tab_ok rfl rfl rfl rfl rfl ?_
        | refine r_idx tab_ok rfl rfl rfl rfl rfl rfl rfl (by first | exact ⟨by omega, by omega⟩ | (simp; omega)) rfl rfl ?_
        | refine r_idxd tab_ok rfl rfl rfl rfl rfl rfl rfl (by decide) rfl rfl rfl ?_
        | refine r_wr tab_ok rfl rfl rfl rfl rfl ?_
        | refine r_st tab_ok rfl rfl rfl rfl ?_
        | refine r_len_cnd tab_ok rfl rfl rfl rfl rfl rfl (by first | exact fun _ => rfl | exact cs1) rfl rfl rfl ?_
        | refine r_ev_cnd tab_ok rfl rfl rfl rfl rfl rfl (by first | exact fun _ => rfl | exact cs1 | exact cs2 | exact cs3) (by first | exact fun _ => trivial | (intro h; simp at h; first | exact ⟨by omega, by omega⟩ | omega)) rfl ?_
        | refine r_ld_cnd tab_ok rfl rfl rfl rfl rfl rfl (by first | exact fun _ => rfl | exact cs1 | exact cs2 | exact cs3) rfl ?_
        | refine r_idx_cnd tab_ok rfl rfl rfl rfl rfl rfl rfl (by first | exact fun _ => rfl | exact cs1 | exact cs2) rfl rfl (by exact ⟨by omega, by omega⟩) rfl rfl ?_
        | refine r_idx_cnd' tab_ok rfl rfl rfl rfl rfl rfl rfl (by first | exact fun _ => rfl | exact cs1 | exact cs2) rfl rfl (by intro h; simp at h; exact ⟨by omega, by omega⟩) rfl rfl ?_
        | refine r_or rfl rfl rfl rfl rfl rfl rfl rfl ?_
        | refine r_and rfl rfl rfl rfl rfl rfl rfl rfl ?_
        | refine r_pick_t rfl rfl rfl rfl rfl rfl rfl ?_
        | refine r_pick_f rfl rfl rfl rfl rfl rfl rfl ?_
        | refine r_off rfl rfl rfl rfl rfl rfl ?_
        | refine r_len_on tab_ok rfl rfl rfl rfl rfl rfl rfl rfl rfl ?_
        | refine r_ev_on tab_ok rfl rfl rfl rfl rfl rfl (by first | exact trivial | exact ⟨by omega, by omega⟩ | omega) rfl ?_
        | refine r_ld_on tab_ok rfl rfl rfl rfl rfl rfl rfl ?_
        | refine r_build tab_ok rfl rfl rfl rfl rfl rfl ?_
        | refine r_bstr tab_ok rfl rfl rfl rfl rfl rfl rfl rfl rfl rfl ?_
        | refine r_build_cnd tab_ok rfl rfl rfl rfl rfl (by first | exact fun _ => rfl | exact cs1) rfl rfl rfl ?_
        | refine r_built_cnd tab_ok rfl rfl rfl rfl rfl rfl rfl rfl (by first | exact fun _ => rfl | exact cs1) rfl rfl rfl ?_
        | refine r_rem rfl rfl rfl rfl rfl rfl (by omega) rfl ?_
        | refine r_built0 tab_ok rfl rfl rfl rfl rfl rfl rfl ?_
        | refine r_built tab_ok rfl rfl rfl rfl rfl rfl rfl rfl rfl ?_
        | refine r_append tab_ok rfl rfl rfl rfl rfl rfl rfl rfl rfl (by first | omega | (simp; omega)) rfl ?_
        | refine r_append_nil tab_ok rfl rfl rfl rfl rfl rfl rfl rfl (by first | omega | (simp; omega)) rfl ?_)
      | refine ret1 (by first | exact .inl rfl | exact .inr rfl) rfl rfl rfl ?_
      | refine ret1_row (by first | exact .inl rfl | exact .inr rfl) rfl rfl rfl ?_
      | refine ret2 (by first | exact .inl rfl | exact .inr rfl) rfl rfl rfl rfl ?_ ?_
      | refine awp_cond_t rfl ?_
      | refine awp_cond_f rfl ?_)
    exact Sub.refl _
  · have hh : l.length ≤ 40 ∧ 1 ≤ pairs ∧ pairs ≤ 5 := by simp at h; omega
    clear h
    obtain ⟨hl0, hp0, hp1⟩ := hh
    repeat (first
      | refine awp_seq ?_
      | refine thenA_normal ?_
      | refine awp_block ?_
      | refine a_region ?_
      | refine a_draw1 mixed_ok (by kernel_rfl) ?_
      | refine awp_ret ?_
      | refine awp_exit ?_
      | refine thenA_exit ?_
      | refine thenA_ret ?_
      | refine blockA_normal ?_
      | refine blockA_ret ?_
      | refine blockA_hit rfl ?_
      | refine blockA_miss rfl ?_
      | refine awp_skip ?_
      | refine r_done ?_
      | refine r_done' ?_
      | (refine r_id ?_; first
        | refine r_len tab_ok rfl rfl rfl rfl rfl rfl rfl ?_
        | refine r_ev tab_ok rfl rfl rfl rfl (by first | exact trivial | exact ⟨by omega, by omega⟩ | omega | exact ⟨by omega, by omega, by omega, by omega⟩ | exact Nat.le_of_ble_eq_true rfl) rfl ?_
        | refine r_ld tab_ok rfl rfl rfl rfl rfl ?_
        | refine r_idx tab_ok rfl rfl rfl rfl rfl rfl rfl (by first | exact ⟨by omega, by omega⟩ | (simp; omega)) rfl rfl ?_
        | refine r_idxd tab_ok rfl rfl rfl rfl rfl rfl rfl (by decide) rfl rfl rfl ?_
        | refine r_wr tab_ok rfl rfl rfl rfl rfl ?_
        | refine r_st tab_ok rfl rfl rfl rfl ?_
        | refine r_len_cnd tab_ok rfl rfl rfl rfl rfl rfl (by first | exact fun _ => rfl | exact cs1) rfl rfl rfl ?_
        | refine r_ev_cnd tab_ok rfl rfl rfl rfl rfl rfl (by first | exact fun _ => rfl | exact cs1 | exact cs2 | exact cs3) (by first | exact fun _ => trivial | (intro h; simp at h; first | exact ⟨by omega, by omega⟩ | omega)) rfl ?_
        | refine r_ld_cnd tab_ok rfl rfl rfl rfl rfl rfl (by first | exact fun _ => rfl | exact cs1 | exact cs2 | exact cs3) rfl ?_
        | refine r_idx_cnd tab_ok rfl rfl rfl rfl rfl rfl rfl (by first | exact fun _ => rfl | exact cs1 | exact cs2) rfl rfl (by exact ⟨by omega, by omega⟩) rfl rfl ?_
        | refine r_idx_cnd' tab_ok rfl rfl rfl rfl rfl rfl rfl (by first | exact fun _ => rfl | exact cs1 | exact cs2) rfl rfl (by intro h; simp at h; exact ⟨by omega, by omega⟩) rfl rfl ?_
        | refine r_or rfl rfl rfl rfl rfl rfl rfl rfl ?_
        | refine r_and rfl rfl rfl rfl rfl rfl rfl rfl ?_
        | refine r_pick_t rfl rfl rfl rfl rfl rfl rfl ?_
        | refine r_pick_f rfl rfl rfl rfl rfl rfl rfl ?_
        | refine r_off rfl rfl rfl rfl rfl rfl ?_
        | refine r_len_on tab_ok rfl rfl rfl rfl rfl rfl rfl rfl rfl ?_
        | refine r_ev_on tab_ok rfl rfl rfl rfl rfl rfl (by first | exact trivial | exact ⟨by omega, by omega⟩ | omega) rfl ?_
        | refine r_ld_on tab_ok rfl rfl rfl rfl rfl rfl rfl ?_
        | refine r_build tab_ok rfl rfl rfl rfl rfl rfl ?_
        | refine r_bstr tab_ok rfl rfl rfl rfl rfl rfl rfl rfl rfl rfl ?_
        | refine r_build_cnd tab_ok rfl rfl rfl rfl rfl (by first | exact fun _ => rfl | exact cs1) rfl rfl rfl ?_
        | refine r_built_cnd tab_ok rfl rfl rfl rfl rfl rfl rfl rfl (by first | exact fun _ => rfl | exact cs1) rfl rfl rfl ?_
        | refine r_rem rfl rfl rfl rfl rfl rfl (by omega) rfl ?_
        | refine r_built0 tab_ok rfl rfl rfl rfl rfl rfl rfl ?_
        | refine r_built tab_ok rfl rfl rfl rfl rfl rfl rfl rfl rfl ?_
        | refine r_append tab_ok rfl rfl rfl rfl rfl rfl rfl rfl rfl (by first | omega | (simp; omega)) rfl ?_
        | refine r_append_nil tab_ok rfl rfl rfl rfl rfl rfl rfl rfl (by first | omega | (simp; omega)) rfl ?_)
      | refine ret1 (by first | exact .inl rfl | exact .inr rfl) rfl rfl rfl ?_
      | refine ret1_row (by first | exact .inl rfl | exact .inr rfl) rfl rfl rfl ?_
      | refine ret2 (by first | exact .inl rfl | exact .inr rfl) rfl rfl rfl rfl ?_ ?_
      | refine awp_cond_t rfl ?_
      | refine awp_cond_f rfl ?_)
    refine a_loop (σ := {k : Nat // (k : Int) ≤ pairs}) (fun x => [.box 26 (bx (.row 1 0)), .row 0 9 1 (prsD oB kB x.1)]) (fun x => [(6, .val (.int .i64 x.1)), (5, .ptr 0 0), (0, .sl 1 (l.map iDn)), (1, .val (.int .i64 pairs))]) (fun x => pairs.toNat - x.1) ⟨0, by simp; omega⟩
      (fits_conv (by repeat' first | exact trivial | exact rfl | exact c_sub rfl (Sub.refl _) rfl | exact c_nil rfl rfl | exact c_thaw rfl rfl rfl | exact c_row rfl rfl rfl | exact c_ptr rfl rfl rfl rfl | refine ⟨_, _, rfl, ?_, ?_⟩ | apply And.intro) (by repeat' first | exact trivial | exact rfl | exact c_sub rfl (Sub.refl _) rfl | exact c_nil rfl rfl | exact c_thaw rfl rfl rfl | exact c_row rfl rfl rfl | exact c_ptr rfl rfl rfl rfl | refine ⟨_, _, rfl, ?_, ?_⟩ | apply And.intro)) ?_
    rintro ⟨k, hk⟩
    dsimp only
    have hkl := prsD_len oB kB k
    repeat (first
      | refine awp_seq ?_
      | refine thenA_normal ?_
      | refine awp_block ?_
      | refine a_region ?_
      | refine a_draw1 mixed_ok (by kernel_rfl) ?_
      | refine awp_ret ?_
      | refine awp_exit ?_
      | refine thenA_exit ?_
      | refine thenA_ret ?_
      | refine blockA_normal ?_
      | refine blockA_ret ?_
      | refine blockA_hit rfl ?_
      | refine blockA_miss rfl ?_
      | refine awp_skip ?_
      | refine r_done ?_
      | refine r_done' ?_
      | (refine r_id ?_; first
        | refine r_len tab_ok rfl rfl rfl rfl rfl rfl rfl ?_
        | refine r_ev tab_ok rfl rfl rfl rfl (by first | exact trivial | exact ⟨by omega, by omega⟩ | omega | exact ⟨by omega, by omega, by omega, by omega⟩ | exact Nat.le_of_ble_eq_true rfl) rfl ?_
        | refine r_ld tab_ok rfl rfl rfl rfl rfl ?_
        | refine r_idx tab_ok rfl rfl rfl rfl rfl rfl rfl (by first | exact ⟨by omega, by omega⟩ | (simp; omega)) rfl rfl ?_
        | refine r_idxd tab_ok rfl rfl rfl rfl rfl rfl rfl (by decide) rfl rfl rfl ?_
        | refine r_wr tab_ok rfl rfl rfl rfl rfl ?_
        | refine r_st tab_ok rfl rfl rfl rfl ?_
        | refine r_len_cnd tab_ok rfl rfl rfl rfl rfl rfl (by first | exact fun _ => rfl | exact cs1) rfl rfl rfl ?_
        | refine r_ev_cnd tab_ok rfl rfl rfl rfl rfl rfl (by first | exact fun _ => rfl | exact cs1 | exact cs2 | exact cs3) (by first | exact fun _ => trivial | (intro h; simp at h; first | exact ⟨by omega, by omega⟩ | omega)) rfl ?_
        | refine r_ld_cnd tab_ok rfl rfl rfl rfl rfl rfl (by first | exact fun _ => rfl | exact cs1 | exact cs2 | exact cs3) rfl ?_
        | refine r_idx_cnd tab_ok rfl rfl rfl rfl rfl rfl rfl (by first | exact fun _ => rfl | exact cs1 | exact cs2) rfl rfl (by exact ⟨by omega, by omega⟩) rfl rfl ?_
        | refine r_idx_cnd' tab_ok rfl rfl rfl rfl rfl rfl rfl (by first | exact fun _ => rfl | exact cs1 | exact cs2) rfl rfl (by intro h; simp at h; exact ⟨by omega, by omega⟩) rfl rfl ?_
        | refine r_or rfl rfl rfl rfl rfl rfl rfl rfl ?_
        | refine r_and rfl rfl rfl rfl rfl rfl rfl rfl ?_
        | refine r_pick_t rfl rfl rfl rfl rfl rfl rfl ?_
        | refine r_pick_f rfl rfl rfl rfl rfl rfl rfl ?_
        | refine r_off rfl rfl rfl rfl rfl rfl ?_
        | refine r_len_on tab_ok rfl rfl rfl rfl rfl rfl rfl rfl rfl ?_
        | refine r_ev_on tab_ok rfl rfl rfl rfl rfl rfl (by first | exact trivial | exact ⟨by omega, by omega⟩ | omega) rfl ?_
        | refine r_ld_on tab_ok rfl rfl rfl rfl rfl rfl rfl ?_
        | refine r_build tab_ok rfl rfl rfl rfl rfl rfl ?_
        | refine r_bstr tab_ok rfl rfl rfl rfl rfl rfl rfl rfl rfl rfl ?_
        | refine r_build_cnd tab_ok rfl rfl rfl rfl rfl (by first | exact fun _ => rfl | exact cs1) rfl rfl rfl ?_
        | refine r_built_cnd tab_ok rfl rfl rfl rfl rfl rfl rfl rfl (by first | exact fun _ => rfl | exact cs1) rfl rfl rfl ?_
        | refine r_rem rfl rfl rfl rfl rfl rfl (by omega) rfl ?_
        | refine r_built0 tab_ok rfl rfl rfl rfl rfl rfl rfl ?_
        | refine r_built tab_ok rfl rfl rfl rfl rfl rfl rfl rfl rfl ?_
        | refine r_append tab_ok rfl rfl rfl rfl rfl rfl rfl rfl rfl (by first | omega | (simp; omega)) rfl ?_
        | refine r_append_nil tab_ok rfl rfl rfl rfl rfl rfl rfl rfl (by first | omega | (simp; omega)) rfl ?_)
      | refine ret1 (by first | exact .inl rfl | exact .inr rfl) rfl rfl rfl ?_
      | refine ret1_row (by first | exact .inl rfl | exact .inr rfl) rfl rfl rfl ?_
      | refine ret2 (by first | exact .inl rfl | exact .inr rfl) rfl rfl rfl rfl ?_ ?_
      | refine awp_cond_t rfl ?_
      | refine awp_cond_f rfl ?_)
    refine awp_cond_p rfl (fun hlt => ?_) (fun hge => ?_)
    · repeat (first
        | refine awp_seq ?_
        | refine thenA_normal ?_
        | refine awp_block ?_
        | refine a_region ?_
        | refine a_draw1 mixed_ok (by kernel_rfl) ?_
        | refine awp_ret ?_
        | refine awp_exit ?_
        | refine thenA_exit ?_
        | refine thenA_ret ?_
        | refine blockA_normal ?_
        | refine blockA_ret ?_
        | refine blockA_hit rfl ?_
        | refine blockA_miss rfl ?_
        | refine awp_skip ?_
        | refine r_done ?_
        | refine r_done' ?_
        | (refine r_id ?_; first
          | refine r_len tab_ok rfl rfl rfl rfl rfl rfl rfl ?_
          | refine r_ev tab_ok rfl rfl rfl rfl (by first | exact trivial | exact ⟨by omega, by omega⟩ | omega | exact ⟨by omega, by omega, by omega, by omega⟩ | exact Nat.le_of_ble_eq_true rfl) rfl ?_
          | refine r_ld tab_ok rfl rfl rfl rfl rfl ?_
          | refine r_idx tab_ok rfl rfl rfl rfl rfl rfl rfl (by first | exact ⟨by omega, by omega⟩ | (simp; omega)) rfl rfl ?_
          | refine r_idxd tab_ok rfl rfl rfl rfl rfl rfl rfl (by decide) rfl rfl rfl ?_
          | refine r_wr tab_ok rfl rfl rfl rfl rfl ?_
          | refine r_st tab_ok rfl rfl rfl rfl ?_
          | refine r_len_cnd tab_ok rfl rfl rfl rfl rfl rfl (by first | exact fun _ => rfl | exact cs1) rfl rfl rfl ?_
          | refine r_ev_cnd tab_ok rfl rfl rfl rfl rfl rfl (by first | exact fun _ => rfl | exact cs1 | exact cs2 | exact cs3) (by first | exact fun _ => trivial | (intro h; simp at h; first | exact ⟨by omega, by omega⟩ | omega)) rfl ?_
          | refine r_ld_cnd tab_ok rfl rfl rfl rfl rfl rfl (by first | exact fun _ => rfl | exact cs1 | exact cs2 | exact cs3) rfl ?_
          | refine r_idx_cnd tab_ok rfl rfl rfl rfl rfl rfl rfl (by first | exact fun _ => rfl | exact cs1 | exact cs2) rfl rfl (by exact ⟨by omega, by omega⟩) rfl rfl ?_
          | refine r_idx_cnd' tab_ok rfl rfl rfl rfl rfl rfl rfl (by first | exact fun _ => rfl | exact cs1 | exact cs2) rfl rfl (by intro h; simp at h; exact ⟨by omega, by omega⟩) rfl rfl ?_
          | refine r_or rfl rfl rfl rfl rfl rfl rfl rfl ?_
          | refine r_and rfl rfl rfl rfl rfl rfl rfl rfl ?_
          | refine r_pick_t rfl rfl rfl rfl rfl rfl rfl ?_
          | refine r_pick_f rfl rfl rfl rfl rfl rfl rfl ?_
          | refine r_off rfl rfl rfl rfl rfl rfl ?_
          | refine r_len_on tab_ok rfl rfl rfl rfl rfl rfl rfl rfl rfl ?_
          | refine r_ev_on tab_ok rfl rfl rfl rfl rfl rfl (by first | exact trivial | exact ⟨by omega, by omega⟩ | omega) rfl ?_
          | refine r_ld_on tab_ok rfl rfl rfl rfl rfl rfl rfl ?_
          | refine r_build tab_ok rfl rfl rfl rfl rfl rfl ?_
          | refine r_bstr tab_ok rfl rfl rfl rfl rfl rfl rfl rfl rfl rfl ?_
          | refine r_build_cnd tab_ok rfl rfl rfl rfl rfl (by first | exact fun _ => rfl | exact cs1) rfl rfl rfl ?_
          | refine r_built_cnd tab_ok rfl rfl rfl rfl rfl rfl rfl rfl (by first | exact fun _ => rfl | exact cs1) rfl rfl rfl ?_
          | refine r_rem rfl rfl rfl rfl rfl rfl (by omega) rfl ?_
          | refine r_built0 tab_ok rfl rfl rfl rfl rfl rfl rfl ?_
          | refine r_built tab_ok rfl rfl rfl rfl rfl rfl rfl rfl rfl ?_
          | refine r_append tab_ok rfl rfl rfl rfl rfl rfl rfl rfl rfl (by first | omega | (simp; omega)) rfl ?_
          | refine r_append_nil tab_ok rfl rfl rfl rfl rfl rfl rfl rfl (by first | omega | (simp; omega)) rfl ?_)
        | refine ret1 (by first | exact .inl rfl | exact .inr rfl) rfl rfl rfl ?_
        | refine ret1_row (by first | exact .inl rfl | exact .inr rfl) rfl rfl rfl ?_
        | refine ret2 (by first | exact .inl rfl | exact .inr rfl) rfl rfl rfl rfl ?_ ?_
        | refine awp_cond_t rfl ?_
        | refine awp_cond_f rfl ?_)
      exact ⟨⟨k + 1, by omega⟩, by dsimp only; omega, fits_conv (by repeat' first | exact trivial | exact rfl | exact c_sub rfl (Sub.refl _) rfl | exact c_nil rfl rfl | exact c_thaw rfl rfl rfl | exact c_row rfl rfl rfl | exact c_ptr rfl rfl rfl rfl | refine ⟨_, _, rfl, ?_, ?_⟩ | apply And.intro) (by repeat' first | exact trivial | exact rfl | exact c_sub rfl (Sub.refl _) rfl | exact c_nil rfl rfl | exact c_thaw rfl rfl rfl | exact c_row rfl rfl rfl | exact c_ptr rfl rfl rfl rfl | refine ⟨_, _, rfl, ?_, ?_⟩ | apply And.intro)⟩
    · obtain ⟨p, rfl⟩ : ∃ p : Nat, pairs = p := ⟨k, by omega⟩
      have : k = p := by omega
      subst this
      refine awp_fits (fits_conv (M' := [.box 26 (bx (.sl 1 (prsD oB kB k))), .gone]) (F' := [(5, .ptr 0 0), (0, .sl 1 (l.map iDn)), (1, .val (.int .i64 k))]) (by repeat' first | exact trivial | exact rfl | exact c_sub rfl (Sub.refl _) rfl | exact c_nil rfl rfl | exact c_thaw rfl rfl rfl | exact c_row rfl rfl rfl | exact c_ptr rfl rfl rfl rfl | refine ⟨_, _, rfl, ?_, ?_⟩ | apply And.intro) (by repeat' first | exact trivial | exact rfl | exact c_sub rfl (Sub.refl _) rfl | exact c_nil rfl rfl | exact c_thaw rfl rfl rfl | exact c_row rfl rfl rfl | exact c_ptr rfl rfl rfl rfl | refine ⟨_, _, rfl, ?_, ?_⟩ | apply And.intro)) ?_
      rw [prsD_eq]
      obtain ⟨kk, hkk⟩ : ∃ kk : List Int, kk = l.map fun n => 5 + roundF n 4 := ⟨_, rfl⟩
      have hkkl : kk.length = l.length := by rw [hkk, List.length_map]
      repeat (first
        | refine awp_seq ?_
        | refine thenA_normal ?_
        | refine awp_block ?_
        | refine a_region ?_
        | refine a_draw1 mixed_ok (by kernel_rfl) ?_
        | refine awp_ret ?_
        | refine awp_exit ?_
        | refine thenA_exit ?_
        | refine thenA_ret ?_
        | refine blockA_normal ?_
        | refine blockA_ret ?_
        | refine blockA_hit rfl ?_
        | refine blockA_miss rfl ?_
        | refine awp_skip ?_
        | refine r_done ?_
        | refine r_done' ?_
        | (refine r_id ?_; first
          | refine r_len tab_ok rfl rfl rfl rfl rfl rfl rfl ?_
          | refine r_ev tab_ok rfl rfl rfl rfl (by first | exact trivial | exact ⟨by omega, by omega⟩ | omega | exact ⟨by omega, by omega, by omega, by omega⟩ | exact Nat.le_of_ble_eq_true rfl) rfl ?_
          | refine r_ld tab_ok rfl rfl rfl rfl rfl ?_
          | refine r_idx tab_ok rfl rfl rfl rfl rfl rfl rfl (by first | exact ⟨by omega, by omega⟩ | (simp; omega)) rfl rfl ?_
          | refine r_idxd tab_ok rfl rfl rfl rfl rfl rfl rfl (by decide) rfl rfl rfl ?_
          | refine r_wr tab_ok rfl rfl rfl rfl rfl ?_
          | refine r_st tab_ok rfl rfl rfl rfl ?_
          | refine r_len_cnd tab_ok rfl rfl rfl rfl rfl rfl (by first | exact fun _ => rfl | exact cs1) rfl rfl rfl ?_
          | refine r_ev_cnd tab_ok rfl rfl rfl rfl rfl rfl (by first | exact fun _ => rfl | exact cs1 | exact cs2 | exact cs3) (by first | exact fun _ => trivial | (intro h; simp at h; first | exact ⟨by omega, by omega⟩ | omega)) rfl ?_
          | refine r_ld_cnd tab_ok rfl rfl rfl rfl rfl rfl (by first | exact fun _ => rfl | exact cs1 | exact cs2 | exact cs3) rfl ?_
          | refine r_idx_cnd tab_ok rfl rfl rfl rfl rfl rfl rfl (by first | exact fun _ => rfl | exact cs1 | exact cs2) rfl rfl (by exact ⟨by omega, by omega⟩) rfl rfl ?_
          | refine r_idx_cnd' tab_ok rfl rfl rfl rfl rfl rfl rfl (by first | exact fun _ => rfl | exact cs1 | exact cs2) rfl rfl (by intro h; simp at h; exact ⟨by omega, by omega⟩) rfl rfl ?_
          | refine r_or rfl rfl rfl rfl rfl rfl rfl rfl ?_
          | refine r_and rfl rfl rfl rfl rfl rfl rfl rfl ?_
          | refine r_pick_t rfl rfl rfl rfl rfl rfl rfl ?_
          | refine r_pick_f rfl rfl rfl rfl rfl rfl rfl ?_
          | refine r_off rfl rfl rfl rfl rfl rfl ?_
          | refine r_len_on tab_ok rfl rfl rfl rfl rfl rfl rfl rfl rfl ?_
          | refine r_ev_on tab_ok rfl rfl rfl rfl rfl rfl (by first | exact trivial | exact ⟨by omega, by omega⟩ | omega) rfl ?_
          | refine r_ld_on tab_ok rfl rfl rfl rfl rfl rfl rfl ?_
          | refine r_build tab_ok rfl rfl rfl rfl rfl rfl ?_
          | refine r_bstr tab_ok rfl rfl rfl rfl rfl rfl rfl rfl rfl rfl ?_
          | refine r_build_cnd tab_ok rfl rfl rfl rfl rfl (by first | exact fun _ => rfl | exact cs1) rfl rfl rfl ?_
          | refine r_built_cnd tab_ok rfl rfl rfl rfl rfl rfl rfl rfl (by first | exact fun _ => rfl | exact cs1) rfl rfl rfl ?_
          | refine r_rem rfl rfl rfl rfl rfl rfl (by omega) rfl ?_
          | refine r_built0 tab_ok rfl rfl rfl rfl rfl rfl rfl ?_
          | refine r_built tab_ok rfl rfl rfl rfl rfl rfl rfl rfl rfl ?_
          | refine r_append tab_ok rfl rfl rfl rfl rfl rfl rfl rfl rfl (by first | omega | (simp; omega)) rfl ?_
          | refine r_append_nil tab_ok rfl rfl rfl rfl rfl rfl rfl rfl (by first | omega | (simp; omega)) rfl ?_)
        | refine ret1 (by first | exact .inl rfl | exact .inr rfl) rfl rfl rfl ?_
        | refine ret1_row (by first | exact .inl rfl | exact .inr rfl) rfl rfl rfl ?_
        | refine ret2 (by first | exact .inl rfl | exact .inr rfl) rfl rfl rfl rfl ?_ ?_
        | refine awp_cond_t rfl ?_
        | refine awp_cond_f rfl ?_)
      refine a_loop (σ := {x : Nat // x ≤ l.length}) (fun x => [.box 26 (bx (.sl 1 ((prs oB kB k).map sD))), .gone, .row 0 3 1 ((kk.take x.1).map iDn)])
        (fun x => [(9, .val (.int .i64 x.1)), (8, .row 2 0), (7, .val (.int .i64 (depthF (kk.take x.1)))), (5, .ptr 0 0), (0, .sl 1 (l.map iDn)), (1, .val (.int .i64 k))]) (fun x => l.length - x.1) ⟨0, by simp⟩
        (fits_conv (by repeat' first | exact trivial | exact rfl | exact c_sub rfl (Sub.refl _) rfl | exact c_nil rfl rfl | exact c_thaw rfl rfl rfl | exact c_row rfl rfl rfl | exact c_ptr rfl rfl rfl rfl | refine ⟨_, _, rfl, ?_, ?_⟩ | apply And.intro) (by repeat' first | exact trivial | exact rfl | exact c_sub rfl (Sub.refl _) rfl | exact c_nil rfl rfl | exact c_thaw rfl rfl rfl | exact c_row rfl rfl rfl | exact c_ptr rfl rfl rfl rfl | refine ⟨_, _, rfl, ?_, ?_⟩ | apply And.intro)) ?_
      rintro ⟨x, hx⟩
      dsimp only
      have htl : (kk.take x).length = x := by rw [List.length_take]; omega
      have hd0 := (depthF_rng (kk.take x)).1
      have hd1 := depthF_le (kk.take x)
      obtain ⟨d, hd⟩ : ∃ d, d = depthF (kk.take x) := ⟨_, rfl⟩
      rw [← hd] at hd0 hd1 ⊢
      repeat (first
        | refine awp_seq ?_
        | refine thenA_normal ?_
        | refine awp_block ?_
        | refine a_region ?_
        | refine a_draw1 mixed_ok (by kernel_rfl) ?_
        | refine awp_ret ?_
        | refine awp_exit ?_
        | refine thenA_exit ?_
        | refine thenA_ret ?_
        | refine blockA_normal ?_
        | refine blockA_ret ?_
        | refine blockA_hit rfl ?_
        | refine blockA_miss rfl ?_
        | refine awp_skip ?_
        | refine r_done ?_
        | refine r_done' ?_
        | (refine r_id ?_; first
          | refine r_len tab_ok rfl rfl rfl rfl rfl rfl rfl ?_
          | refine r_ev tab_ok rfl rfl rfl rfl (by first | exact trivial | exact ⟨by omega, by omega⟩ | omega | exact ⟨by omega, by omega, by omega, by omega⟩ | exact Nat.le_of_ble_eq_true rfl) rfl ?_
          | refine r_ld tab_ok rfl rfl rfl rfl rfl ?_
          | refine r_idx tab_ok rfl rfl rfl rfl rfl rfl rfl (by first | exact ⟨by omega, by omega⟩ | (simp; omega)) rfl rfl ?_
          | refine r_idxd tab_ok rfl rfl rfl rfl rfl rfl rfl (by decide) rfl rfl rfl ?_
          | refine r_wr tab_ok rfl rfl rfl rfl rfl ?_
          | refine r_st tab_ok rfl rfl rfl rfl ?_
          | refine r_len_cnd tab_ok rfl rfl rfl rfl rfl rfl (by first | exact fun _ => rfl | exact cs1) rfl rfl rfl ?_
          | refine r_ev_cnd tab_ok rfl rfl rfl rfl rfl rfl (by first | exact fun _ => rfl | exact cs1 | exact cs2 | exact cs3) (by first | exact fun _ => trivial | (intro h; simp at h; first | exact ⟨by omega, by omega⟩ | omega)) rfl ?_
          | refine r_ld_cnd tab_ok rfl rfl rfl rfl rfl rfl (by first | exact fun _ => rfl | exact cs1 | exact cs2 | exact cs3) rfl ?_
          | refine r_idx_cnd tab_ok rfl rfl rfl rfl rfl rfl rfl (by first | exact fun _ => rfl | exact cs1 | exact cs2) rfl rfl (by exact ⟨by omega, by omega⟩) rfl rfl ?_
          | refine r_idx_cnd' tab_ok rfl rfl rfl rfl rfl rfl rfl (by first | exact fun _ => rfl | exact cs1 | exact cs2) rfl rfl (by intro h; simp at h; exact ⟨by omega, by omega⟩) rfl rfl ?_
          | refine r_or rfl rfl rfl rfl rfl rfl rfl rfl ?_
          | refine r_and rfl rfl rfl rfl rfl rfl rfl rfl ?_
          | refine r_pick_t rfl rfl rfl rfl rfl rfl rfl ?_
          | refine r_pick_f rfl rfl rfl rfl rfl rfl rfl ?_
          | refine r_off rfl rfl rfl rfl rfl rfl ?_
          | refine r_len_on tab_ok rfl rfl rfl rfl rfl rfl rfl rfl rfl ?_
          | refine r_ev_on tab_ok rfl rfl rfl rfl rfl rfl (by first | exact trivial | exact ⟨by omega, by omega⟩ | omega) rfl ?_
          | refine r_ld_on tab_ok rfl rfl rfl rfl rfl rfl rfl ?_
          | refine r_build tab_ok rfl rfl rfl rfl rfl rfl ?_
          | refine r_bstr tab_ok rfl rfl rfl rfl rfl rfl rfl rfl rfl rfl ?_
          | refine r_build_cnd tab_ok rfl rfl rfl rfl rfl (by first | exact fun _ => rfl | exact cs1) rfl rfl rfl ?_
          | refine r_built_cnd tab_ok rfl rfl rfl rfl rfl rfl rfl rfl (by first | exact fun _ => rfl | exact cs1) rfl rfl rfl ?_
          | refine r_rem rfl rfl rfl rfl rfl rfl (by omega) rfl ?_
          | refine r_built0 tab_ok rfl rfl rfl rfl rfl rfl rfl ?_
          | refine r_built tab_ok rfl rfl rfl rfl rfl rfl rfl rfl rfl ?_
          | refine r_append tab_ok rfl rfl rfl rfl rfl rfl rfl rfl rfl (by first | omega | (simp; omega)) rfl ?_
          | refine r_append_nil tab_ok rfl rfl rfl rfl rfl rfl rfl rfl (by first | omega | (simp; omega)) rfl ?_)
        | refine ret1 (by first | exact .inl rfl | exact .inr rfl) rfl rfl rfl ?_
        | refine ret1_row (by first | exact .inl rfl | exact .inr rfl) rfl rfl rfl ?_
        | refine ret2 (by first | exact .inl rfl | exact .inr rfl) rfl rfl rfl rfl ?_ ?_
        | refine awp_cond_t rfl ?_
        | refine awp_cond_f rfl ?_)
      refine awp_cond_p rfl (fun hlt => ?_) (fun hge => ?_)
      · have hr := roundF_rng (l[x]'(by omega)) 4 (by decide)
        have hget : kk[x]'(by omega) = 5 + roundF (l[x]'(by omega)) 4 := by subst hkk; simp
        have hstep : depthF (kk.take (x + 1)) = (doF st0 d (5 + roundF (l[x]'(by omega)) 4)).2 := by
          rw [take_succ_eq (by omega), depthF_snoc, hget, ← hd]
        rw [depth_step d _ hd0 (by omega)] at hstep
        have hrow : ∀ r, roundF (l[x]'(by omega)) 4 = r → (kk.take x).map iDn ++ [iDn (5 + r)] = (kk.take (x + 1)).map iDn := by
          rintro r rfl
          rw [take_succ_eq (by omega), List.map_append, hget]; rfl
        have hrr : roundF (l[x]'(by omega)) 4 = 0 ∨ roundF (l[x]'(by omega)) 4 = 1 ∨ roundF (l[x]'(by omega)) 4 = 2 ∨ roundF (l[x]'(by omega)) 4 = 3 := by omega
        repeat (first
          | refine awp_seq ?_
          | refine thenA_normal ?_
          | refine awp_block ?_
          | refine a_region ?_
          | refine a_draw1 mixed_ok (by kernel_rfl) ?_
          | refine awp_ret ?_
          | refine awp_exit ?_
          | refine thenA_exit ?_
          | refine thenA_ret ?_
          | refine blockA_normal ?_
          | refine blockA_ret ?_
          | refine blockA_hit rfl ?_
          | refine blockA_miss rfl ?_
          | refine awp_skip ?_
          | refine r_done ?_
          | refine r_done' ?_
          | (refine r_id ?_; first
            | refine r_len tab_ok rfl rfl rfl rfl rfl rfl rfl ?_
            | refine r_ev tab_ok rfl rfl rfl rfl (by first | exact trivial | exact ⟨by omega, by omega⟩ | omega | exact ⟨by omega, by omega, by omega, by omega⟩ | exact Nat.le_of_ble_eq_true rfl) rfl ?_
            | refine r_ld tab_ok rfl rfl rfl rfl rfl ?_
            | refine r_idx tab_ok rfl rfl rfl rfl rfl rfl rfl (by first | exact ⟨by omega, by omega⟩ | (simp; omega)) rfl rfl ?_
            | refine r_idxd tab_ok rfl rfl rfl rfl rfl rfl rfl (by decide) rfl rfl rfl ?_
            | refine r_wr tab_ok rfl rfl rfl rfl rfl ?_
            | refine r_st tab_ok rfl rfl rfl rfl ?_
            | refine r_len_cnd tab_ok rfl rfl rfl rfl rfl rfl (by first | exact fun _ => rfl | exact cs1) rfl rfl rfl ?_
            | refine r_ev_cnd tab_ok rfl rfl rfl rfl rfl rfl (by first | exact fun _ => rfl | exact cs1 | exact cs2 | exact cs3) (by first | exact fun _ => trivial | (intro h; simp at h; first | exact ⟨by omega, by omega⟩ | omega)) rfl ?_
            | refine r_ld_cnd tab_ok rfl rfl rfl rfl rfl rfl (by first | exact fun _ => rfl | exact cs1 | exact cs2 | exact cs3) rfl ?_
            | refine r_idx_cnd tab_ok rfl rfl rfl rfl rfl rfl rfl (by first | exact fun _ => rfl | exact cs1 | exact cs2) rfl rfl (by exact ⟨by omega, by omega⟩) rfl rfl ?_
            | refine r_idx_cnd' tab_ok rfl rfl rfl rfl rfl rfl rfl (by first | exact fun _ => rfl | exact cs1 | exact cs2) rfl rfl (by intro h; simp at h; exact ⟨by omega, by omega⟩) rfl rfl ?_
            | refine r_or rfl rfl rfl rfl rfl rfl rfl rfl ?_
            | refine r_and rfl rfl rfl rfl rfl rfl rfl rfl ?_
            | refine r_pick_t rfl rfl rfl rfl rfl rfl rfl ?_
            | refine r_pick_f rfl rfl rfl rfl rfl rfl rfl ?_
            | refine r_off rfl rfl rfl rfl rfl rfl ?_
            | refine r_len_on tab_ok rfl rfl rfl rfl rfl rfl rfl rfl rfl ?_
            | refine r_ev_on tab_ok rfl rfl rfl rfl rfl rfl (by first | exact trivial | exact ⟨by omega, by omega⟩ | omega) rfl ?_
            | refine r_ld_on tab_ok rfl rfl rfl rfl rfl rfl rfl ?_
            | refine r_build tab_ok rfl rfl rfl rfl rfl rfl ?_
            | refine r_bstr tab_ok rfl rfl rfl rfl rfl rfl rfl rfl rfl rfl ?_
            | refine r_build_cnd tab_ok rfl rfl rfl rfl rfl (by first | exact fun _ => rfl | exact cs1) rfl rfl rfl ?_
            | refine r_built_cnd tab_ok rfl rfl rfl rfl rfl rfl rfl rfl (by first | exact fun _ => rfl | exact cs1) rfl rfl rfl ?_
            | refine r_rem rfl rfl rfl rfl rfl rfl (by omega) rfl ?_
            | refine r_built0 tab_ok rfl rfl rfl rfl rfl rfl rfl ?_
            | refine r_built tab_ok rfl rfl rfl rfl rfl rfl rfl rfl rfl ?_
            | refine r_append tab_ok rfl rfl rfl rfl rfl rfl rfl rfl rfl (by first | omega | (simp; omega)) rfl ?_
            | refine r_append_nil tab_ok rfl rfl rfl rfl rfl rfl rfl rfl (by first | omega | (simp; omega)) rfl ?_)
          | refine ret1 (by first | exact .inl rfl | exact .inr rfl) rfl rfl rfl ?_
          | refine ret1_row (by first | exact .inl rfl | exact .inr rfl) rfl rfl rfl ?_
          | refine ret2 (by first | exact .inl rfl | exact .inr rfl) rfl rfl rfl rfl ?_ ?_
          | refine awp_cond_t rfl ?_
          | refine awp_cond_f rfl ?_)
        rcases hrr with hr' | hr' | hr' | hr'
        · have hst : depthF (kk.take (x + 1)) = d + 1 := by rw [hstep, hr', if_pos (by decide)]
          refine r_call (round2_ok _ 4 0 (by decide) (by decide) hr') call14 rfl rfl (by repeat' first | exact trivial | exact Sub.refl _ | exact Sub.nil _ | refine Sub.agg ?_ | apply And.intro) rfl rfl rfl rfl ?_
          repeat (first
            | refine awp_seq ?_
            | refine thenA_normal ?_
            | refine awp_block ?_
            | refine a_region ?_
            | refine a_draw1 mixed_ok (by kernel_rfl) ?_
            | refine awp_ret ?_
            | refine awp_exit ?_
            | refine thenA_exit ?_
            | refine thenA_ret ?_
            | refine blockA_normal ?_
            | refine blockA_ret ?_
            | refine blockA_hit rfl ?_
            | refine blockA_miss rfl ?_
            | refine awp_skip ?_
            | refine r_done ?_
            | refine r_done' ?_
            | (refine r_id ?_; first
              | refine r_len tab_ok rfl rfl rfl rfl rfl rfl rfl ?_
              | refine r_ev tab_ok rfl rfl rfl rfl (by first | exact trivial | exact ⟨by omega, by omega⟩ | omega | exact ⟨by omega, by omega, by omega, by omega⟩ | exact Nat.le_of_ble_eq_true rfl) rfl ?_
              | refine r_ld tab_ok rfl rfl rfl rfl rfl ?_
              | refine r_idx tab_ok rfl rfl rfl rfl rfl rfl rfl (by first | exact ⟨by omega, by omega⟩ | (simp; omega)) rfl rfl ?_
              | refine r_idxd tab_ok rfl rfl rfl rfl rfl rfl rfl (by decide) rfl rfl rfl ?_
              | refine r_wr tab_ok rfl rfl rfl rfl rfl ?_
              | refine r_st tab_ok rfl rfl rfl rfl ?_
              | refine r_len_cnd tab_ok rfl rfl rfl rfl rfl rfl (by first | exact fun _ => rfl | exact cs1) rfl rfl rfl ?_
              | refine r_ev_cnd tab_ok rfl rfl rfl rfl rfl rfl (by first | exact fun _ => rfl | exact cs1 | exact cs2 | exact cs3) (by first | exact fun _ => trivial | (intro h; simp at h; first | exact ⟨by omega, by omega⟩ | omega)) rfl ?_
              | refine r_ld_cnd tab_ok rfl rfl rfl rfl rfl rfl (by first | exact fun _ => rfl | exact cs1 | exact cs2 | exact cs3) rfl ?_
              | refine r_idx_cnd tab_ok rfl rfl rfl rfl rfl rfl rfl (by first | exact fun _ => rfl | exact cs1 | exact cs2) rfl rfl (by exact ⟨by omega, by omega⟩) rfl rfl ?_
              | refine r_idx_cnd' tab_ok rfl rfl rfl rfl rfl rfl rfl (by first | exact fun _ => rfl | exact cs1 | exact cs2) rfl rfl (by intro h; simp at h; exact ⟨by omega, by omega⟩) rfl rfl ?_
              | refine r_or rfl rfl rfl rfl rfl rfl rfl rfl ?_
              | refine r_and rfl rfl rfl rfl rfl rfl rfl rfl ?_
              | refine r_pick_t rfl rfl rfl rfl rfl rfl rfl ?_
              | refine r_pick_f rfl rfl rfl rfl rfl rfl rfl ?_
              | refine r_off rfl rfl rfl rfl rfl rfl ?_
              | refine r_len_on tab_ok rfl rfl rfl rfl rfl rfl rfl rfl rfl ?_
              | refine r_ev_on tab_ok rfl rfl rfl rfl rfl rfl (by first | exact trivial | exact ⟨by omega, by omega⟩ | omega) rfl ?_
              | refine r_ld_on tab_ok rfl rfl rfl rfl rfl rfl rfl ?_
              | refine r_build tab_ok rfl rfl rfl rfl rfl rfl ?_
              | refine r_bstr tab_ok rfl rfl rfl rfl rfl rfl rfl rfl rfl rfl ?_
              | refine r_build_cnd tab_ok rfl rfl rfl rfl rfl (by first | exact fun _ => rfl | exact cs1) rfl rfl rfl ?_
              | refine r_built_cnd tab_ok rfl rfl rfl rfl rfl rfl rfl rfl (by first | exact fun _ => rfl | exact cs1) rfl rfl rfl ?_
              | refine r_rem rfl rfl rfl rfl rfl rfl (by omega) rfl ?_
              | refine r_built0 tab_ok rfl rfl rfl rfl rfl rfl rfl ?_
              | refine r_built tab_ok rfl rfl rfl rfl rfl rfl rfl rfl rfl ?_
              | refine r_append tab_ok rfl rfl rfl rfl rfl rfl rfl rfl rfl (by first | omega | (simp; omega)) rfl ?_
              | refine r_append_nil tab_ok rfl rfl rfl rfl rfl rfl rfl rfl (by first | omega | (simp; omega)) rfl ?_)
            | refine ret1 (by first | exact .inl rfl | exact .inr rfl) rfl rfl rfl ?_
            | refine ret1_row (by first | exact .inl rfl | exact .inr rfl) rfl rfl rfl ?_
            | refine ret2 (by first | exact .inl rfl | exact .inr rfl) rfl rfl rfl rfl ?_ ?_
            | refine awp_cond_t rfl ?_
            | refine awp_cond_f rfl ?_)
          refine r_call (stDo5 oB kB k d (by omega) hd0 (by omega)) call9 rfl rfl ⟨stP_sub _, Sub.refl _, Sub.refl _, trivial⟩ rfl rfl rfl rfl ?_
          repeat (first
            | refine awp_seq ?_
            | refine thenA_normal ?_
            | refine awp_block ?_
            | refine a_region ?_
            | refine a_draw1 mixed_ok (by kernel_rfl) ?_
            | refine awp_ret ?_
            | refine awp_exit ?_
            | refine thenA_exit ?_
            | refine thenA_ret ?_
            | refine blockA_normal ?_
            | refine blockA_ret ?_
            | refine blockA_hit rfl ?_
            | refine blockA_miss rfl ?_
            | refine awp_skip ?_
            | refine r_done ?_
            | refine r_done' ?_
            | (refine r_id ?_; first
              | refine r_len tab_ok rfl rfl rfl rfl rfl rfl rfl ?_
              | refine r_ev tab_ok rfl rfl rfl rfl (by first | exact trivial | exact ⟨by omega, by omega⟩ | omega | exact ⟨by omega, by omega, by omega, by omega⟩ | exact Nat.le_of_ble_eq_true rfl) rfl ?_
              | refine r_ld tab_ok rfl rfl rfl rfl rfl ?_
              | refine r_idx tab_ok rfl rfl rfl rfl rfl rfl rfl (by first | exact ⟨by omega, by omega⟩ | (simp; omega)) rfl rfl ?_
              | refine r_idxd tab_ok rfl rfl rfl rfl rfl rfl rfl (by decide) rfl rfl rfl ?_
              | refine r_wr tab_ok rfl rfl rfl rfl rfl ?_
              | refine r_st tab_ok rfl rfl rfl rfl ?_
              | refine r_len_cnd tab_ok rfl rfl rfl rfl rfl rfl (by first | exact fun _ => rfl | exact cs1) rfl rfl rfl ?_
              | refine r_ev_cnd tab_ok rfl rfl rfl rfl rfl rfl (by first | exact fun _ => rfl | exact cs1 | exact cs2 | exact cs3) (by first | exact fun _ => trivial | (intro h; simp at h; first | exact ⟨by omega, by omega⟩ | omega)) rfl ?_
              | refine r_ld_cnd tab_ok rfl rfl rfl rfl rfl rfl (by first | exact fun _ => rfl | exact cs1 | exact cs2 | exact cs3) rfl ?_
              | refine r_idx_cnd tab_ok rfl rfl rfl rfl rfl rfl rfl (by first | exact fun _ => rfl | exact cs1 | exact cs2) rfl rfl (by exact ⟨by omega, by omega⟩) rfl rfl ?_
              | refine r_idx_cnd' tab_ok rfl rfl rfl rfl rfl rfl rfl (by first | exact fun _ => rfl | exact cs1 | exact cs2) rfl rfl (by intro h; simp at h; exact ⟨by omega, by omega⟩) rfl rfl ?_
              | refine r_or rfl rfl rfl rfl rfl rfl rfl rfl ?_
              | refine r_and rfl rfl rfl rfl rfl rfl rfl rfl ?_
              | refine r_pick_t rfl rfl rfl rfl rfl rfl rfl ?_
              | refine r_pick_f rfl rfl rfl rfl rfl rfl rfl ?_
              | refine r_off rfl rfl rfl rfl rfl rfl ?_
              | refine r_len_on tab_ok rfl rfl rfl rfl rfl rfl rfl rfl rfl ?_
              | refine r_ev_on tab_ok rfl rfl rfl rfl rfl rfl (by first | exact trivial | exact ⟨by omega, by omega⟩ | omega) rfl ?_
              | refine r_ld_on tab_ok rfl rfl rfl rfl rfl rfl rfl ?_
              | refine r_build tab_ok rfl rfl rfl rfl rfl rfl ?_
              | refine r_bstr tab_ok rfl rfl rfl rfl rfl rfl rfl rfl rfl rfl ?_
              | refine r_build_cnd tab_ok rfl rfl rfl rfl rfl (by first | exact fun _ => rfl | exact cs1) rfl rfl rfl ?_
              | refine r_built_cnd tab_ok rfl rfl rfl rfl rfl rfl rfl rfl (by first | exact fun _ => rfl | exact cs1) rfl rfl rfl ?_
              | refine r_rem rfl rfl rfl rfl rfl rfl (by omega) rfl ?_
              | refine r_built0 tab_ok rfl rfl rfl rfl rfl rfl rfl ?_
              | refine r_built tab_ok rfl rfl rfl rfl rfl rfl rfl rfl rfl ?_
              | refine r_append tab_ok rfl rfl rfl rfl rfl rfl rfl rfl rfl (by first | omega | (simp; omega)) rfl ?_
              | refine r_append_nil tab_ok rfl rfl rfl rfl rfl rfl rfl rfl (by first | omega | (simp; omega)) rfl ?_)
            | refine ret1 (by first | exact .inl rfl | exact .inr rfl) rfl rfl rfl ?_
            | refine ret1_row (by first | exact .inl rfl | exact .inr rfl) rfl rfl rfl ?_
            | refine ret2 (by first | exact .inl rfl | exact .inr rfl) rfl rfl rfl rfl ?_ ?_
            | refine awp_cond_t rfl ?_
            | refine awp_cond_f rfl ?_)
          refine awp_cond rfl (fun hb => ?_) (fun _ => ?_)
          · exfalso
            rw [mkS_oB (by omega) hd0] at hb
            simp at hb
          · repeat (first
              | refine awp_seq ?_
              | refine thenA_normal ?_
              | refine awp_block ?_
              | refine a_region ?_
              | refine a_draw1 mixed_ok (by kernel_rfl) ?_
              | refine awp_ret ?_
              | refine awp_exit ?_
              | refine thenA_exit ?_
              | refine thenA_ret ?_
              | refine blockA_normal ?_
              | refine blockA_ret ?_
              | refine blockA_hit rfl ?_
              | refine blockA_miss rfl ?_
              | refine awp_skip ?_
              | refine r_done ?_
              | refine r_done' ?_
              | (refine r_id ?_; first
                | refine r_len tab_ok rfl rfl rfl rfl rfl rfl rfl ?_
                | refine r_ev tab_ok rfl rfl rfl rfl (by first | exact trivial | exact ⟨by omega, by omega⟩ | omega | exact ⟨by omega, by omega, by omega, by omega⟩ | exact Nat.le_of_ble_eq_true rfl) rfl ?_
                | refine r_ld tab_ok rfl rfl rfl rfl rfl ?_
                | refine r_idx tab_ok rfl rfl rfl rfl rfl rfl rfl (by first | exact ⟨by omega, by omega⟩ | (simp; omega)) rfl rfl ?_
                | refine r_idxd tab_ok rfl rfl rfl rfl rfl rfl rfl (by decide) rfl rfl rfl ?_
                | refine r_wr tab_ok rfl rfl rfl rfl rfl ?_
                | refine r_st tab_ok rfl rfl rfl rfl ?_
                | refine r_len_cnd tab_ok rfl rfl rfl rfl rfl rfl (by first | exact fun _ => rfl | exact cs1) rfl rfl rfl ?_
                | refine r_ev_cnd tab_ok rfl rfl rfl rfl rfl rfl (by first | exact fun _ => rfl | exact cs1 | exact cs2 | exact cs3) (by first | exact fun _ => trivial | (intro h; simp at h; first | exact ⟨by omega, by omega⟩ | omega)) rfl ?_
                | refine r_ld_cnd tab_ok rfl rfl rfl rfl rfl rfl (by first | exact fun _ => rfl | exact cs1 | exact cs2 | exact cs3) rfl ?_
                | refine r_idx_cnd tab_ok rfl rfl rfl rfl rfl rfl rfl (by first | exact fun _ => rfl | exact cs1 | exact cs2) rfl rfl (by exact ⟨by omega, by omega⟩) rfl rfl ?_
                | refine r_idx_cnd' tab_ok rfl rfl rfl rfl rfl rfl rfl (by first | exact fun _ => rfl | exact cs1 | exact cs2) rfl rfl (by intro h; simp at h; exact ⟨by omega, by omega⟩) rfl rfl ?_
                | refine r_or rfl rfl rfl rfl rfl rfl rfl rfl ?_
                | refine r_and rfl rfl rfl rfl rfl rfl rfl rfl ?_
                | refine r_pick_t rfl rfl rfl rfl rfl rfl rfl ?_
                | refine r_pick_f rfl rfl rfl rfl rfl rfl rfl ?_
                | refine r_off rfl rfl rfl rfl rfl rfl ?_
                | refine r_len_on tab_ok rfl rfl rfl rfl rfl rfl rfl rfl rfl ?_
                | refine r_ev_on tab_ok rfl rfl rfl rfl rfl rfl (by first | exact trivial | exact ⟨by omega, by omega⟩ | omega) rfl ?_
                | refine r_ld_on tab_ok rfl rfl rfl rfl rfl rfl rfl ?_
                | refine r_build tab_ok rfl rfl rfl rfl rfl rfl ?_
                | refine r_bstr tab_ok rfl rfl rfl rfl rfl rfl rfl rfl rfl rfl ?_
                | refine r_build_cnd tab_ok rfl rfl rfl rfl rfl (by first | exact fun _ => rfl | exact cs1) rfl rfl rfl ?_
                | refine r_built_cnd tab_ok rfl rfl rfl rfl rfl rfl rfl rfl (by first | exact fun _ => rfl | exact cs1) rfl rfl rfl ?_
                | refine r_rem rfl rfl rfl rfl rfl rfl (by omega) rfl ?_
                | refine r_built0 tab_ok rfl rfl rfl rfl rfl rfl rfl ?_
                | refine r_built tab_ok rfl rfl rfl rfl rfl rfl rfl rfl rfl ?_
                | refine r_append tab_ok rfl rfl rfl rfl rfl rfl rfl rfl rfl (by first | omega | (simp; omega)) rfl ?_
                | refine r_append_nil tab_ok rfl rfl rfl rfl rfl rfl rfl rfl (by first | omega | (simp; omega)) rfl ?_)
              | refine ret1 (by first | exact .inl rfl | exact .inr rfl) rfl rfl rfl ?_
              | refine ret1_row (by first | exact .inl rfl | exact .inr rfl) rfl rfl rfl ?_
              | refine ret2 (by first | exact .inl rfl | exact .inr rfl) rfl rfl rfl rfl ?_ ?_
              | refine awp_cond_t rfl ?_
              | refine awp_cond_f rfl ?_)
            exact ⟨⟨x + 1, by omega⟩, by dsimp only; omega, fits_conv (by repeat' first | exact trivial | exact hrow _ hr' | exact rfl | exact c_sub rfl (Sub.refl _) rfl | exact c_sub rfl (Sub.of_eq (by rw [hst]; rfl)) rfl | exact c_ptr rfl rfl rfl rfl | exact c_row rfl rfl (hrow _ hr') | refine ⟨_, _, rfl, ?_, ?_⟩ | apply And.intro) (by repeat' first | exact trivial | exact hrow _ hr' | exact rfl | exact c_sub rfl (Sub.refl _) rfl | exact c_sub rfl (Sub.of_eq (by rw [hst]; rfl)) rfl | exact c_ptr rfl rfl rfl rfl | exact c_row rfl rfl (hrow _ hr') | refine ⟨_, _, rfl, ?_, ?_⟩ | apply And.intro)⟩
        · have hst0 : depthF (kk.take (x + 1)) = max (d - 1) 0 := by rw [hstep, hr', if_neg (by decide), if_pos (by decide)]
          rcases Int.lt_or_le 0 d with hdp | hdp
          · have hst : depthF (kk.take (x + 1)) = d - 1 := by omega
            refine r_call (round2_ok _ 4 1 (by decide) (by decide) hr') call14 rfl rfl (by repeat' first | exact trivial | exact Sub.refl _ | exact Sub.nil _ | refine Sub.agg ?_ | apply And.intro) rfl rfl rfl rfl ?_
            repeat (first
              | refine awp_seq ?_
              | refine thenA_normal ?_
              | refine awp_block ?_
              | refine a_region ?_
              | refine a_draw1 mixed_ok (by kernel_rfl) ?_
              | refine awp_ret ?_
              | refine awp_exit ?_
              | refine thenA_exit ?_
              | refine thenA_ret ?_
              | refine blockA_normal ?_
              | refine blockA_ret ?_
              | refine blockA_hit rfl ?_
              | refine blockA_miss rfl ?_
              | refine awp_skip ?_
              | refine r_done ?_
              | refine r_done' ?_
              | (refine r_id ?_; first
                | refine r_len tab_ok rfl rfl rfl rfl rfl rfl rfl ?_
                | refine r_ev tab_ok rfl rfl rfl rfl (by first | exact trivial | exact ⟨by omega, by omega⟩ | omega | exact ⟨by omega, by omega, by omega, by omega⟩ | exact Nat.le_of_ble_eq_true rfl) rfl ?_
                | refine r_ld tab_ok rfl rfl rfl rfl rfl ?_
                | refine r_idx tab_ok rfl rfl rfl rfl rfl rfl rfl (by first | exact ⟨by omega, by omega⟩ | (simp; omega)) rfl rfl ?_
                | refine r_idxd tab_ok rfl rfl rfl rfl rfl rfl rfl (by decide) rfl rfl rfl ?_
                | refine r_wr tab_ok rfl rfl rfl rfl rfl ?_
                | refine r_st tab_ok rfl rfl rfl rfl ?_
                | refine r_len_cnd tab_ok rfl rfl rfl rfl rfl rfl (by first | exact fun _ => rfl | exact cs1) rfl rfl rfl ?_
                | refine r_ev_cnd tab_ok rfl rfl rfl rfl rfl rfl (by first | exact fun _ => rfl | exact cs1 | exact cs2 | exact cs3) (by first | exact fun _ => trivial | (intro h; simp at h; first | exact ⟨by omega, by omega⟩ | omega)) rfl ?_
                | refine r_ld_cnd tab_ok rfl rfl rfl rfl rfl rfl (by first | exact fun _ => rfl | exact cs1 | exact cs2 | exact cs3) rfl ?_
                | refine r_idx_cnd tab_ok rfl rfl rfl rfl rfl rfl rfl (by first | exact fun _ => rfl | exact cs1 | exact cs2) rfl rfl (by exact ⟨by omega, by omega⟩) rfl rfl ?_
                | refine r_idx_cnd' tab_ok rfl rfl rfl rfl rfl rfl rfl (by first | exact fun _ => rfl | exact cs1 | exact cs2) rfl rfl (by intro h; simp at h; exact ⟨by omega, by omega⟩) rfl rfl ?_
                | refine r_or rfl rfl rfl rfl rfl rfl rfl rfl ?_
                | refine r_and rfl rfl rfl rfl rfl rfl rfl rfl ?_
                | refine r_pick_t rfl rfl rfl rfl rfl rfl rfl ?_
                | refine r_pick_f rfl rfl rfl rfl rfl rfl rfl ?_
                | refine r_off rfl rfl rfl rfl rfl rfl ?_
                | refine r_len_on tab_ok rfl rfl rfl rfl rfl rfl rfl rfl rfl ?_
                | refine r_ev_on tab_ok rfl rfl rfl rfl rfl rfl (by first | exact trivial | exact ⟨by omega, by omega⟩ | omega) rfl ?_
                | refine r_ld_on tab_ok rfl rfl rfl rfl rfl rfl rfl ?_
                | refine r_build tab_ok rfl rfl rfl rfl rfl rfl ?_
                | refine r_bstr tab_ok rfl rfl rfl rfl rfl rfl rfl rfl rfl rfl ?_
                | refine r_build_cnd tab_ok rfl rfl rfl rfl rfl (by first | exact fun _ => rfl | exact cs1) rfl rfl rfl ?_
                | refine r_built_cnd tab_ok rfl rfl rfl rfl rfl rfl rfl rfl (by first | exact fun _ => rfl | exact cs1) rfl rfl rfl ?_
                | refine r_rem rfl rfl rfl rfl rfl rfl (by omega) rfl ?_
                | refine r_built0 tab_ok rfl rfl rfl rfl rfl rfl rfl ?_
                | refine r_built tab_ok rfl rfl rfl rfl rfl rfl rfl rfl rfl ?_
                | refine r_append tab_ok rfl rfl rfl rfl rfl rfl rfl rfl rfl (by first | omega | (simp; omega)) rfl ?_
                | refine r_append_nil tab_ok rfl rfl rfl rfl rfl rfl rfl rfl (by first | omega | (simp; omega)) rfl ?_)
              | refine ret1 (by first | exact .inl rfl | exact .inr rfl) rfl rfl rfl ?_
              | refine ret1_row (by first | exact .inl rfl | exact .inr rfl) rfl rfl rfl ?_
              | refine ret2 (by first | exact .inl rfl | exact .inr rfl) rfl rfl rfl rfl ?_ ?_
              | refine awp_cond_t rfl ?_
              | refine awp_cond_f rfl ?_)
            refine r_call (stDo6 oB kB k d (by omega) (by omega) (by omega)) call9 rfl rfl ⟨stP_sub _, Sub.refl _, Sub.refl _, trivial⟩ rfl rfl rfl rfl ?_
            repeat (first
              | refine awp_seq ?_
              | refine thenA_normal ?_
              | refine awp_block ?_
              | refine a_region ?_
              | refine a_draw1 mixed_ok (by kernel_rfl) ?_
              | refine awp_ret ?_
              | refine awp_exit ?_
              | refine thenA_exit ?_
              | refine thenA_ret ?_
              | refine blockA_normal ?_
              | refine blockA_ret ?_
              | refine blockA_hit rfl ?_
              | refine blockA_miss rfl ?_
              | refine awp_skip ?_
              | refine r_done ?_
              | refine r_done' ?_
              | (refine r_id ?_; first
                | refine r_len tab_ok rfl rfl rfl rfl rfl rfl rfl ?_
                | refine r_ev tab_ok rfl rfl rfl rfl (by first | exact trivial | exact ⟨by omega, by omega⟩ | omega | exact ⟨by omega, by omega, by omega, by omega⟩ | exact Nat.le_of_ble_eq_true rfl) rfl ?_
                | refine r_ld tab_ok rfl rfl rfl rfl rfl ?_
                | refine r_idx tab_ok rfl rfl rfl rfl rfl rfl rfl (by first | exact ⟨by omega, by omega⟩ | (simp; omega)) rfl rfl ?_
                | refine r_idxd tab_ok rfl rfl rfl rfl rfl rfl rfl (by decide) rfl rfl rfl ?_
                | refine r_wr tab_ok rfl rfl rfl rfl rfl ?_
                | refine r_st tab_ok rfl rfl rfl rfl ?_
                | refine r_len_cnd tab_ok rfl rfl rfl rfl rfl rfl (by first | exact fun _ => rfl | exact cs1) rfl rfl rfl ?_
                | refine r_ev_cnd tab_ok rfl rfl rfl rfl rfl rfl (by first | exact fun _ => rfl | exact cs1 | exact cs2 | exact cs3) (by first | exact fun _ => trivial | (intro h; simp at h; first | exact ⟨by omega, by omega⟩ | omega)) rfl ?_
                | refine r_ld_cnd tab_ok rfl rfl rfl rfl rfl rfl (by first | exact fun _ => rfl | exact cs1 | exact cs2 | exact cs3) rfl ?_
                | refine r_idx_cnd tab_ok rfl rfl rfl rfl rfl rfl rfl (by first | exact fun _ => rfl | exact cs1 | exact cs2) rfl rfl (by exact ⟨by omega, by omega⟩) rfl rfl ?_
                | refine r_idx_cnd' tab_ok rfl rfl rfl rfl rfl rfl rfl (by first | exact fun _ => rfl | exact cs1 | exact cs2) rfl rfl (by intro h; simp at h; exact ⟨by omega, by omega⟩) rfl rfl ?_
                | refine r_or rfl rfl rfl rfl rfl rfl rfl rfl ?_
                | refine r_and rfl rfl rfl rfl rfl rfl rfl rfl ?_
                | refine r_pick_t rfl rfl rfl rfl rfl rfl rfl ?_
                | refine r_pick_f rfl rfl rfl rfl rfl rfl rfl ?_
                | refine r_off rfl rfl rfl rfl rfl rfl ?_
                | refine r_len_on tab_ok rfl rfl rfl rfl rfl rfl rfl rfl rfl ?_
                | refine r_ev_on tab_ok rfl rfl rfl rfl rfl rfl (by first | exact trivial | exact ⟨by omega, by omega⟩ | omega) rfl ?_
                | refine r_ld_on tab_ok rfl rfl rfl rfl rfl rfl rfl ?_
                | refine r_build tab_ok rfl rfl rfl rfl rfl rfl ?_
                | refine r_bstr tab_ok rfl rfl rfl rfl rfl rfl rfl rfl rfl rfl ?_
                | refine r_build_cnd tab_ok rfl rfl rfl rfl rfl (by first | exact fun _ => rfl | exact cs1) rfl rfl rfl ?_
                | refine r_built_cnd tab_ok rfl rfl rfl rfl rfl rfl rfl rfl (by first | exact fun _ => rfl | exact cs1) rfl rfl rfl ?_
                | refine r_rem rfl rfl rfl rfl rfl rfl (by omega) rfl ?_
                | refine r_built0 tab_ok rfl rfl rfl rfl rfl rfl rfl ?_
                | refine r_built tab_ok rfl rfl rfl rfl rfl rfl rfl rfl rfl ?_
                | refine r_append tab_ok rfl rfl rfl rfl rfl rfl rfl rfl rfl (by first | omega | (simp; omega)) rfl ?_
                | refine r_append_nil tab_ok rfl rfl rfl rfl rfl rfl rfl rfl (by first | omega | (simp; omega)) rfl ?_)
              | refine ret1 (by first | exact .inl rfl | exact .inr rfl) rfl rfl rfl ?_
              | refine ret1_row (by first | exact .inl rfl | exact .inr rfl) rfl rfl rfl ?_
              | refine ret2 (by first | exact .inl rfl | exact .inr rfl) rfl rfl rfl rfl ?_ ?_
              | refine awp_cond_t rfl ?_
              | refine awp_cond_f rfl ?_)
            refine awp_cond_p rfl (fun _ => ?_) (fun h => absurd hdp h)
            repeat (first
              | refine awp_seq ?_
              | refine thenA_normal ?_
              | refine awp_block ?_
              | refine a_region ?_
              | refine a_draw1 mixed_ok (by kernel_rfl) ?_
              | refine awp_ret ?_
              | refine awp_exit ?_
              | refine thenA_exit ?_
              | refine thenA_ret ?_
              | refine blockA_normal ?_
              | refine blockA_ret ?_
              | refine blockA_hit rfl ?_
              | refine blockA_miss rfl ?_
              | refine awp_skip ?_
              | refine r_done ?_
              | refine r_done' ?_
              | (refine r_id ?_; first
                | refine r_len tab_ok rfl rfl rfl rfl rfl rfl rfl ?_
                | refine r_ev tab_ok rfl rfl rfl rfl (by first | exact trivial | exact ⟨by omega, by omega⟩ | omega | exact ⟨by omega, by omega, by omega, by omega⟩ | exact Nat.le_of_ble_eq_true rfl) rfl ?_
                | refine r_ld tab_ok rfl rfl rfl rfl rfl ?_
                | refine r_idx tab_ok rfl rfl rfl rfl rfl rfl rfl (by first | exact ⟨by omega, by omega⟩ | (simp; omega)) rfl rfl ?_
                | refine r_idxd tab_ok rfl rfl rfl rfl rfl rfl rfl (by decide) rfl rfl rfl ?_
                | refine r_wr tab_ok rfl rfl rfl rfl rfl ?_
                | refine r_st tab_ok rfl rfl rfl rfl ?_
                | refine r_len_cnd tab_ok rfl rfl rfl rfl rfl rfl (by first | exact fun _ => rfl | exact cs1) rfl rfl rfl ?_
                | refine r_ev_cnd tab_ok rfl rfl rfl rfl rfl rfl (by first | exact fun _ => rfl | exact cs1 | exact cs2 | exact cs3) (by first | exact fun _ => trivial | (intro h; simp at h; first | exact ⟨by omega, by omega⟩ | omega)) rfl ?_
                | refine r_ld_cnd tab_ok rfl rfl rfl rfl rfl rfl (by first | exact fun _ => rfl | exact cs1 | exact cs2 | exact cs3) rfl ?_
                | refine r_idx_cnd tab_ok rfl rfl rfl rfl rfl rfl rfl (by first | exact fun _ => rfl | exact cs1 | exact cs2) rfl rfl (by exact ⟨by omega, by omega⟩) rfl rfl ?_
                | refine r_idx_cnd' tab_ok rfl rfl rfl rfl rfl rfl rfl (by first | exact fun _ => rfl | exact cs1 | exact cs2) rfl rfl (by intro h; simp at h; exact ⟨by omega, by omega⟩) rfl rfl ?_
                | refine r_or rfl rfl rfl rfl rfl rfl rfl rfl ?_
                | refine r_and rfl rfl rfl rfl rfl rfl rfl rfl ?_
                | refine r_pick_t rfl rfl rfl rfl rfl rfl rfl ?_
                | refine r_pick_f rfl rfl rfl rfl rfl rfl rfl ?_
                | refine r_off rfl rfl rfl rfl rfl rfl ?_
                | refine r_len_on tab_ok rfl rfl rfl rfl rfl rfl rfl rfl rfl ?_
                | refine r_ev_on tab_ok rfl rfl rfl rfl rfl rfl (by first | exact trivial | exact ⟨by omega, by omega⟩ | omega) rfl ?_
                | refine r_ld_on tab_ok rfl rfl rfl rfl rfl rfl rfl ?_
                | refine r_build tab_ok rfl rfl rfl rfl rfl rfl ?_
                | refine r_bstr tab_ok rfl rfl rfl rfl rfl rfl rfl rfl rfl rfl ?_
                | refine r_build_cnd tab_ok rfl rfl rfl rfl rfl (by first | exact fun _ => rfl | exact cs1) rfl rfl rfl ?_
                | refine r_built_cnd tab_ok rfl rfl rfl rfl rfl rfl rfl rfl (by first | exact fun _ => rfl | exact cs1) rfl rfl rfl ?_
                | refine r_rem rfl rfl rfl rfl rfl rfl (by omega) rfl ?_
                | refine r_built0 tab_ok rfl rfl rfl rfl rfl rfl rfl ?_
                | refine r_built tab_ok rfl rfl rfl rfl rfl rfl rfl rfl rfl ?_
                | refine r_append tab_ok rfl rfl rfl rfl rfl rfl rfl rfl rfl (by first | omega | (simp; omega)) rfl ?_
                | refine r_append_nil tab_ok rfl rfl rfl rfl rfl rfl rfl rfl (by first | omega | (simp; omega)) rfl ?_)
              | refine ret1 (by first | exact .inl rfl | exact .inr rfl) rfl rfl rfl ?_
              | refine ret1_row (by first | exact .inl rfl | exact .inr rfl) rfl rfl rfl ?_
              | refine ret2 (by first | exact .inl rfl | exact .inr rfl) rfl rfl rfl rfl ?_ ?_
              | refine awp_cond_t rfl ?_
              | refine awp_cond_f rfl ?_)
            refine awp_cond rfl (fun hb => ?_) (fun _ => ?_)
            · exfalso
              rw [mkS_kB (by omega) (by omega), show max (d - 1) 0 = d - 1 by omega] at hb
              simp at hb
            · repeat (first
                | refine awp_seq ?_
                | refine thenA_normal ?_
                | refine awp_block ?_
                | refine a_region ?_
                | refine a_draw1 mixed_ok (by kernel_rfl) ?_
                | refine awp_ret ?_
                | refine awp_exit ?_
                | refine thenA_exit ?_
                | refine thenA_ret ?_
                | refine blockA_normal ?_
                | refine blockA_ret ?_
                | refine blockA_hit rfl ?_
                | refine blockA_miss rfl ?_
                | refine awp_skip ?_
                | refine r_done ?_
                | refine r_done' ?_
                | (refine r_id ?_; first
                  | refine r_len tab_ok rfl rfl rfl rfl rfl rfl rfl ?_
                  | refine r_ev tab_ok rfl rfl rfl rfl (by first | exact trivial | exact ⟨by omega, by omega⟩ | omega | exact ⟨by omega, by omega, by omega, by omega⟩ | exact Nat.le_of_ble_eq_true rfl) rfl ?_
                  | refine r_ld tab_ok rfl rfl rfl rfl rfl ?_
                  | refine r_idx tab_ok rfl rfl rfl rfl rfl rfl rfl (by first | exact ⟨by omega, by omega⟩ | (simp; omega)) rfl rfl ?_
                  | refine r_idxd tab_ok rfl rfl rfl rfl rfl rfl rfl (by decide) rfl rfl rfl ?_
                  | refine r_wr tab_ok rfl rfl rfl rfl rfl ?_
                  | refine r_st tab_ok rfl rfl rfl rfl ?_
                  | refine r_len_cnd tab_ok rfl rfl rfl rfl rfl rfl (by first | exact fun _ => rfl | exact cs1) rfl rfl rfl ?_
                  | refine r_ev_cnd tab_ok rfl rfl rfl rfl rfl rfl (by first | exact fun _ => rfl | exact cs1 | exact cs2 | exact cs3) (by first | exact fun _ => trivial | (intro h; simp at h; first | exact ⟨by omega, by omega⟩ | omega)) rfl ?_
                  | refine r_ld_cnd tab_ok rfl rfl rfl rfl rfl rfl (by first | exact fun _ => rfl | exact cs1 | exact cs2 | exact cs3) rfl ?_
                  | refine r_idx_cnd tab_ok rfl rfl rfl rfl rfl rfl rfl (by first | exact fun _ => rfl | exact cs1 | exact cs2) rfl rfl (by exact ⟨by omega, by omega⟩) rfl rfl ?_
                  | refine r_idx_cnd' tab_ok rfl rfl rfl rfl rfl rfl rfl (by first | exact fun _ => rfl | exact cs1 | exact cs2) rfl rfl (by intro h; simp at h; exact ⟨by omega, by omega⟩) rfl rfl ?_
                  | refine r_or rfl rfl rfl rfl rfl rfl rfl rfl ?_
                  | refine r_and rfl rfl rfl rfl rfl rfl rfl rfl ?_
                  | refine r_pick_t rfl rfl rfl rfl rfl rfl rfl ?_
                  | refine r_pick_f rfl rfl rfl rfl rfl rfl rfl ?_
                  | refine r_off rfl rfl rfl rfl rfl rfl ?_
                  | refine r_len_on tab_ok rfl rfl rfl rfl rfl rfl rfl rfl rfl ?_
                  | refine r_ev_on tab_ok rfl rfl rfl rfl rfl rfl (by first | exact trivial | exact ⟨by omega, by omega⟩ | omega) rfl ?_
                  | refine r_ld_on tab_ok rfl rfl rfl rfl rfl rfl rfl ?_
                  | refine r_build tab_ok rfl rfl rfl rfl rfl rfl ?_
                  | refine r_bstr tab_ok rfl rfl rfl rfl rfl rfl rfl rfl rfl rfl ?_
                  | refine r_build_cnd tab_ok rfl rfl rfl rfl rfl (by first | exact fun _ => rfl | exact cs1) rfl rfl rfl ?_
                  | refine r_built_cnd tab_ok rfl rfl rfl rfl rfl rfl rfl rfl (by first | exact fun _ => rfl | exact cs1) rfl rfl rfl ?_
                  | refine r_rem rfl rfl rfl rfl rfl rfl (by omega) rfl ?_
                  | refine r_built0 tab_ok rfl rfl rfl rfl rfl rfl rfl ?_
                  | refine r_built tab_ok rfl rfl rfl rfl rfl rfl rfl rfl rfl ?_
                  | refine r_append tab_ok rfl rfl rfl rfl rfl rfl rfl rfl rfl (by first | omega | (simp; omega)) rfl ?_
                  | refine r_append_nil tab_ok rfl rfl rfl rfl rfl rfl rfl rfl (by first | omega | (simp; omega)) rfl ?_)
                | refine ret1 (by first | exact .inl rfl | exact .inr rfl) rfl rfl rfl ?_
                | refine ret1_row (by first | exact .inl rfl | exact .inr rfl) rfl rfl rfl ?_
                | refine ret2 (by first | exact .inl rfl | exact .inr rfl) rfl rfl rfl rfl ?_ ?_
                | refine awp_cond_t rfl ?_
                | refine awp_cond_f rfl ?_)
              exact ⟨⟨x + 1, by omega⟩, by dsimp only; omega, fits_conv (by repeat' first | exact trivial | exact hrow _ hr' | exact rfl | exact c_sub rfl (Sub.refl _) rfl | exact c_sub rfl (Sub.of_eq (by rw [hst]; rfl)) rfl | exact c_ptr rfl rfl rfl rfl | exact c_row rfl rfl (hrow _ hr') | refine ⟨_, _, rfl, ?_, ?_⟩ | apply And.intro) (by repeat' first | exact trivial | exact hrow _ hr' | exact rfl | exact c_sub rfl (Sub.refl _) rfl | exact c_sub rfl (Sub.of_eq (by rw [hst]; rfl)) rfl | exact c_ptr rfl rfl rfl rfl | exact c_row rfl rfl (hrow _ hr') | refine ⟨_, _, rfl, ?_, ?_⟩ | apply And.intro)⟩
          · have hst : depthF (kk.take (x + 1)) = d := by omega
            refine r_call (round2_ok _ 4 1 (by decide) (by decide) hr') call14 rfl rfl (by repeat' first | exact trivial | exact Sub.refl _ | exact Sub.nil _ | refine Sub.agg ?_ | apply And.intro) rfl rfl rfl rfl ?_
            repeat (first
              | refine awp_seq ?_
              | refine thenA_normal ?_
              | refine awp_block ?_
              | refine a_region ?_
              | refine a_draw1 mixed_ok (by kernel_rfl) ?_
              | refine awp_ret ?_
              | refine awp_exit ?_
              | refine thenA_exit ?_
              | refine thenA_ret ?_
              | refine blockA_normal ?_
              | refine blockA_ret ?_
              | refine blockA_hit rfl ?_
              | refine blockA_miss rfl ?_
              | refine awp_skip ?_
              | refine r_done ?_
              | refine r_done' ?_
              | (refine r_id ?_; first
                | refine r_len tab_ok rfl rfl rfl rfl rfl rfl rfl ?_
                | refine r_ev tab_ok rfl rfl rfl rfl (by first | exact trivial | exact ⟨by omega, by omega⟩ | omega | exact ⟨by omega, by omega, by omega, by omega⟩ | exact Nat.le_of_ble_eq_true rfl) rfl ?_
                | refine r_ld tab_ok rfl rfl rfl rfl rfl ?_
                | refine r_idx tab_ok rfl rfl rfl rfl rfl rfl rfl (by first | exact ⟨by omega, by omega⟩ | (simp; omega)) rfl rfl ?_
                | refine r_idxd tab_ok rfl rfl rfl rfl rfl rfl rfl (by decide) rfl rfl rfl ?_
                | refine r_wr tab_ok rfl rfl rfl rfl rfl ?_
                | refine r_st tab_ok rfl rfl rfl rfl ?_
                | refine r_len_cnd tab_ok rfl rfl rfl rfl rfl rfl (by first | exact fun _ => rfl | exact cs1) rfl rfl rfl ?_
                | refine r_ev_cnd tab_ok rfl rfl rfl rfl rfl rfl (by first | exact fun _ => rfl | exact cs1 | exact cs2 | exact cs3) (by first | exact fun _ => trivial | (intro h; simp at h; first | exact ⟨by omega, by omega⟩ | omega)) rfl ?_
                | refine r_ld_cnd tab_ok rfl rfl rfl rfl rfl rfl (by first | exact fun _ => rfl | exact cs1 | exact cs2 | exact cs3) rfl ?_
                | refine r_idx_cnd tab_ok rfl rfl rfl rfl rfl rfl rfl (by first | exact fun _ => rfl | exact cs1 | exact cs2) rfl rfl (by exact ⟨by omega, by omega⟩) rfl rfl ?_
                | refine r_idx_cnd' tab_ok rfl rfl rfl rfl rfl rfl rfl (by first | exact fun _ => rfl | exact cs1 | exact cs2) rfl rfl (by intro h; simp at h; exact ⟨by omega, by omega⟩) rfl rfl ?_
                | refine r_or rfl rfl rfl rfl rfl rfl rfl rfl ?_
                | refine r_and rfl rfl rfl rfl rfl rfl rfl rfl ?_
                | refine r_pick_t rfl rfl rfl rfl rfl rfl rfl ?_
                | refine r_pick_f rfl rfl rfl rfl rfl rfl rfl ?_
                | refine r_off rfl rfl rfl rfl rfl rfl ?_
                | refine r_len_on tab_ok rfl rfl rfl rfl rfl rfl rfl rfl rfl ?_
                | refine r_ev_on tab_ok rfl rfl rfl rfl rfl rfl (by first | exact trivial | exact ⟨by omega, by omega⟩ | omega) rfl ?_
                | refine r_ld_on tab_ok rfl rfl rfl rfl rfl rfl rfl ?_
                | refine r_build tab_ok rfl rfl rfl rfl rfl rfl ?_
                | refine r_bstr tab_ok rfl rfl rfl rfl rfl rfl rfl rfl rfl rfl ?_
                | refine r_build_cnd tab_ok rfl rfl rfl rfl rfl (by first | exact fun _ => rfl | exact cs1) rfl rfl rfl ?_
                | refine r_built_cnd tab_ok rfl rfl rfl rfl rfl rfl rfl rfl (by first | exact fun _ => rfl | exact cs1) rfl rfl rfl ?_
                | refine r_rem rfl rfl rfl rfl rfl rfl (by omega) rfl ?_
                | refine r_built0 tab_ok rfl rfl rfl rfl rfl rfl rfl ?_
                | refine r_built tab_ok rfl rfl rfl rfl rfl rfl rfl rfl rfl ?_
                | refine r_append tab_ok rfl rfl rfl rfl rfl rfl rfl rfl rfl (by first | omega | (simp; omega)) rfl ?_
                | refine r_append_nil tab_ok rfl rfl rfl rfl rfl rfl rfl rfl (by first | omega | (simp; omega)) rfl ?_)
              | refine ret1 (by first | exact .inl rfl | exact .inr rfl) rfl rfl rfl ?_
              | refine ret1_row (by first | exact .inl rfl | exact .inr rfl) rfl rfl rfl ?_
              | refine ret2 (by first | exact .inl rfl | exact .inr rfl) rfl rfl rfl rfl ?_ ?_
              | refine awp_cond_t rfl ?_
              | refine awp_cond_f rfl ?_)
            refine r_call (stDo6z oB kB k d (by omega) (by omega)) call9 rfl rfl ⟨stP_sub _, Sub.refl _, Sub.refl _, trivial⟩ rfl rfl rfl rfl ?_
            repeat (first
              | refine awp_seq ?_
              | refine thenA_normal ?_
              | refine awp_block ?_
              | refine a_region ?_
              | refine a_draw1 mixed_ok (by kernel_rfl) ?_
              | refine awp_ret ?_
              | refine awp_exit ?_
              | refine thenA_exit ?_
              | refine thenA_ret ?_
              | refine blockA_normal ?_
              | refine blockA_ret ?_
              | refine blockA_hit rfl ?_
              | refine blockA_miss rfl ?_
              | refine awp_skip ?_
              | refine r_done ?_
              | refine r_done' ?_
              | (refine r_id ?_; first
                | refine r_len tab_ok rfl rfl rfl rfl rfl rfl rfl ?_
                | refine r_ev tab_ok rfl rfl rfl rfl (by first | exact trivial | exact ⟨by omega, by omega⟩ | omega | exact ⟨by omega, by omega, by omega, by omega⟩ | exact Nat.le_of_ble_eq_true rfl) rfl ?_
                | refine r_ld tab_ok rfl rfl rfl rfl rfl ?_
                | refine r_idx tab_ok rfl rfl rfl rfl rfl rfl rfl (by first | exact ⟨by omega, by omega⟩ | (simp; omega)) rfl rfl ?_
                | refine r_idxd tab_ok rfl rfl rfl rfl rfl rfl rfl (by decide) rfl rfl rfl ?_
                | refine r_wr tab_ok rfl rfl rfl rfl rfl ?_
                | refine r_st tab_ok rfl rfl rfl rfl ?_
                | refine r_len_cnd tab_ok rfl rfl rfl rfl rfl rfl (by first | exact fun _ => rfl | exact cs1) rfl rfl rfl ?_
                | refine r_ev_cnd tab_ok rfl rfl rfl rfl rfl rfl (by first | exact fun _ => rfl | exact cs1 | exact cs2 | exact cs3) (by first | exact fun _ => trivial | (intro h; simp at h; first | exact ⟨by omega, by omega⟩ | omega)) rfl ?_
                | refine r_ld_cnd tab_ok rfl rfl rfl rfl rfl rfl (by first | exact fun _ => rfl | exact cs1 | exact cs2 | exact cs3) rfl ?_
                | refine r_idx_cnd tab_ok rfl rfl rfl rfl rfl rfl rfl (by first | exact fun _ => rfl | exact cs1 | exact cs2) rfl rfl (by exact ⟨by omega, by omega⟩) rfl rfl ?_
                | refine r_idx_cnd' tab_ok rfl rfl rfl rfl rfl rfl rfl (by first | exact fun _ => rfl | exact cs1 | exact cs2) rfl rfl (by intro h; simp at h; exact ⟨by omega, by omega⟩) rfl rfl ?_
                | refine r_or rfl rfl rfl rfl rfl rfl rfl rfl ?_
                | refine r_and rfl rfl rfl rfl rfl rfl rfl rfl ?_
                | refine r_pick_t rfl rfl rfl rfl rfl rfl rfl ?_
                | refine r_pick_f rfl rfl rfl rfl rfl rfl rfl ?_
                | refine r_off rfl rfl rfl rfl rfl rfl ?_
                | refine r_len_on tab_ok rfl rfl rfl rfl rfl rfl rfl rfl rfl ?_
                | refine r_ev_on tab_ok rfl rfl rfl rfl rfl rfl (by first | exact trivial | exact ⟨by omega, by omega⟩ | omega) rfl ?_
                | refine r_ld_on tab_ok rfl rfl rfl rfl rfl rfl rfl ?_
                | refine r_build tab_ok rfl rfl rfl rfl rfl rfl ?_
                | refine r_bstr tab_ok rfl rfl rfl rfl rfl rfl rfl rfl rfl rfl ?_
                | refine r_build_cnd tab_ok rfl rfl rfl rfl rfl (by first | exact fun _ => rfl | exact cs1) rfl rfl rfl ?_
                | refine r_built_cnd tab_ok rfl rfl rfl rfl rfl rfl rfl rfl (by first | exact fun _ => rfl | exact cs1) rfl rfl rfl ?_
                | refine r_rem rfl rfl rfl rfl rfl rfl (by omega) rfl ?_
                | refine r_built0 tab_ok rfl rfl rfl rfl rfl rfl rfl ?_
                | refine r_built tab_ok rfl rfl rfl rfl rfl rfl rfl rfl rfl ?_
                | refine r_append tab_ok rfl rfl rfl rfl rfl rfl rfl rfl rfl (by first | omega | (simp; omega)) rfl ?_
                | refine r_append_nil tab_ok rfl rfl rfl rfl rfl rfl rfl rfl (by first | omega | (simp; omega)) rfl ?_)
              | refine ret1 (by first | exact .inl rfl | exact .inr rfl) rfl rfl rfl ?_
              | refine ret1_row (by first | exact .inl rfl | exact .inr rfl) rfl rfl rfl ?_
              | refine ret2 (by first | exact .inl rfl | exact .inr rfl) rfl rfl rfl rfl ?_ ?_
              | refine awp_cond_t rfl ?_
              | refine awp_cond_f rfl ?_)
            refine awp_cond_p rfl (fun h => absurd h (by omega)) (fun _ => ?_)
            repeat (first
              | refine awp_seq ?_
              | refine thenA_normal ?_
              | refine awp_block ?_
              | refine a_region ?_
              | refine a_draw1 mixed_ok (by kernel_rfl) ?_
              | refine awp_ret ?_
              | refine awp_exit ?_
              | refine thenA_exit ?_
              | refine thenA_ret ?_
              | refine blockA_normal ?_
              | refine blockA_ret ?_
              | refine blockA_hit rfl ?_
              | refine blockA_miss rfl ?_
              | refine awp_skip ?_
              | refine r_done ?_
              | refine r_done' ?_
              | (refine r_id ?_; first
                | refine r_len tab_ok rfl rfl rfl rfl rfl rfl rfl ?_
                | refine r_ev tab_ok rfl rfl rfl rfl (by first | exact trivial | exact ⟨by omega, by omega⟩ | omega | exact ⟨by omega, by omega, by omega, by omega⟩ | exact Nat.le_of_ble_eq_true rfl) rfl ?_
                | refine r_ld tab_ok rfl rfl rfl rfl rfl ?_
                | refine r_idx tab_ok rfl rfl rfl rfl rfl rfl rfl (by first | exact ⟨by omega, by omega⟩ | (simp; omega)) rfl rfl ?_
                | refine r_idxd tab_ok rfl rfl rfl rfl rfl rfl rfl (by decide) rfl rfl rfl ?_
                | refine r_wr tab_ok rfl rfl rfl rfl rfl ?_
                | refine r_st tab_ok rfl rfl rfl rfl ?_
                | refine r_len_cnd tab_ok rfl rfl rfl rfl rfl rfl (by first | exact fun _ => rfl | exact cs1) rfl rfl rfl ?_
                | refine r_ev_cnd tab_ok rfl rfl rfl rfl rfl rfl (by first | exact fun _ => rfl | exact cs1 | exact cs2 | exact cs3) (by first | exact fun _ => trivial | (intro h; simp at h; first | exact ⟨by omega, by omega⟩ | omega)) rfl ?_
                | refine r_ld_cnd tab_ok rfl rfl rfl rfl rfl rfl (by first | exact fun _ => rfl | exact cs1 | exact cs2 | exact cs3) rfl ?_
                | refine r_idx_cnd tab_ok rfl rfl rfl rfl rfl rfl rfl (by first | exact fun _ => rfl | exact cs1 | exact cs2) rfl rfl (by exact ⟨by omega, by omega⟩) rfl rfl ?_
                | refine r_idx_cnd' tab_ok rfl rfl rfl rfl rfl rfl rfl (by first | exact fun _ => rfl | exact cs1 | exact cs2) rfl rfl (by intro h; simp at h; exact ⟨by omega, by omega⟩) rfl rfl ?_
                | refine r_or rfl rfl rfl rfl rfl rfl rfl rfl ?_
                | refine r_and rfl rfl rfl rfl rfl rfl rfl rfl ?_
                | refine r_pick_t rfl rfl rfl rfl rfl rfl rfl ?_
                | refine r_pick_f rfl rfl rfl rfl rfl rfl rfl ?_
                | refine r_off rfl rfl rfl rfl rfl rfl ?_
                | refine r_len_on tab_ok rfl rfl rfl rfl rfl rfl rfl rfl rfl ?_
                | refine r_ev_on tab_ok rfl rfl rfl rfl rfl rfl (by first | exact trivial | exact ⟨by omega, by omega⟩ | omega) rfl ?_
                | refine r_ld_on tab_ok rfl rfl rfl rfl rfl rfl rfl ?_
                | refine r_build tab_ok rfl rfl rfl rfl rfl rfl ?_
                | refine r_bstr tab_ok rfl rfl rfl rfl rfl rfl rfl rfl rfl rfl ?_
                | refine r_build_cnd tab_ok rfl rfl rfl rfl rfl (by first | exact fun _ => rfl | exact cs1) rfl rfl rfl ?_
                | refine r_built_cnd tab_ok rfl rfl rfl rfl rfl rfl rfl rfl (by first | exact fun _ => rfl | exact cs1) rfl rfl rfl ?_
                | refine r_rem rfl rfl rfl rfl rfl rfl (by omega) rfl ?_
                | refine r_built0 tab_ok rfl rfl rfl rfl rfl rfl rfl ?_
                | refine r_built tab_ok rfl rfl rfl rfl rfl rfl rfl rfl rfl ?_
                | refine r_append tab_ok rfl rfl rfl rfl rfl rfl rfl rfl rfl (by first | omega | (simp; omega)) rfl ?_
                | refine r_append_nil tab_ok rfl rfl rfl rfl rfl rfl rfl rfl (by first | omega | (simp; omega)) rfl ?_)
              | refine ret1 (by first | exact .inl rfl | exact .inr rfl) rfl rfl rfl ?_
              | refine ret1_row (by first | exact .inl rfl | exact .inr rfl) rfl rfl rfl ?_
              | refine ret2 (by first | exact .inl rfl | exact .inr rfl) rfl rfl rfl rfl ?_ ?_
              | refine awp_cond_t rfl ?_
              | refine awp_cond_f rfl ?_)
            refine awp_cond rfl (fun hb => ?_) (fun _ => ?_)
            · exfalso
              simp at hb
            · repeat (first
                | refine awp_seq ?_
                | refine thenA_normal ?_
                | refine awp_block ?_
                | refine a_region ?_
                | refine a_draw1 mixed_ok (by kernel_rfl) ?_
                | refine awp_ret ?_
                | refine awp_exit ?_
                | refine thenA_exit ?_
                | refine thenA_ret ?_
                | refine blockA_normal ?_
                | refine blockA_ret ?_
                | refine blockA_hit rfl ?_
                | refine blockA_miss rfl ?_
                | refine awp_skip ?_
                | refine r_done ?_
                | refine r_done' ?_
                | (refine r_id ?_; first
                  | refine r_len tab_ok rfl rfl rfl rfl rfl rfl rfl ?_
                  | refine r_ev tab_ok rfl rfl rfl rfl (by first | exact trivial | exact ⟨by omega, by omega⟩ | omega | exact ⟨by omega, by omega, by omega, by omega⟩ | exact Nat.le_of_ble_eq_true rfl) rfl ?_
                  | refine r_ld tab_ok rfl rfl rfl rfl rfl ?_
                  | refine r_idx tab_ok rfl rfl rfl rfl rfl rfl rfl (by first | exact ⟨by omega, by omega⟩ | (simp; omega)) rfl rfl ?_
                  | refine r_idxd tab_ok rfl rfl rfl rfl rfl rfl rfl (by decide) rfl rfl rfl ?_
                  | refine r_wr tab_ok rfl rfl rfl rfl rfl ?_
                  | refine r_st tab_ok rfl rfl rfl rfl ?_
                  | refine r_len_cnd tab_ok rfl rfl rfl rfl rfl rfl (by first | exact fun _ => rfl | exact cs1) rfl rfl rfl ?_
                  | refine r_ev_cnd tab_ok rfl rfl rfl rfl rfl rfl (by first | exact fun _ => rfl | exact cs1 | exact cs2 | exact cs3) (by first | exact fun _ => trivial | (intro h; simp at h; first | exact ⟨by omega, by omega⟩ | omega)) rfl ?_
                  | refine r_ld_cnd tab_ok rfl rfl rfl rfl rfl rfl (by first | exact fun _ => rfl | exact cs1 | exact cs2 | exact cs3) rfl ?_
                  | refine r_idx_cnd tab_ok rfl rfl rfl rfl rfl rfl rfl (by first | exact fun _ => rfl | exact cs1 | exact cs2) rfl rfl (by exact ⟨by omega, by omega⟩) rfl rfl ?_
                  | refine r_idx_cnd' tab_ok rfl rfl rfl rfl rfl rfl rfl (by first | exact fun _ => rfl | exact cs1 | exact cs2) rfl rfl (by intro h; simp at h; exact ⟨by omega, by omega⟩) rfl rfl ?_
                  | refine r_or rfl rfl rfl rfl rfl rfl rfl rfl ?_
                  | refine r_and rfl rfl rfl rfl rfl rfl rfl rfl ?_
                  | refine r_pick_t rfl rfl rfl rfl rfl rfl rfl ?_
                  | refine r_pick_f rfl rfl rfl rfl rfl rfl rfl ?_
                  | refine r_off rfl rfl rfl rfl rfl rfl ?_
                  | refine r_len_on tab_ok rfl rfl rfl rfl rfl rfl rfl rfl rfl ?_
                  | refine r_ev_on tab_ok rfl rfl rfl rfl rfl rfl (by first | exact trivial | exact ⟨by omega, by omega⟩ | omega) rfl ?_
                  | refine r_ld_on tab_ok rfl rfl rfl rfl rfl rfl rfl ?_
                  | refine r_build tab_ok rfl rfl rfl rfl rfl rfl ?_
                  | refine r_bstr tab_ok rfl rfl rfl rfl rfl rfl rfl rfl rfl rfl ?_
                  | refine r_build_cnd tab_ok rfl rfl rfl rfl rfl (by first | exact fun _ => rfl | exact cs1) rfl rfl rfl ?_
                  | refine r_built_cnd tab_ok rfl rfl rfl rfl rfl rfl rfl rfl (by first | exact fun _ => rfl | exact cs1) rfl rfl rfl ?_
                  | refine r_rem rfl rfl rfl rfl rfl rfl (by omega) rfl ?_
                  | refine r_built0 tab_ok rfl rfl rfl rfl rfl rfl rfl ?_
                  | refine r_built tab_ok rfl rfl rfl rfl rfl rfl rfl rfl rfl ?_
                  | refine r_append tab_ok rfl rfl rfl rfl rfl rfl rfl rfl rfl (by first | omega | (simp; omega)) rfl ?_
                  | refine r_append_nil tab_ok rfl rfl rfl rfl rfl rfl rfl rfl (by first | omega | (simp; omega)) rfl ?_)
                | refine ret1 (by first | exact .inl rfl | exact .inr rfl) rfl rfl rfl ?_
                | refine ret1_row (by first | exact .inl rfl | exact .inr rfl) rfl rfl rfl ?_
                | refine ret2 (by first | exact .inl rfl | exact .inr rfl) rfl rfl rfl rfl ?_ ?_
                | refine awp_cond_t rfl ?_
                | refine awp_cond_f rfl ?_)
              exact ⟨⟨x + 1, by omega⟩, by dsimp only; omega, fits_conv (by repeat' first | exact trivial | exact hrow _ hr' | exact rfl | exact c_sub rfl (Sub.refl _) rfl | exact c_sub rfl (Sub.of_eq (by rw [hst]; rfl)) rfl | exact c_ptr rfl rfl rfl rfl | exact c_row rfl rfl (hrow _ hr') | refine ⟨_, _, rfl, ?_, ?_⟩ | apply And.intro) (by repeat' first | exact trivial | exact hrow _ hr' | exact rfl | exact c_sub rfl (Sub.refl _) rfl | exact c_sub rfl (Sub.of_eq (by rw [hst]; rfl)) rfl | exact c_ptr rfl rfl rfl rfl | exact c_row rfl rfl (hrow _ hr') | refine ⟨_, _, rfl, ?_, ?_⟩ | apply And.intro)⟩
        · have hst : depthF (kk.take (x + 1)) = d + 1 := by rw [hstep, hr', if_pos (by decide)]
          refine r_call (round2_ok _ 4 2 (by decide) (by decide) hr') call14 rfl rfl (by repeat' first | exact trivial | exact Sub.refl _ | exact Sub.nil _ | refine Sub.agg ?_ | apply And.intro) rfl rfl rfl rfl ?_
          repeat (first
            | refine awp_seq ?_
            | refine thenA_normal ?_
            | refine awp_block ?_
            | refine a_region ?_
            | refine a_draw1 mixed_ok (by kernel_rfl) ?_
            | refine awp_ret ?_
            | refine awp_exit ?_
            | refine thenA_exit ?_
            | refine thenA_ret ?_
            | refine blockA_normal ?_
            | refine blockA_ret ?_
            | refine blockA_hit rfl ?_
            | refine blockA_miss rfl ?_
            | refine awp_skip ?_
            | refine r_done ?_
            | refine r_done' ?_
            | (refine r_id ?_; first
              | refine r_len tab_ok rfl rfl rfl rfl rfl rfl rfl ?_
              | refine r_ev tab_ok rfl rfl rfl rfl (by first | exact trivial | exact ⟨by omega, by omega⟩ | omega | exact ⟨by omega, by omega, by omega, by omega⟩ | exact Nat.le_of_ble_eq_true rfl) rfl ?_
              | refine r_ld tab_ok rfl rfl rfl rfl rfl ?_
              | refine r_idx tab_ok rfl rfl rfl rfl rfl rfl rfl (by first | exact ⟨by omega, by omega⟩ | (simp; omega)) rfl rfl ?_
              | refine r_idxd tab_ok rfl rfl rfl rfl rfl rfl rfl (by decide) rfl rfl rfl ?_
              | refine r_wr tab_ok rfl rfl rfl rfl rfl ?_
              | refine r_st tab_ok rfl rfl rfl rfl ?_
              | refine r_len_cnd tab_ok rfl rfl rfl rfl rfl rfl (by first | exact fun _ => rfl | exact cs1) rfl rfl rfl ?_
              | refine r_ev_cnd tab_ok rfl rfl rfl rfl rfl rfl (by first | exact fun _ => rfl | exact cs1 | exact cs2 | exact cs3) (by first | exact fun _ => trivial | (intro h; simp at h; first | exact ⟨by omega, by omega⟩ | omega)) rfl ?_
              | refine r_ld_cnd tab_ok rfl rfl rfl rfl rfl rfl (by first | exact fun _ => rfl | exact cs1 | exact cs2 | exact cs3) rfl ?_
              | refine r_idx_cnd tab_ok rfl rfl rfl rfl rfl rfl rfl (by first | exact fun _ => rfl | exact cs1 | exact cs2) rfl rfl (by exact ⟨by omega, by omega⟩) rfl rfl ?_
              | refine r_idx_cnd' tab_ok rfl rfl rfl rfl rfl rfl rfl (by first | exact fun _ => rfl | exact cs1 | exact cs2) rfl rfl (by intro h; simp at h; exact ⟨by omega, by omega⟩) rfl rfl ?_
              | refine r_or rfl rfl rfl rfl rfl rfl rfl rfl ?_
              | refine r_and rfl rfl rfl rfl rfl rfl rfl rfl ?_
              | refine r_pick_t rfl rfl rfl rfl rfl rfl rfl ?_
              | refine r_pick_f rfl rfl rfl rfl rfl rfl rfl ?_
              | refine r_off rfl rfl rfl rfl rfl rfl ?_
              | refine r_len_on tab_ok rfl rfl rfl rfl rfl rfl rfl rfl rfl ?_
              | refine r_ev_on tab_ok rfl rfl rfl rfl rfl rfl (by first | exact trivial | exact ⟨by omega, by omega⟩ | omega) rfl ?_
              | refine r_ld_on tab_ok rfl rfl rfl rfl rfl rfl rfl ?_
              | refine r_build tab_ok rfl rfl rfl rfl rfl rfl ?_
              | refine r_bstr tab_ok rfl rfl rfl rfl rfl rfl rfl rfl rfl rfl ?_
              | refine r_build_cnd tab_ok rfl rfl rfl rfl rfl (by first | exact fun _ => rfl | exact cs1) rfl rfl rfl ?_
              | refine r_built_cnd tab_ok rfl rfl rfl rfl rfl rfl rfl rfl (by first | exact fun _ => rfl | exact cs1) rfl rfl rfl ?_
              | refine r_rem rfl rfl rfl rfl rfl rfl (by omega) rfl ?_
              | refine r_built0 tab_ok rfl rfl rfl rfl rfl rfl rfl ?_
              | refine r_built tab_ok rfl rfl rfl rfl rfl rfl rfl rfl rfl ?_
              | refine r_append tab_ok rfl rfl rfl rfl rfl rfl rfl rfl rfl (by first | omega | (simp; omega)) rfl ?_
              | refine r_append_nil tab_ok rfl rfl rfl rfl rfl rfl rfl rfl (by first | omega | (simp; omega)) rfl ?_)
            | refine ret1 (by first | exact .inl rfl | exact .inr rfl) rfl rfl rfl ?_
            | refine ret1_row (by first | exact .inl rfl | exact .inr rfl) rfl rfl rfl ?_
            | refine ret2 (by first | exact .inl rfl | exact .inr rfl) rfl rfl rfl rfl ?_ ?_
            | refine awp_cond_t rfl ?_
            | refine awp_cond_f rfl ?_)
          refine r_call (stDo7 oB kB k d (by omega) hd0 (by omega)) call9 rfl rfl ⟨stP_sub _, Sub.refl _, Sub.refl _, trivial⟩ rfl rfl rfl rfl ?_
          repeat (first
            | refine awp_seq ?_
            | refine thenA_normal ?_
            | refine awp_block ?_
            | refine a_region ?_
            | refine a_draw1 mixed_ok (by kernel_rfl) ?_
            | refine awp_ret ?_
            | refine awp_exit ?_
            | refine thenA_exit ?_
            | refine thenA_ret ?_
            | refine blockA_normal ?_
            | refine blockA_ret ?_
            | refine blockA_hit rfl ?_
            | refine blockA_miss rfl ?_
            | refine awp_skip ?_
            | refine r_done ?_
            | refine r_done' ?_
            | (refine r_id ?_; first
              | refine r_len tab_ok rfl rfl rfl rfl rfl rfl rfl ?_
              | refine r_ev tab_ok rfl rfl rfl rfl (by first | exact trivial | exact ⟨by omega, by omega⟩ | omega | exact ⟨by omega, by omega, by omega, by omega⟩ | exact Nat.le_of_ble_eq_true rfl) rfl ?_
              | refine r_ld tab_ok rfl rfl rfl rfl rfl ?_
              | refine r_idx tab_ok rfl rfl rfl rfl rfl rfl rfl (by first | exact ⟨by omega, by omega⟩ | (simp; omega)) rfl rfl ?_
              | refine r_idxd tab_ok rfl rfl rfl rfl rfl rfl rfl (by decide) rfl rfl rfl ?_
              | refine r_wr tab_ok rfl rfl rfl rfl rfl ?_
              | refine r_st tab_ok rfl rfl rfl rfl ?_
              | refine r_len_cnd tab_ok rfl rfl rfl rfl rfl rfl (by first | exact fun _ => rfl | exact cs1) rfl rfl rfl ?_
              | refine r_ev_cnd tab_ok rfl rfl rfl rfl rfl rfl (by first | exact fun _ => rfl | exact cs1 | exact cs2 | exact cs3) (by first | exact fun _ => trivial | (intro h; simp at h; first | exact ⟨by omega, by omega⟩ | omega)) rfl ?_
              | refine r_ld_cnd tab_ok rfl rfl rfl rfl rfl rfl (by first | exact fun _ => rfl | exact cs1 | exact cs2 | exact cs3) rfl ?_
              | refine r_idx_cnd tab_ok rfl rfl rfl rfl rfl rfl rfl (by first | exact fun _ => rfl | exact cs1 | exact cs2) rfl rfl (by exact ⟨by omega, by omega⟩) rfl rfl ?_
              | refine r_idx_cnd' tab_ok rfl rfl rfl rfl rfl rfl rfl (by first | exact fun _ => rfl | exact cs1 | exact cs2) rfl rfl (by intro h; simp at h; exact ⟨by omega, by omega⟩) rfl rfl ?_
              | refine r_or rfl rfl rfl rfl rfl rfl rfl rfl ?_
              | refine r_and rfl rfl rfl rfl rfl rfl rfl rfl ?_
              | refine r_pick_t rfl rfl rfl rfl rfl rfl rfl ?_
              | refine r_pick_f rfl rfl rfl rfl rfl rfl rfl ?_
              | refine r_off rfl rfl rfl rfl rfl rfl ?_
              | refine r_len_on tab_ok rfl rfl rfl rfl rfl rfl rfl rfl rfl ?_
              | refine r_ev_on tab_ok rfl rfl rfl rfl rfl rfl (by first | exact trivial | exact ⟨by omega, by omega⟩ | omega) rfl ?_
              | refine r_ld_on tab_ok rfl rfl rfl rfl rfl rfl rfl ?_
              | refine r_build tab_ok rfl rfl rfl rfl rfl rfl ?_
              | refine r_bstr tab_ok rfl rfl rfl rfl rfl rfl rfl rfl rfl rfl ?_
              | refine r_build_cnd tab_ok rfl rfl rfl rfl rfl (by first | exact fun _ => rfl | exact cs1) rfl rfl rfl ?_
              | refine r_built_cnd tab_ok rfl rfl rfl rfl rfl rfl rfl rfl (by first | exact fun _ => rfl | exact cs1) rfl rfl rfl ?_
              | refine r_rem rfl rfl rfl rfl rfl rfl (by omega) rfl ?_
              | refine r_built0 tab_ok rfl rfl rfl rfl rfl rfl rfl ?_
              | refine r_built tab_ok rfl rfl rfl rfl rfl rfl rfl rfl rfl ?_
              | refine r_append tab_ok rfl rfl rfl rfl rfl rfl rfl rfl rfl (by first | omega | (simp; omega)) rfl ?_
              | refine r_append_nil tab_ok rfl rfl rfl rfl rfl rfl rfl rfl (by first | omega | (simp; omega)) rfl ?_)
            | refine ret1 (by first | exact .inl rfl | exact .inr rfl) rfl rfl rfl ?_
            | refine ret1_row (by first | exact .inl rfl | exact .inr rfl) rfl rfl rfl ?_
            | refine ret2 (by first | exact .inl rfl | exact .inr rfl) rfl rfl rfl rfl ?_ ?_
            | refine awp_cond_t rfl ?_
            | refine awp_cond_f rfl ?_)
          refine awp_cond rfl (fun hb => ?_) (fun _ => ?_)
          · exfalso
            simp at hb
          · repeat (first
              | refine awp_seq ?_
              | refine thenA_normal ?_
              | refine awp_block ?_
              | refine a_region ?_
              | refine a_draw1 mixed_ok (by kernel_rfl) ?_
              | refine awp_ret ?_
              | refine awp_exit ?_
              | refine thenA_exit ?_
              | refine thenA_ret ?_
              | refine blockA_normal ?_
              | refine blockA_ret ?_
              | refine blockA_hit rfl ?_
              | refine blockA_miss rfl ?_
              | refine awp_skip ?_
              | refine r_done ?_
              | refine r_done' ?_
              | (refine r_id ?_; first
                | refine r_len tab_ok rfl rfl rfl rfl rfl rfl rfl ?_
                | refine r_ev tab_ok rfl rfl rfl rfl (by first | exact trivial | exact ⟨by omega, by omega⟩ | omega | exact ⟨by omega, by omega, by omega, by omega⟩ | exact Nat.le_of_ble_eq_true rfl) rfl ?_
                | refine r_ld tab_ok rfl rfl rfl rfl rfl ?_
                | refine r_idx tab_ok rfl rfl rfl rfl rfl rfl rfl (by first | exact ⟨by omega, by omega⟩ | (simp; omega)) rfl rfl ?_
                | refine r_idxd tab_ok rfl rfl rfl rfl rfl rfl rfl (by decide) rfl rfl rfl ?_
                | refine r_wr tab_ok rfl rfl rfl rfl rfl ?_
                | refine r_st tab_ok rfl rfl rfl rfl ?_
                | refine r_len_cnd tab_ok rfl rfl rfl rfl rfl rfl (by first | exact fun _ => rfl | exact cs1) rfl rfl rfl ?_
                | refine r_ev_cnd tab_ok rfl rfl rfl rfl rfl rfl (by first | exact fun _ => rfl | exact cs1 | exact cs2 | exact cs3) (by first | exact fun _ => trivial | (intro h; simp at h; first | exact ⟨by omega, by omega⟩ | omega)) rfl ?_
                | refine r_ld_cnd tab_ok rfl rfl rfl rfl rfl rfl (by first | exact fun _ => rfl | exact cs1 | exact cs2 | exact cs3) rfl ?_
                | refine r_idx_cnd tab_ok rfl rfl rfl rfl rfl rfl rfl (by first | exact fun _ => rfl | exact cs1 | exact cs2) rfl rfl (by exact ⟨by omega, by omega⟩) rfl rfl ?_
                | refine r_idx_cnd' tab_ok rfl rfl rfl rfl rfl rfl rfl (by first | exact fun _ => rfl | exact cs1 | exact cs2) rfl rfl (by intro h; simp at h; exact ⟨by omega, by omega⟩) rfl rfl ?_
                | refine r_or rfl rfl rfl rfl rfl rfl rfl rfl ?_
                | refine r_and rfl rfl rfl rfl rfl rfl rfl rfl ?_
                | refine r_pick_t rfl rfl rfl rfl rfl rfl rfl ?_
                | refine r_pick_f rfl rfl rfl rfl rfl rfl rfl ?_
                | refine r_off rfl rfl rfl rfl rfl rfl ?_
                | refine r_len_on tab_ok rfl rfl rfl rfl rfl rfl rfl rfl rfl ?_
                | refine r_ev_on tab_ok rfl rfl rfl rfl rfl rfl (by first | exact trivial | exact ⟨by omega, by omega⟩ | omega) rfl ?_
                | refine r_ld_on tab_ok rfl rfl rfl rfl rfl rfl rfl ?_
                | refine r_build tab_ok rfl rfl rfl rfl rfl rfl ?_
                | refine r_bstr tab_ok rfl rfl rfl rfl rfl rfl rfl rfl rfl rfl ?_
                | refine r_build_cnd tab_ok rfl rfl rfl rfl rfl (by first | exact fun _ => rfl | exact cs1) rfl rfl rfl ?_
                | refine r_built_cnd tab_ok rfl rfl rfl rfl rfl rfl rfl rfl (by first | exact fun _ => rfl | exact cs1) rfl rfl rfl ?_
                | refine r_rem rfl rfl rfl rfl rfl rfl (by omega) rfl ?_
                | refine r_built0 tab_ok rfl rfl rfl rfl rfl rfl rfl ?_
                | refine r_built tab_ok rfl rfl rfl rfl rfl rfl rfl rfl rfl ?_
                | refine r_append tab_ok rfl rfl rfl rfl rfl rfl rfl rfl rfl (by first | omega | (simp; omega)) rfl ?_
                | refine r_append_nil tab_ok rfl rfl rfl rfl rfl rfl rfl rfl (by first | omega | (simp; omega)) rfl ?_)
              | refine ret1 (by first | exact .inl rfl | exact .inr rfl) rfl rfl rfl ?_
              | refine ret1_row (by first | exact .inl rfl | exact .inr rfl) rfl rfl rfl ?_
              | refine ret2 (by first | exact .inl rfl | exact .inr rfl) rfl rfl rfl rfl ?_ ?_
              | refine awp_cond_t rfl ?_
              | refine awp_cond_f rfl ?_)
            exact ⟨⟨x + 1, by omega⟩, by dsimp only; omega, fits_conv (by repeat' first | exact trivial | exact hrow _ hr' | exact rfl | exact c_sub rfl (Sub.refl _) rfl | exact c_sub rfl (Sub.of_eq (by rw [hst]; rfl)) rfl | exact c_ptr rfl rfl rfl rfl | exact c_row rfl rfl (hrow _ hr') | refine ⟨_, _, rfl, ?_, ?_⟩ | apply And.intro) (by repeat' first | exact trivial | exact hrow _ hr' | exact rfl | exact c_sub rfl (Sub.refl _) rfl | exact c_sub rfl (Sub.of_eq (by rw [hst]; rfl)) rfl | exact c_ptr rfl rfl rfl rfl | exact c_row rfl rfl (hrow _ hr') | refine ⟨_, _, rfl, ?_, ?_⟩ | apply And.intro)⟩
        · have hst : depthF (kk.take (x + 1)) = max (d - 1) 0 := by rw [hstep, hr', if_neg (by decide), if_pos (by decide)]
          refine r_call (round2_ok _ 4 3 (by decide) (by decide) hr') call14 rfl rfl (by repeat' first | exact trivial | exact Sub.refl _ | exact Sub.nil _ | refine Sub.agg ?_ | apply And.intro) rfl rfl rfl rfl ?_
          repeat (first
            | refine awp_seq ?_
            | refine thenA_normal ?_
            | refine awp_block ?_
            | refine a_region ?_
            | refine a_draw1 mixed_ok (by kernel_rfl) ?_
            | refine awp_ret ?_
            | refine awp_exit ?_
            | refine thenA_exit ?_
            | refine thenA_ret ?_
            | refine blockA_normal ?_
            | refine blockA_ret ?_
            | refine blockA_hit rfl ?_
            | refine blockA_miss rfl ?_
            | refine awp_skip ?_
            | refine r_done ?_
            | refine r_done' ?_
            | (refine r_id ?_; first
              | refine r_len tab_ok rfl rfl rfl rfl rfl rfl rfl ?_
              | refine r_ev tab_ok rfl rfl rfl rfl (by first | exact trivial | exact ⟨by omega, by omega⟩ | omega | exact ⟨by omega, by omega, by omega, by omega⟩ | exact Nat.le_of_ble_eq_true rfl) rfl ?_
              | refine r_ld tab_ok rfl rfl rfl rfl rfl ?_
              | refine r_idx tab_ok rfl rfl rfl rfl rfl rfl rfl (by first | exact ⟨by omega, by omega⟩ | (simp; omega)) rfl rfl ?_
              | refine r_idxd tab_ok rfl rfl rfl rfl rfl rfl rfl (by decide) rfl rfl rfl ?_
              | refine r_wr tab_ok rfl rfl rfl rfl rfl ?_
              | refine r_st tab_ok rfl rfl rfl rfl ?_
              | refine r_len_cnd tab_ok rfl rfl rfl rfl rfl rfl (by first | exact fun _ => rfl | exact cs1) rfl rfl rfl ?_
              | refine r_ev_cnd tab_ok rfl rfl rfl rfl rfl rfl (by first | exact fun _ => rfl | exact cs1 | exact cs2 | exact cs3) (by first | exact fun _ => trivial | (intro h; simp at h; first | exact ⟨by omega, by omega⟩ | omega)) rfl ?_
              | refine r_ld_cnd tab_ok rfl rfl rfl rfl rfl rfl (by first | exact fun _ => rfl | exact cs1 | exact cs2 | exact cs3) rfl ?_
              | refine r_idx_cnd tab_ok rfl rfl rfl rfl rfl rfl rfl (by first | exact fun _ => rfl | exact cs1 | exact cs2) rfl rfl (by exact ⟨by omega, by omega⟩) rfl rfl ?_
              | refine r_idx_cnd' tab_ok rfl rfl rfl rfl rfl rfl rfl (by first | exact fun _ => rfl | exact cs1 | exact cs2) rfl rfl (by intro h; simp at h; exact ⟨by omega, by omega⟩) rfl rfl ?_
              | refine r_or rfl rfl rfl rfl rfl rfl rfl rfl ?_
              | refine r_and rfl rfl rfl rfl rfl rfl rfl rfl ?_
              | refine r_pick_t rfl rfl rfl rfl rfl rfl rfl ?_
              | refine r_pick_f rfl rfl rfl rfl rfl rfl rfl ?_
              | refine r_off rfl rfl rfl rfl rfl rfl ?_
              | refine r_len_on tab_ok rfl rfl rfl rfl rfl rfl rfl rfl rfl ?_
              | refine r_ev_on tab_ok rfl rfl rfl rfl rfl rfl (by first | exact trivial | exact ⟨by omega, by omega⟩ | omega) rfl ?_
              | refine r_ld_on tab_ok rfl rfl rfl rfl rfl rfl rfl ?_
              | refine r_build tab_ok rfl rfl rfl rfl rfl rfl ?_
              | refine r_bstr tab_ok rfl rfl rfl rfl rfl rfl rfl rfl rfl rfl ?_
              | refine r_build_cnd tab_ok rfl rfl rfl rfl rfl (by first | exact fun _ => rfl | exact cs1) rfl rfl rfl ?_
              | refine r_built_cnd tab_ok rfl rfl rfl rfl rfl rfl rfl rfl (by first | exact fun _ => rfl | exact cs1) rfl rfl rfl ?_
              | refine r_rem rfl rfl rfl rfl rfl rfl (by omega) rfl ?_
              | refine r_built0 tab_ok rfl rfl rfl rfl rfl rfl rfl ?_
              | refine r_built tab_ok rfl rfl rfl rfl rfl rfl rfl rfl rfl ?_
              | refine r_append tab_ok rfl rfl rfl rfl rfl rfl rfl rfl rfl (by first | omega | (simp; omega)) rfl ?_
              | refine r_append_nil tab_ok rfl rfl rfl rfl rfl rfl rfl rfl (by first | omega | (simp; omega)) rfl ?_)
            | refine ret1 (by first | exact .inl rfl | exact .inr rfl) rfl rfl rfl ?_
            | refine ret1_row (by first | exact .inl rfl | exact .inr rfl) rfl rfl rfl ?_
            | refine ret2 (by first | exact .inl rfl | exact .inr rfl) rfl rfl rfl rfl ?_ ?_
            | refine awp_cond_t rfl ?_
            | refine awp_cond_f rfl ?_)
          refine r_call (stDo8 oB kB k d (by omega) hd0 (by omega)) call9 rfl rfl ⟨stP_sub _, Sub.refl _, Sub.refl _, trivial⟩ rfl rfl rfl rfl ?_
          repeat (first
            | refine awp_seq ?_
            | refine thenA_normal ?_
            | refine awp_block ?_
            | refine a_region ?_
            | refine a_draw1 mixed_ok (by kernel_rfl) ?_
            | refine awp_ret ?_
            | refine awp_exit ?_
            | refine thenA_exit ?_
            | refine thenA_ret ?_
            | refine blockA_normal ?_
            | refine blockA_ret ?_
            | refine blockA_hit rfl ?_
            | refine blockA_miss rfl ?_
            | refine awp_skip ?_
            | refine r_done ?_
            | refine r_done' ?_
            | (refine r_id ?_; first
              | refine r_len tab_ok rfl rfl rfl rfl rfl rfl rfl ?_
              | refine r_ev tab_ok rfl rfl rfl rfl (by first | exact trivial | exact ⟨by omega, by omega⟩ | omega | exact ⟨by omega, by omega, by omega, by omega⟩ | exact Nat.le_of_ble_eq_true rfl) rfl ?_
              | refine r_ld tab_ok rfl rfl rfl rfl rfl ?_
              | refine r_idx tab_ok rfl rfl rfl rfl rfl rfl rfl (by first | exact ⟨by omega, by omega⟩ | (simp; omega)) rfl rfl ?_
              | refine r_idxd tab_ok rfl rfl rfl rfl rfl rfl rfl (by decide) rfl rfl rfl ?_
              | refine r_wr tab_ok rfl rfl rfl rfl rfl ?_
              | refine r_st tab_ok rfl rfl rfl rfl ?_
              | refine r_len_cnd tab_ok rfl rfl rfl rfl rfl rfl (by first | exact fun _ => rfl | exact cs1) rfl rfl rfl ?_
              | refine r_ev_cnd tab_ok rfl rfl rfl rfl rfl rfl (by first | exact fun _ => rfl | exact cs1 | exact cs2 | exact cs3) (by first | exact fun _ => trivial | (intro h; simp at h; first | exact ⟨by omega, by omega⟩ | omega)) rfl ?_
              | refine r_ld_cnd tab_ok rfl rfl rfl rfl rfl rfl (by first | exact fun _ => rfl | exact cs1 | exact cs2 | exact cs3) rfl ?_
              | refine r_idx_cnd tab_ok rfl rfl rfl rfl rfl rfl rfl (by first | exact fun _ => rfl | exact cs1 | exact cs2) rfl rfl (by exact ⟨by omega, by omega⟩) rfl rfl ?_
              | refine r_idx_cnd' tab_ok rfl rfl rfl rfl rfl rfl rfl (by first | exact fun _ => rfl | exact cs1 | exact cs2) rfl rfl (by intro h; simp at h; exact ⟨by omega, by omega⟩) rfl rfl ?_
              | refine r_or rfl rfl rfl rfl rfl rfl rfl rfl ?_
              | refine r_and rfl rfl rfl rfl rfl rfl rfl rfl ?_
              | refine r_pick_t rfl rfl rfl rfl rfl rfl rfl ?_
              | refine r_pick_f rfl rfl rfl rfl rfl rfl rfl ?_
              | refine r_off rfl rfl rfl rfl rfl rfl ?_
              | refine r_len_on tab_ok rfl rfl rfl rfl rfl rfl rfl rfl rfl ?_
              | refine r_ev_on tab_ok rfl rfl rfl rfl rfl rfl (by first | exact trivial | exact ⟨by omega, by omega⟩ | omega) rfl ?_
              | refine r_ld_on tab_ok rfl rfl rfl rfl rfl rfl rfl ?_
              | refine r_build tab_ok rfl rfl rfl rfl rfl rfl ?_
              | refine r_bstr tab_ok rfl rfl rfl rfl rfl rfl rfl rfl rfl rfl ?_
              | refine r_build_cnd tab_ok rfl rfl rfl rfl rfl (by first | exact fun _ => rfl | exact cs1) rfl rfl rfl ?_
              | refine r_built_cnd tab_ok rfl rfl rfl rfl rfl rfl rfl rfl (by first | exact fun _ => rfl | exact cs1) rfl rfl rfl ?_
              | refine r_rem rfl rfl rfl rfl rfl rfl (by omega) rfl ?_
              | refine r_built0 tab_ok rfl rfl rfl rfl rfl rfl rfl ?_
              | refine r_built tab_ok rfl rfl rfl rfl rfl rfl rfl rfl rfl ?_
              | refine r_append tab_ok rfl rfl rfl rfl rfl rfl rfl rfl rfl (by first | omega | (simp; omega)) rfl ?_
              | refine r_append_nil tab_ok rfl rfl rfl rfl rfl rfl rfl rfl (by first | omega | (simp; omega)) rfl ?_)
            | refine ret1 (by first | exact .inl rfl | exact .inr rfl) rfl rfl rfl ?_
            | refine ret1_row (by first | exact .inl rfl | exact .inr rfl) rfl rfl rfl ?_
            | refine ret2 (by first | exact .inl rfl | exact .inr rfl) rfl rfl rfl rfl ?_ ?_
            | refine awp_cond_t rfl ?_
            | refine awp_cond_f rfl ?_)
          refine awp_cond rfl (fun hb => ?_) (fun _ => ?_)
          · exfalso
            simp at hb
          · repeat (first
              | refine awp_seq ?_
              | refine thenA_normal ?_
              | refine awp_block ?_
              | refine a_region ?_
              | refine a_draw1 mixed_ok (by kernel_rfl) ?_
              | refine awp_ret ?_
              | refine awp_exit ?_
              | refine thenA_exit ?_
              | refine thenA_ret ?_
              | refine blockA_normal ?_
              | refine blockA_ret ?_
              | refine blockA_hit rfl ?_
              | refine blockA_miss rfl ?_
              | refine awp_skip ?_
              | refine r_done ?_
              | refine r_done' ?_
              | (refine r_id ?_; first
                | refine r_len tab_ok rfl rfl rfl rfl rfl rfl rfl ?_
                | refine r_ev tab_ok rfl rfl rfl rfl (by first | exact trivial | exact ⟨by omega, by omega⟩ | omega | exact ⟨by omega, by omega, by omega, by omega⟩ | exact Nat.le_of_ble_eq_true rfl) rfl ?_
                | refine r_ld tab_ok rfl rfl rfl rfl rfl ?_
                | refine r_idx tab_ok rfl rfl rfl rfl rfl rfl rfl (by first | exact ⟨by omega, by omega⟩ | (simp; omega)) rfl rfl ?_
                | refine r_idxd tab_ok rfl rfl rfl rfl rfl rfl rfl (by decide) rfl rfl rfl ?_
                | refine r_wr tab_ok rfl rfl rfl rfl rfl ?_
                | refine r_st tab_ok rfl rfl rfl rfl ?_
                | refine r_len_cnd tab_ok rfl rfl rfl rfl rfl rfl (by first | exact fun _ => rfl | exact cs1) rfl rfl rfl ?_
                | refine r_ev_cnd tab_ok rfl rfl rfl rfl rfl rfl (by first | exact fun _ => rfl | exact cs1 | exact cs2 | exact cs3) (by first | exact fun _ => trivial | (intro h; simp at h; first | exact ⟨by omega, by omega⟩ | omega)) rfl ?_
                | refine r_ld_cnd tab_ok rfl rfl rfl rfl rfl rfl (by first | exact fun _ => rfl | exact cs1 | exact cs2 | exact cs3) rfl ?_
                | refine r_idx_cnd tab_ok rfl rfl rfl rfl rfl rfl rfl (by first | exact fun _ => rfl | exact cs1 | exact cs2) rfl rfl (by exact ⟨by omega, by omega⟩) rfl rfl ?_
                | refine r_idx_cnd' tab_ok rfl rfl rfl rfl rfl rfl rfl (by first | exact fun _ => rfl | exact cs1 | exact cs2) rfl rfl (by intro h; simp at h; exact ⟨by omega, by omega⟩) rfl rfl ?_
                | refine r_or rfl rfl rfl rfl rfl rfl rfl rfl ?_
                | refine r_and rfl rfl rfl rfl rfl rfl rfl rfl ?_
                | refine r_pick_t rfl rfl rfl rfl rfl rfl rfl ?_
                | refine r_pick_f rfl rfl rfl rfl rfl rfl rfl ?_
                | refine r_off rfl rfl rfl rfl rfl rfl ?_
                | refine r_len_on tab_ok rfl rfl rfl rfl rfl rfl rfl rfl rfl ?_
                | refine r_ev_on tab_ok rfl rfl rfl rfl rfl rfl (by first | exact trivial | exact ⟨by omega, by omega⟩ | omega) rfl ?_
                | refine r_ld_on tab_ok rfl rfl rfl rfl rfl rfl rfl ?_
                | refine r_build tab_ok rfl rfl rfl rfl rfl rfl ?_
                | refine r_bstr tab_ok rfl rfl rfl rfl rfl rfl rfl rfl rfl rfl ?_
                | refine r_build_cnd tab_ok rfl rfl rfl rfl rfl (by first | exact fun _ => rfl | exact cs1) rfl rfl rfl ?_
                | refine r_built_cnd tab_ok rfl rfl rfl rfl rfl rfl rfl rfl (by first | exact fun _ => rfl | exact cs1) rfl rfl rfl ?_
                | refine r_rem rfl rfl rfl rfl rfl rfl (by omega) rfl ?_
                | refine r_built0 tab_ok rfl rfl rfl rfl rfl rfl rfl ?_
                | refine r_built tab_ok rfl rfl rfl rfl rfl rfl rfl rfl rfl ?_
                | refine r_append tab_ok rfl rfl rfl rfl rfl rfl rfl rfl rfl (by first | omega | (simp; omega)) rfl ?_
                | refine r_append_nil tab_ok rfl rfl rfl rfl rfl rfl rfl rfl (by first | omega | (simp; omega)) rfl ?_)
              | refine ret1 (by first | exact .inl rfl | exact .inr rfl) rfl rfl rfl ?_
              | refine ret1_row (by first | exact .inl rfl | exact .inr rfl) rfl rfl rfl ?_
              | refine ret2 (by first | exact .inl rfl | exact .inr rfl) rfl rfl rfl rfl ?_ ?_
              | refine awp_cond_t rfl ?_
              | refine awp_cond_f rfl ?_)
            exact ⟨⟨x + 1, by omega⟩, by dsimp only; omega, fits_conv (by repeat' first | exact trivial | exact hrow _ hr' | exact rfl | exact c_sub rfl (Sub.refl _) rfl | exact c_sub rfl (Sub.of_eq (by rw [hst]; rfl)) rfl | exact c_ptr rfl rfl rfl rfl | exact c_row rfl rfl (hrow _ hr') | refine ⟨_, _, rfl, ?_, ?_⟩ | apply And.intro) (by repeat' first | exact trivial | exact hrow _ hr' | exact rfl | exact c_sub rfl (Sub.refl _) rfl | exact c_sub rfl (Sub.of_eq (by rw [hst]; rfl)) rfl | exact c_ptr rfl rfl rfl rfl | exact c_row rfl rfl (hrow _ hr') | refine ⟨_, _, rfl, ?_, ?_⟩ | apply And.intro)⟩
      · have : x = l.length := by omega
        refine awp_fits (fits_conv (M' := [.box 26 (bx (.sl 1 ((prs oB kB k).map sD))), .gone, .gone]) (F' := [(8, .sl 1 ((kk.take x).map iDn)), (7, .val (.int .i64 d))]) (by repeat' first | exact trivial | exact rfl | exact c_sub rfl (Sub.refl _) rfl | exact c_nil rfl rfl | exact c_thaw rfl rfl rfl | exact c_row rfl rfl rfl | exact c_ptr rfl rfl rfl rfl | refine ⟨_, _, rfl, ?_, ?_⟩ | apply And.intro) (by repeat' first | exact trivial | exact rfl | exact c_sub rfl (Sub.refl _) rfl | exact c_nil rfl rfl | exact c_thaw rfl rfl rfl | exact c_row rfl rfl rfl | exact c_ptr rfl rfl rfl rfl | refine ⟨_, _, rfl, ?_, ?_⟩ | apply And.intro)) ?_
        have hdk := depth_ok (kk.take x) (by omega)
        rw [← hd] at hdk
        repeat (first
          | refine awp_seq ?_
          | refine thenA_normal ?_
          | refine awp_block ?_
          | refine a_region ?_
          | refine a_draw1 mixed_ok (by kernel_rfl) ?_
          | refine awp_ret ?_
          | refine awp_exit ?_
          | refine thenA_exit ?_
          | refine thenA_ret ?_
          | refine blockA_normal ?_
          | refine blockA_ret ?_
          | refine blockA_hit rfl ?_
          | refine blockA_miss rfl ?_
          | refine awp_skip ?_
          | refine r_done ?_
          | refine r_done' ?_
          | (refine r_id ?_; first
            | refine r_len tab_ok rfl rfl rfl rfl rfl rfl rfl ?_
            | refine r_ev tab_ok rfl rfl rfl rfl (by first | exact trivial | exact ⟨by omega, by omega⟩ | omega | exact ⟨by omega, by omega, by omega, by omega⟩ | exact Nat.le_of_ble_eq_true rfl) rfl ?_
            | refine r_ld tab_ok rfl rfl rfl rfl rfl ?_
            | refine r_idx tab_ok rfl rfl rfl rfl rfl rfl rfl (by first | exact ⟨by omega, by omega⟩ | (simp; omega)) rfl rfl ?_
            | refine r_idxd tab_ok rfl rfl rfl rfl rfl rfl rfl (by decide) rfl rfl rfl ?_
            | refine r_wr tab_ok rfl rfl rfl rfl rfl ?_
            | refine r_st tab_ok rfl rfl rfl rfl ?_
            | refine r_len_cnd tab_ok rfl rfl rfl rfl rfl rfl (by first | exact fun _ => rfl | exact cs1) rfl rfl rfl ?_
            | refine r_ev_cnd tab_ok rfl rfl rfl rfl rfl rfl (by first | exact fun _ => rfl | exact cs1 | exact cs2 | exact cs3) (by first | exact fun _ => trivial | (intro h; simp at h; first | exact ⟨by omega, by omega⟩ | omega)) rfl ?_
            | refine r_ld_cnd tab_ok rfl rfl rfl rfl rfl rfl (by first | exact fun _ => rfl | exact cs1 | exact cs2 | exact cs3) rfl ?_
            | refine r_idx_cnd tab_ok rfl rfl rfl rfl rfl rfl rfl (by first | exact fun _ => rfl | exact cs1 | exact cs2) rfl rfl (by exact ⟨by omega, by omega⟩) rfl rfl ?_
            | refine r_idx_cnd' tab_ok rfl rfl rfl rfl rfl rfl rfl (by first | exact fun _ => rfl | exact cs1 | exact cs2) rfl rfl (by intro h; simp at h; exact ⟨by omega, by omega⟩) rfl rfl ?_
            | refine r_or rfl rfl rfl rfl rfl rfl rfl rfl ?_
            | refine r_and rfl rfl rfl rfl rfl rfl rfl rfl ?_
            | refine r_pick_t rfl rfl rfl rfl rfl rfl rfl ?_
            | refine r_pick_f rfl rfl rfl rfl rfl rfl rfl ?_
            | refine r_off rfl rfl rfl rfl rfl rfl ?_
            | refine r_len_on tab_ok rfl rfl rfl rfl rfl rfl rfl rfl rfl ?_
            | refine r_ev_on tab_ok rfl rfl rfl rfl rfl rfl (by first | exact trivial | exact ⟨by omega, by omega⟩ | omega) rfl ?_
            | refine r_ld_on tab_ok rfl rfl rfl rfl rfl rfl rfl ?_
            | refine r_build tab_ok rfl rfl rfl rfl rfl rfl ?_
            | refine r_bstr tab_ok rfl rfl rfl rfl rfl rfl rfl rfl rfl rfl ?_
            | refine r_build_cnd tab_ok rfl rfl rfl rfl rfl (by first | exact fun _ => rfl | exact cs1) rfl rfl rfl ?_
            | refine r_built_cnd tab_ok rfl rfl rfl rfl rfl rfl rfl rfl (by first | exact fun _ => rfl | exact cs1) rfl rfl rfl ?_
            | refine r_rem rfl rfl rfl rfl rfl rfl (by omega) rfl ?_
            | refine r_built0 tab_ok rfl rfl rfl rfl rfl rfl rfl ?_
            | refine r_built tab_ok rfl rfl rfl rfl rfl rfl rfl rfl rfl ?_
            | refine r_append tab_ok rfl rfl rfl rfl rfl rfl rfl rfl rfl (by first | omega | (simp; omega)) rfl ?_
            | refine r_append_nil tab_ok rfl rfl rfl rfl rfl rfl rfl rfl (by first | omega | (simp; omega)) rfl ?_)
          | refine ret1 (by first | exact .inl rfl | exact .inr rfl) rfl rfl rfl ?_
          | refine ret1_row (by first | exact .inl rfl | exact .inr rfl) rfl rfl rfl ?_
          | refine ret2 (by first | exact .inl rfl | exact .inr rfl) rfl rfl rfl rfl ?_ ?_
          | refine awp_cond_t rfl ?_
          | refine awp_cond_f rfl ?_)
        refine r_call hdk call15 rfl rfl (by repeat' first | exact trivial | exact Sub.refl _ | exact Sub.nil _ | refine Sub.agg ?_ | apply And.intro) rfl rfl rfl rfl ?_
        repeat (first
          | refine awp_seq ?_
          | refine thenA_normal ?_
          | refine awp_block ?_
          | refine a_region ?_
          | refine a_draw1 mixed_ok (by kernel_rfl) ?_
          | refine awp_ret ?_
          | refine awp_exit ?_
          | refine thenA_exit ?_
          | refine thenA_ret ?_
          | refine blockA_normal ?_
          | refine blockA_ret ?_
          | refine blockA_hit rfl ?_
          | refine blockA_miss rfl ?_
          | refine awp_skip ?_
          | refine r_done ?_
          | refine r_done' ?_
          | (refine r_id ?_; first
            | refine r_len tab_ok rfl rfl rfl rfl rfl rfl rfl ?_
            | refine r_ev tab_ok rfl rfl rfl rfl (by first | exact trivial | exact ⟨by omega, by omega⟩ | omega | exact ⟨by omega, by omega, by omega, by omega⟩ | exact Nat.le_of_ble_eq_true rfl) rfl ?_
            | refine r_ld tab_ok rfl rfl rfl rfl rfl ?_
            | refine r_idx tab_ok rfl rfl rfl rfl rfl rfl rfl (by first | exact ⟨by omega, by omega⟩ | (simp; omega)) rfl rfl ?_
            | refine r_idxd tab_ok rfl rfl rfl rfl rfl rfl rfl (by decide) rfl rfl rfl ?_
            | refine r_wr tab_ok rfl rfl rfl rfl rfl ?_
            | refine r_st tab_ok rfl rfl rfl rfl ?_
            | refine r_len_cnd tab_ok rfl rfl rfl rfl rfl rfl (by first | exact fun _ => rfl | exact cs1) rfl rfl rfl ?_
            | refine r_ev_cnd tab_ok rfl rfl rfl rfl rfl rfl (by first | exact fun _ => rfl | exact cs1 | exact cs2 | exact cs3) (by first | exact fun _ => trivial | (intro h; simp at h; first | exact ⟨by omega, by omega⟩ | omega)) rfl ?_
            | refine r_ld_cnd tab_ok rfl rfl rfl rfl rfl rfl (by first | exact fun _ => rfl | exact cs1 | exact cs2 | exact cs3) rfl ?_
            | refine r_idx_cnd tab_ok rfl rfl rfl rfl rfl rfl rfl (by first | exact fun _ => rfl | exact cs1 | exact cs2) rfl rfl (by exact ⟨by omega, by omega⟩) rfl rfl ?_
            | refine r_idx_cnd' tab_ok rfl rfl rfl rfl rfl rfl rfl (by first | exact fun _ => rfl | exact cs1 | exact cs2) rfl rfl (by intro h; simp at h; exact ⟨by omega, by omega⟩) rfl rfl ?_
            | refine r_or rfl rfl rfl rfl rfl rfl rfl rfl ?_
            | refine r_and rfl rfl rfl rfl rfl rfl rfl rfl ?_
            | refine r_pick_t rfl rfl rfl rfl rfl rfl rfl ?_
            | refine r_pick_f rfl rfl rfl rfl rfl rfl rfl ?_
            | refine r_off rfl rfl rfl rfl rfl rfl ?_
            | refine r_len_on tab_ok rfl rfl rfl rfl rfl rfl rfl rfl rfl ?_
            | refine r_ev_on tab_ok rfl rfl rfl rfl rfl rfl (by first | exact trivial | exact ⟨by omega, by omega⟩ | omega) rfl ?_
            | refine r_ld_on tab_ok rfl rfl rfl rfl rfl rfl rfl ?_
            | refine r_build tab_ok rfl rfl rfl rfl rfl rfl ?_
            | refine r_bstr tab_ok rfl rfl rfl rfl rfl rfl rfl rfl rfl rfl ?_
            | refine r_build_cnd tab_ok rfl rfl rfl rfl rfl (by first | exact fun _ => rfl | exact cs1) rfl rfl rfl ?_
            | refine r_built_cnd tab_ok rfl rfl rfl rfl rfl rfl rfl rfl (by first | exact fun _ => rfl | exact cs1) rfl rfl rfl ?_
            | refine r_rem rfl rfl rfl rfl rfl rfl (by omega) rfl ?_
            | refine r_built0 tab_ok rfl rfl rfl rfl rfl rfl rfl ?_
            | refine r_built tab_ok rfl rfl rfl rfl rfl rfl rfl rfl rfl ?_
            | refine r_append tab_ok rfl rfl rfl rfl rfl rfl rfl rfl rfl (by first | omega | (simp; omega)) rfl ?_
            | refine r_append_nil tab_ok rfl rfl rfl rfl rfl rfl rfl rfl (by first | omega | (simp; omega)) rfl ?_)
          | refine ret1 (by first | exact .inl rfl | exact .inr rfl) rfl rfl rfl ?_
          | refine ret1_row (by first | exact .inl rfl | exact .inr rfl) rfl rfl rfl ?_
          | refine ret2 (by first | exact .inl rfl | exact .inr rfl) rfl rfl rfl rfl ?_ ?_
          | refine awp_cond_t rfl ?_
          | refine awp_cond_f rfl ?_)
        refine r_call_cnd (fun _ => awake_ok) call8 rfl rfl rfl rfl (by first | exact fun _ => rfl | exact cs1 | exact cs2 | exact cs3) (by repeat' first | exact trivial | exact Sub.refl _ | exact Sub.nil _ | refine Sub.agg ?_ | apply And.intro) rfl rfl rfl rfl ?_
        repeat (first
          | refine awp_seq ?_
          | refine thenA_normal ?_
          | refine awp_block ?_
          | refine a_region ?_
          | refine a_draw1 mixed_ok (by kernel_rfl) ?_
          | refine awp_ret ?_
          | refine awp_exit ?_
          | refine thenA_exit ?_
          | refine thenA_ret ?_
          | refine blockA_normal ?_
          | refine blockA_ret ?_
          | refine blockA_hit rfl ?_
          | refine blockA_miss rfl ?_
          | refine awp_skip ?_
          | refine r_done ?_
          | refine r_done' ?_
          | (refine r_id ?_; first
            | refine r_len tab_ok rfl rfl rfl rfl rfl rfl rfl ?_
            | refine r_ev tab_ok rfl rfl rfl rfl (by first | exact trivial | exact ⟨by omega, by omega⟩ | omega | exact ⟨by omega, by omega, by omega, by omega⟩ | exact Nat.le_of_ble_eq_true rfl) rfl ?_
            | refine r_ld tab_ok rfl rfl rfl rfl rfl ?_
            | refine r_idx tab_ok rfl rfl rfl rfl rfl rfl rfl (by first | exact ⟨by omega, by omega⟩ | (simp; omega)) rfl rfl ?_
            | refine r_idxd tab_ok rfl rfl rfl rfl rfl rfl rfl (by decide) rfl rfl rfl ?_
            | refine r_wr tab_ok rfl rfl rfl rfl rfl ?_
            | refine r_st tab_ok rfl rfl rfl rfl ?_
            | refine r_len_cnd tab_ok rfl rfl rfl rfl rfl rfl (by first | exact fun _ => rfl | exact cs1) rfl rfl rfl ?_
            | refine r_ev_cnd tab_ok rfl rfl rfl rfl rfl rfl (by first | exact fun _ => rfl | exact cs1 | exact cs2 | exact cs3) (by first | exact fun _ => trivial | (intro h; simp at h; first | exact ⟨by omega, by omega⟩ | omega)) rfl ?_
            | refine r_ld_cnd tab_ok rfl rfl rfl rfl rfl rfl (by first | exact fun _ => rfl | exact cs1 | exact cs2 | exact cs3) rfl ?_
            | refine r_idx_cnd tab_ok rfl rfl rfl rfl rfl rfl rfl (by first | exact fun _ => rfl | exact cs1 | exact cs2) rfl rfl (by exact ⟨by omega, by omega⟩) rfl rfl ?_
            | refine r_idx_cnd' tab_ok rfl rfl rfl rfl rfl rfl rfl (by first | exact fun _ => rfl | exact cs1 | exact cs2) rfl rfl (by intro h; simp at h; exact ⟨by omega, by omega⟩) rfl rfl ?_
            | refine r_or rfl rfl rfl rfl rfl rfl rfl rfl ?_
            | refine r_and rfl rfl rfl rfl rfl rfl rfl rfl ?_
            | refine r_pick_t rfl rfl rfl rfl rfl rfl rfl ?_
            | refine r_pick_f rfl rfl rfl rfl rfl rfl rfl ?_
            | refine r_off rfl rfl rfl rfl rfl rfl ?_
            | refine r_len_on tab_ok rfl rfl rfl rfl rfl rfl rfl rfl rfl ?_
            | refine r_ev_on tab_ok rfl rfl rfl rfl rfl rfl (by first | exact trivial | exact ⟨by omega, by omega⟩ | omega) rfl ?_
            | refine r_ld_on tab_ok rfl rfl rfl rfl rfl rfl rfl ?_
            | refine r_build tab_ok rfl rfl rfl rfl rfl rfl ?_
            | refine r_bstr tab_ok rfl rfl rfl rfl rfl rfl rfl rfl rfl rfl ?_
            | refine r_build_cnd tab_ok rfl rfl rfl rfl rfl (by first | exact fun _ => rfl | exact cs1) rfl rfl rfl ?_
            | refine r_built_cnd tab_ok rfl rfl rfl rfl rfl rfl rfl rfl (by first | exact fun _ => rfl | exact cs1) rfl rfl rfl ?_
            | refine r_rem rfl rfl rfl rfl rfl rfl (by omega) rfl ?_
            | refine r_built0 tab_ok rfl rfl rfl rfl rfl rfl rfl ?_
            | refine r_built tab_ok rfl rfl rfl rfl rfl rfl rfl rfl rfl ?_
            | refine r_append tab_ok rfl rfl rfl rfl rfl rfl rfl rfl rfl (by first | omega | (simp; omega)) rfl ?_
            | refine r_append_nil tab_ok rfl rfl rfl rfl rfl rfl rfl rfl (by first | omega | (simp; omega)) rfl ?_)
          | refine ret1 (by first | exact .inl rfl | exact .inr rfl) rfl rfl rfl ?_
          | refine ret1_row (by first | exact .inl rfl | exact .inr rfl) rfl rfl rfl ?_
          | refine ret2 (by first | exact .inl rfl | exact .inr rfl) rfl rfl rfl rfl ?_ ?_
          | refine awp_cond_t rfl ?_
          | refine awp_cond_f rfl ?_)
        exact Sub.of_eq (by simp)
end Go.Proofs.Ytecnkliefoddaaa
