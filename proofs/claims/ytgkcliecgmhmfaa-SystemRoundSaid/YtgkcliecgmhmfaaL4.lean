/- Counter styles: places by positions; slices.Reverse. Numbers of law9's seat. -/
import Derived.Test.YtgkcliecgmhmfaaL1
namespace Go.Proofs.Ytgkcliecgmhmfaa
open Go Go.RowKit

def nD (n : Nat) : D := .val (.int .i64 n)
theorem map_nD (l : List Nat) : l.map nD = (l.map (Nat.cast : Nat → Int)).map iD := by rw [List.map_map]; rfl
/-- A number's digits, the last one first. -/
def digN (k : Nat) (n : Nat) : List Nat := if h : 2 ≤ k ∧ k ≤ n then (n % k) :: digN k (n / k) else [n % k]
termination_by n
decreasing_by exact Nat.div_lt_self (by omega) (by omega)
theorem digN_ge {k n : Nat} (hk : 2 ≤ k) (h : k ≤ n) : digN k n = (n % k) :: digN k (n / k) := by rw [digN, dif_pos ⟨hk, h⟩]
theorem digN_lt {k n : Nat} (h : n < k) : digN k n = [n % k] := by rw [digN, dif_neg (by omega)]
theorem digN_cons (k n : Nat) : digN k n = (n % k) :: (digN k n).tail := by
  rw [digN]
  split <;> rfl
theorem digN_len (k n : Nat) : (digN k n).length ≤ n + 1 := by
  rw [digN]
  split
  · rename_i h
    have := digN_len k (n / k)
    have := Nat.div_lt_self (n := n) (k := k) (by omega) (by omega)
    simp; omega
  · simp
termination_by n
decreasing_by exact Nat.div_lt_self (by omega) (by omega)
theorem pos0_ok (n k : Nat) (hk : 2 ≤ k) (hk2 : k ≤ 65536) (hn : n ≤ 2147483648) : PCalls Try.prog 20 [.val (.int .i64 n), .val (.int .i64 k), .val (.bool true)] (.sl 1 ((digN k n).map nD)) := by
  refine p_start Try.func20 Try.ntmps20 rfl rfl rfl fun S w => ?_
  repeat (first
    | refine awp_seq ?_
    | refine thenA_normal ?_
    | refine awp_block ?_
    | refine a_region ?_
    | refine r_done ?_
    | (refine r_id ?_; first
      | refine r_ev tab_ok rfl rfl rfl rfl (by first | exact trivial | exact ⟨by omega, by omega⟩ | omega | exact ⟨by omega, by omega, by omega, by omega⟩ | exact Nat.le_of_ble_eq_true rfl) rfl ?_
      | refine r_built tab_ok rfl rfl rfl rfl rfl rfl rfl rfl rfl ?_
      | refine r_append_nil tab_ok rfl rfl rfl rfl rfl rfl rfl rfl (by first | omega | (simp; omega) | simp) rfl ?_)
    | refine awp_cond_t rfl ?_)
  refine a_loop (σ := {x : Nat × List Nat // x.1 ≤ n ∧ x.2 ++ (digN k x.1).tail = digN k n}) (fun x => [.row 0 3 1 (x.1.2.map nD)]) (fun x => [(0, .val (.int .i64 x.1.1)), (1, .val (.int .i64 k)), (6, .row 0 0)]) (fun x => x.1.1) ⟨(n, [n % k]), Nat.le_refl _, (digN_cons k n).symm⟩ (fits_conv (by repeat' first | exact trivial | exact rfl | (rw [List.map_append]; first | done | rfl) | exact c_sub rfl (Sub.refl _) rfl | exact c_nil rfl rfl | exact c_thaw rfl rfl rfl | exact c_row rfl rfl rfl | exact c_row rfl rfl (by rw [List.map_append]; first | done | rfl) | exact c_ptr rfl rfl rfl rfl | exact Or.inl ⟨c_sub rfl (Sub.refl _) rfl, c_ptr rfl rfl rfl rfl⟩ | exact c_alt rfl rfl rfl rfl | exact c_ro rfl rfl | exact c_eo rfl rfl | exact c_sub rfl (Sub.altl _ _) rfl | refine ⟨_, _, rfl, ?_, ?_⟩ | apply And.intro) (by repeat' first | exact trivial | exact rfl | (rw [List.map_append]; first | done | rfl) | exact c_sub rfl (Sub.refl _) rfl | exact c_nil rfl rfl | exact c_thaw rfl rfl rfl | exact c_row rfl rfl rfl | exact c_row rfl rfl (by rw [List.map_append]; first | done | rfl) | exact c_ptr rfl rfl rfl rfl | exact Or.inl ⟨c_sub rfl (Sub.refl _) rfl, c_ptr rfl rfl rfl rfl⟩ | exact c_alt rfl rfl rfl rfl | exact c_ro rfl rfl | exact c_eo rfl rfl | exact c_sub rfl (Sub.altl _ _) rfl | refine ⟨_, _, rfl, ?_, ?_⟩ | apply And.intro)) ?_
  rintro ⟨⟨m, out⟩, hm, ho⟩
  have hlen : out.length ≤ 2147483649 := by
    have h1 := digN_len k n
    have h2 := congrArg List.length ho
    rw [List.length_append] at h2
    dsimp only at h2 hm
    omega
  dsimp only at hm ho ⊢
  repeat (first
    | refine awp_seq ?_
    | refine thenA_normal ?_
    | refine a_region ?_
    | refine r_done ?_
    | (refine r_id ?_; first
      | refine r_ev tab_ok rfl rfl rfl rfl (by first | exact trivial | exact ⟨by omega, by omega⟩ | omega | exact ⟨by omega, by omega, by omega, by omega⟩ | exact Nat.le_of_ble_eq_true rfl) rfl ?_))
  refine awp_cond_p rfl (fun hge => ?_) (fun hlt => ?_)
  · have hge : k ≤ m := by omega
    have q1 : 0 ≤ (m : Int) / (k : Int) := Int.ediv_nonneg (by omega) (by omega)
    have q2 : (m : Int) / (k : Int) ≤ m := Int.ediv_le_self _ (by omega)
    repeat (first
      | refine awp_seq ?_
      | refine thenA_normal ?_
      | refine awp_block ?_
      | refine a_region ?_
      | refine awp_skip ?_
      | refine r_done ?_
      | (refine r_id ?_; first
        | refine r_ev tab_ok rfl rfl rfl rfl (by first | exact trivial | exact ⟨by omega, by omega⟩ | omega | exact ⟨by omega, by omega, by omega, by omega⟩ | exact Nat.le_of_ble_eq_true rfl) rfl ?_
        | refine r_built tab_ok rfl rfl rfl rfl rfl rfl rfl rfl rfl ?_
        | refine r_append tab_ok rfl rfl rfl rfl rfl rfl rfl rfl rfl (by first | omega | (simp; omega)) rfl ?_))
    exact ⟨⟨(m / k, out ++ [m / k % k]), by have := Nat.div_le_self m k; dsimp only; omega, by
      rw [← ho, digN_ge hk hge]
      simp only [List.tail_cons]
      rw [List.append_assoc, List.singleton_append, ← digN_cons]⟩, Nat.div_lt_self (by omega) (by omega), fits_conv (by repeat' first | exact trivial | exact rfl | (rw [List.map_append]; first | done | rfl) | exact c_sub rfl (Sub.refl _) rfl | exact c_nil rfl rfl | exact c_thaw rfl rfl rfl | exact c_row rfl rfl rfl | exact c_row rfl rfl (by rw [List.map_append]; first | done | rfl) | exact c_ptr rfl rfl rfl rfl | exact Or.inl ⟨c_sub rfl (Sub.refl _) rfl, c_ptr rfl rfl rfl rfl⟩ | exact c_alt rfl rfl rfl rfl | exact c_ro rfl rfl | exact c_eo rfl rfl | exact c_sub rfl (Sub.altl _ _) rfl | refine ⟨_, _, rfl, ?_, ?_⟩ | apply And.intro) (by repeat' first | exact trivial | exact rfl | (rw [List.map_append]; first | done | rfl) | exact c_sub rfl (Sub.refl _) rfl | exact c_nil rfl rfl | exact c_thaw rfl rfl rfl | exact c_row rfl rfl rfl | exact c_row rfl rfl (by rw [List.map_append]; first | done | rfl) | exact c_ptr rfl rfl rfl rfl | exact Or.inl ⟨c_sub rfl (Sub.refl _) rfl, c_ptr rfl rfl rfl rfl⟩ | exact c_alt rfl rfl rfl rfl | exact c_ro rfl rfl | exact c_eo rfl rfl | exact c_sub rfl (Sub.altl _ _) rfl | refine ⟨_, _, rfl, ?_, ?_⟩ | apply And.intro)⟩
  · have hlt : m < k := by omega
    rw [digN_lt hlt] at ho
    simp only [List.tail_cons, List.append_nil] at ho
    subst ho
    repeat (first
      | refine awp_seq ?_
      | refine thenA_normal ?_
      | refine a_region ?_
      | refine awp_ret ?_
      | refine awp_exit ?_
      | refine thenA_ret ?_
      | refine r_done ?_
      | (refine r_id ?_; first
        | refine r_ev tab_ok rfl rfl rfl rfl (by first | exact trivial | exact ⟨by omega, by omega⟩ | omega | exact ⟨by omega, by omega, by omega, by omega⟩ | exact Nat.le_of_ble_eq_true rfl) rfl ?_)
      | refine ret1_row (by first | exact .inl rfl | exact .inr rfl) rfl rfl rfl ?_)
    exact Sub.refl _
/-- The same without a digit of nought. -/
def digL (k : Nat) (n : Nat) : List Nat := if h : 0 < n then ((n - 1) % k) :: digL k ((n - 1) / k) else []
termination_by n
decreasing_by have := Nat.div_le_self (n - 1) k; omega
theorem digL_pos {k n : Nat} (h : 0 < n) : digL k n = ((n - 1) % k) :: digL k ((n - 1) / k) := by rw [digL, dif_pos h]
theorem digL_zero (k : Nat) : digL k 0 = [] := by rw [digL, dif_neg (by omega)]
theorem digL_len (k n : Nat) : (digL k n).length ≤ n := by
  rw [digL]
  split
  · rename_i h
    have := digL_len k ((n - 1) / k)
    have := Nat.div_le_self (n - 1) k
    simp; omega
  · simp
termination_by n
decreasing_by have := Nat.div_le_self (n - 1) k; omega
theorem posL_ok (n k : Nat) (hk : 1 ≤ k) (hk2 : k ≤ 65536) (hn : n ≤ 2147483648) : PCalls Try.prog 20 [.val (.int .i64 n), .val (.int .i64 k), .val (.bool false)] (.sl 1 ((digL k n).map nD)) := by
  refine p_start Try.func20 Try.ntmps20 rfl rfl rfl fun S w => ?_
  repeat (first
    | refine awp_seq ?_
    | refine thenA_normal ?_
    | refine awp_block ?_
    | refine a_region ?_
    | refine awp_skip ?_
    | refine r_done ?_
    | (refine r_id ?_; first
      | refine r_ev tab_ok rfl rfl rfl rfl (by first | exact trivial | exact ⟨by omega, by omega⟩ | omega | exact ⟨by omega, by omega, by omega, by omega⟩ | exact Nat.le_of_ble_eq_true rfl) rfl ?_)
    | refine awp_cond_f rfl ?_)
  refine a_loop (σ := {x : Nat × List Nat // x.1 ≤ n ∧ x.2 ++ digL k x.1 = digL k n}) (fun x => [.row 0 3 1 (x.1.2.map nD)]) (fun x => [(0, .val (.int .i64 x.1.1)), (1, .val (.int .i64 k)), (6, .row 0 0)]) (fun x => x.1.1) ⟨(n, []), Nat.le_refl _, rfl⟩ (fits_conv (by repeat' first | exact trivial | exact rfl | (rw [List.map_append]; first | done | rfl) | exact c_sub rfl (Sub.refl _) rfl | exact c_nil rfl rfl | exact c_thaw rfl rfl rfl | exact c_row rfl rfl rfl | exact c_row rfl rfl (by rw [List.map_append]; first | done | rfl) | exact c_ptr rfl rfl rfl rfl | exact Or.inl ⟨c_sub rfl (Sub.refl _) rfl, c_ptr rfl rfl rfl rfl⟩ | exact c_alt rfl rfl rfl rfl | exact c_ro rfl rfl | exact c_eo rfl rfl | exact c_sub rfl (Sub.altl _ _) rfl | refine ⟨_, _, rfl, ?_, ?_⟩ | apply And.intro) (by repeat' first | exact trivial | exact rfl | (rw [List.map_append]; first | done | rfl) | exact c_sub rfl (Sub.refl _) rfl | exact c_nil rfl rfl | exact c_thaw rfl rfl rfl | exact c_row rfl rfl rfl | exact c_row rfl rfl (by rw [List.map_append]; first | done | rfl) | exact c_ptr rfl rfl rfl rfl | exact Or.inl ⟨c_sub rfl (Sub.refl _) rfl, c_ptr rfl rfl rfl rfl⟩ | exact c_alt rfl rfl rfl rfl | exact c_ro rfl rfl | exact c_eo rfl rfl | exact c_sub rfl (Sub.altl _ _) rfl | refine ⟨_, _, rfl, ?_, ?_⟩ | apply And.intro)) ?_
  rintro ⟨⟨m, out⟩, hm, ho⟩
  have hlen : out.length ≤ 2147483649 := by
    have h1 := digL_len k n
    have h2 := congrArg List.length ho
    rw [List.length_append] at h2
    dsimp only at h2 hm
    omega
  dsimp only at hm ho ⊢
  repeat (first
    | refine awp_seq ?_
    | refine thenA_normal ?_
    | refine a_region ?_
    | refine r_done ?_
    | (refine r_id ?_; first
      | refine r_ev tab_ok rfl rfl rfl rfl (by first | exact trivial | exact ⟨by omega, by omega⟩ | omega | exact ⟨by omega, by omega, by omega, by omega⟩ | exact Nat.le_of_ble_eq_true rfl) rfl ?_))
  refine awp_cond_p rfl (fun hge => ?_) (fun hlt => ?_)
  · obtain ⟨q, rfl⟩ : ∃ q, m = q + 1 := ⟨m - 1, by omega⟩
    have q1 : 0 ≤ (q : Int) / (k : Int) := Int.ediv_nonneg (by omega) (by omega)
    have q2 : (q : Int) / (k : Int) ≤ q := Int.ediv_le_self _ (by omega)
    have e : (((q + 1 : Nat) : Int) - 1) = (q : Int) := by omega
    repeat (first
      | refine awp_seq ?_
      | refine awp_block ?_
      | refine a_region ?_
      | refine awp_skip ?_
      | refine r_done ?_
      | (refine r_id ?_; first
        | refine r_ev tab_ok rfl rfl rfl rfl (by first | exact trivial | exact ⟨by omega, by omega⟩ | omega | exact ⟨by omega, by omega, by omega, by omega⟩ | exact Nat.le_of_ble_eq_true rfl) rfl ?_
        | refine r_built tab_ok rfl rfl rfl rfl rfl rfl rfl rfl rfl ?_
        | refine r_append tab_ok rfl rfl rfl rfl rfl rfl rfl rfl rfl (by first | omega | (simp; omega)) rfl ?_))
    rw [e]
    repeat (first
      | refine thenA_normal ?_
      | refine r_done ?_
      | (refine r_id ?_; first
        | refine r_ev tab_ok rfl rfl rfl rfl (by first | exact trivial | exact ⟨by omega, by omega⟩ | omega | exact ⟨by omega, by omega, by omega, by omega⟩ | exact Nat.le_of_ble_eq_true rfl) rfl ?_))
    have hd := Nat.div_le_self q k
    exact ⟨⟨(q / k, out ++ [q % k]), Nat.le_trans hd (by omega), by
      rw [← ho, digL_pos (k := k) (n := q + 1) (by omega), List.append_assoc]; rfl⟩, Nat.lt_of_le_of_lt hd (Nat.lt_succ_self q), fits_conv (by repeat' first | exact trivial | exact rfl | (rw [List.map_append]; first | done | rfl) | exact c_sub rfl (Sub.refl _) rfl | exact c_nil rfl rfl | exact c_thaw rfl rfl rfl | exact c_row rfl rfl rfl | exact c_row rfl rfl (by rw [List.map_append]; first | done | rfl) | exact c_ptr rfl rfl rfl rfl | exact Or.inl ⟨c_sub rfl (Sub.refl _) rfl, c_ptr rfl rfl rfl rfl⟩ | exact c_alt rfl rfl rfl rfl | exact c_ro rfl rfl | exact c_eo rfl rfl | exact c_sub rfl (Sub.altl _ _) rfl | refine ⟨_, _, rfl, ?_, ?_⟩ | apply And.intro) (by repeat' first | exact trivial | exact rfl | (rw [List.map_append]; first | done | rfl) | exact c_sub rfl (Sub.refl _) rfl | exact c_nil rfl rfl | exact c_thaw rfl rfl rfl | exact c_row rfl rfl rfl | exact c_row rfl rfl (by rw [List.map_append]; first | done | rfl) | exact c_ptr rfl rfl rfl rfl | exact Or.inl ⟨c_sub rfl (Sub.refl _) rfl, c_ptr rfl rfl rfl rfl⟩ | exact c_alt rfl rfl rfl rfl | exact c_ro rfl rfl | exact c_eo rfl rfl | exact c_sub rfl (Sub.altl _ _) rfl | refine ⟨_, _, rfl, ?_, ?_⟩ | apply And.intro)⟩
  · have hlt : m = 0 := by omega
    subst hlt
    rw [digL_zero, List.append_nil] at ho
    subst ho
    repeat (first
      | refine awp_seq ?_
      | refine thenA_normal ?_
      | refine a_region ?_
      | refine awp_ret ?_
      | refine awp_exit ?_
      | refine r_done ?_
      | (refine r_id ?_; first
        | refine r_ev tab_ok rfl rfl rfl rfl (by first | exact trivial | exact ⟨by omega, by omega⟩ | omega | exact ⟨by omega, by omega, by omega, by omega⟩ | exact Nat.le_of_ble_eq_true rfl) rfl ?_)
      | refine ret1_row (by first | exact .inl rfl | exact .inr rfl) rfl rfl rfl ?_)
    exact Sub.refl _
end Go.Proofs.Ytgkcliecgmhmfaa
