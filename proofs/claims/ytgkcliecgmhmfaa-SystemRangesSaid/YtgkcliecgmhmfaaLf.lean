/- law9: SystemRanges. Numbers of law9's seat. -/
import Derived.Test.YtgkcliecgmhmfaaLe
namespace Go.Proofs.Ytgkcliecgmhmfaa
open Go Go.RowKit Go.Shelf

def sysL : List ByteArray := [cyclicS, numericS, fixedS, alphabeticS, symbolicS, additiveS, extendsS]
/-- The first pairs of a list. -/
def prs (l : List Int) (t : Nat) : List (Int × Int) := (List.range t).map fun i => (l.getD (2 * i) 0, l.getD (2 * i + 1) 0)
theorem prs_succ (l : List Int) (t : Nat) : prs l (t + 1) = prs l t ++ [(l.getD (2 * t) 0, l.getD (2 * t + 1) 0)] := by
  rw [prs, List.range_succ, List.map_append]; rfl
theorem prs_len (l : List Int) (t : Nat) : (prs l t).length = t := by simp [prs]
def inR (n : Int) (r : Int × Int) : Bool := decide (r.1 ≤ n) && decide (n ≤ r.2)
def rgS (s : ByteArray) (auto : Bool) (rg : List (Int × Int)) : Df := { mk s [] with auto := auto, rng := rg }
theorem ranges_in0 {i : Nat} (n : Int) (l : List Int) (t : Nat) (hi0 : 0 ≤ (i : Int)) (hi1 : (i : Int) < 7) (hi : i < sysL.length) : inF (rgS sysL[i] false (prs l t)) n = (prs l t).any (inR n) := by
  rw [inF, if_pos (show (rgS sysL[i] false (prs l t)).auto = false from rfl)]
  rfl
theorem ranges_in1 {i : Nat} (n : Int) (l : List Int) (t : Nat) (hi0 : 0 ≤ (i : Int)) (hi1 : (i : Int) < 7) (hi : i < sysL.length) : inF (rgS sysL[i] true (prs l t)) n = (decide ((i : Int) < 3) || decide ((i : Int) < 5) && decide (0 < n) || decide ((i : Int) = 5) && decide (0 ≤ n)) := by
  match i, hi with
  | 0, _ => rfl
  | 1, _ => rfl
  | 2, _ => rfl
  | 3, _ => exact (show _ = (false || true && decide (0 < n) || false && decide (0 ≤ n)) by simp; rfl)
  | 4, _ => exact (show _ = (false || true && decide (0 < n) || false && decide (0 ≤ n)) by simp; rfl)
  | 5, _ => exact (show _ = (false || false && decide (0 < n) || true && decide (0 ≤ n)) by simp; rfl)
  | 6, _ => exact (show _ = (false || false && decide (0 < n) || false && decide (0 ≤ n)) by simp; rfl)
  | i + 7, h => exact absurd hi1 (by omega)
theorem ranges_us {i : Nat} (n : Int) (l : List Int) (t : Nat) (auto : Bool) (hi0 : 0 ≤ (i : Int)) (hi1 : (i : Int) < 7) (hi : i < sysL.length) : usesF (rgS sysL[i] auto (prs l t)) n = (decide (n < 0) && (decide ((i : Int) = 1) || decide (3 ≤ (i : Int)) && decide ((i : Int) ≤ 5))) := by
  match i, hi with
  | 0, _ => exact (show _ = (decide (n < 0) && false) by simp; rfl)
  | 1, _ => exact (show _ = (decide (n < 0) && true) by simp; rfl)
  | 2, _ => exact (show _ = (decide (n < 0) && false) by simp; rfl)
  | 3, _ => exact (show _ = (decide (n < 0) && true) by simp; rfl)
  | 4, _ => exact (show _ = (decide (n < 0) && true) by simp; rfl)
  | 5, _ => exact (show _ = (decide (n < 0) && true) by simp; rfl)
  | 6, _ => exact (show _ = (decide (n < 0) && false) by simp; rfl)
  | i + 7, h => exact absurd hi1 (by omega)
set_option maxHeartbeats 8000000 in
theorem ranges_ok (k n : Int) (l : List Int) (auto : Bool) (hl : l.length ≤ 9223372036854775807) : PCalls Try.prog 6 [.val (.int .i64 k), .val (.int .i64 n), .sl 1 (l.map iD), .val (.bool auto)] (.val (.bool true)) := by
  refine p_start Try.func6 Try.ntmps6 rfl rfl rfl fun S w => ?_
  repeat (first
    | refine awp_seq ?_
    | refine thenA_normal ?_
    | refine a_region ?_
    | refine r_done ?_
    | (refine r_id ?_; first
      | refine r_len tab_ok rfl rfl rfl rfl rfl rfl rfl ?_
      | refine r_ev tab_ok rfl rfl rfl rfl (by first | exact trivial | exact ⟨by omega, by omega⟩ | omega | exact ⟨by omega, by omega, by omega, by omega⟩ | exact Nat.le_of_ble_eq_true rfl) rfl ?_))
  refine awp_cond_p rfl (fun h => ?_) (fun h => ?_)
  · repeat (first
      | refine awp_seq ?_
      | refine a_region ?_)
    refine r_call awake_ok call9 rfl rfl trivial rfl rfl rfl rfl ?_
    repeat (first
      | refine thenA_normal ?_
      | refine awp_ret ?_
      | refine thenA_ret ?_
      | refine r_done ?_
      | (refine r_id ?_; first
        | refine r_ev tab_ok rfl rfl rfl rfl (by first | exact trivial | exact ⟨by omega, by omega⟩ | omega | exact ⟨by omega, by omega, by omega, by omega⟩ | exact Nat.le_of_ble_eq_true rfl) rfl ?_)
      | refine ret1 (by first | exact .inl rfl | exact .inr rfl) rfl rfl rfl ?_)
    exact Sub.refl _
  repeat (first
    | refine awp_seq ?_
    | refine a_region ?_
    | refine awp_skip ?_
    | refine r_done ?_
    | (refine r_id ?_; first
      | refine r_ev tab_ok rfl rfl rfl rfl (by first | exact trivial | exact ⟨by omega, by omega⟩ | omega | exact ⟨by omega, by omega, by omega, by omega⟩ | exact Nat.le_of_ble_eq_true rfl) rfl ?_
      | refine r_built tab_ok rfl rfl rfl rfl rfl rfl rfl rfl rfl ?_))
  refine r_call (round_ok k 7 (by decide) (by decide)) call12 rfl rfl ⟨Sub.refl _, Sub.refl _, trivial⟩ rfl rfl rfl rfl ?_
  have hi0 := Int.emod_nonneg k (b := 7) (by decide)
  have hi1 := Int.emod_lt_of_pos k (b := 7) (by decide)
  generalize k % 7 = z at hi0 hi1 ⊢
  obtain ⟨i, rfl⟩ : ∃ i : Nat, z = i := ⟨z.toNat, by omega⟩
  have hi : i < sysL.length := by show i < 7; omega
  repeat (first
    | refine awp_seq ?_
    | refine a_region ?_
    | refine r_done ?_
    | (refine r_id ?_; first
      | refine r_ev tab_ok rfl rfl rfl rfl (by first | exact trivial | exact ⟨by omega, by omega⟩ | omega | exact ⟨by omega, by omega, by omega, by omega⟩ | exact Nat.le_of_ble_eq_true rfl) rfl ?_))
  refine r_idx tab_ok (f := sD) (l := sysL) rfl rfl rfl rfl rfl rfl rfl ⟨by omega, hi⟩ rfl rfl ?_
  repeat (first
    | (refine r_id ?_; first
      | refine r_ev tab_ok rfl rfl rfl rfl (by first | exact trivial | exact ⟨by omega, by omega⟩ | omega | exact ⟨by omega, by omega, by omega, by omega⟩ | exact Nat.le_of_ble_eq_true rfl) rfl ?_))
  refine r_call (made0_ok sysL[i]) call10 rfl rfl ⟨Sub.refl _, Sub.refl _, trivial⟩ rfl rfl rfl rfl ?_
  repeat (first
    | refine awp_seq ?_
    | refine thenA_normal ?_
    | refine awp_block ?_
    | refine a_region ?_
    | refine r_done ?_
    | (refine r_id ?_; first
      | refine r_ev tab_ok rfl rfl rfl rfl (by first | exact trivial | exact ⟨by omega, by omega⟩ | omega | exact ⟨by omega, by omega, by omega, by omega⟩ | exact Nat.le_of_ble_eq_true rfl) rfl ?_
      | refine r_wr tab_ok rfl rfl rfl rfl rfl ?_
      | refine r_st tab_ok rfl rfl rfl rfl ?_))
  refine a_loop (σ := {t : Nat // 2 * t ≤ l.length + 1}) (fun x => [.box 28 (dfG sysL[i] 1 nilA nilA (.row 1 0) auto), .row 0 38 2 ((prs l x.1).map rgD)])
    (fun x => [(1, .val (.int .i64 n)), (2, .sl 1 (l.map iD)), (3, .val (.bool auto)), (10, .val (.int .i64 i)), (11, .ptr 0 0), (12, .val (.bool ((prs l x.1).any (inR n)))), (13, .val (.int .i64 ((2 * x.1 : Nat) : Int)))]) (fun x => l.length + 1 - x.1) ⟨0, by omega⟩ (fits_conv (by repeat' first | exact trivial | exact rfl | (rw [List.map_append]; first | done | rfl) | exact c_sub rfl (Sub.refl _) rfl | exact c_nil rfl rfl | exact c_thaw rfl rfl rfl | exact c_row rfl rfl rfl | exact c_row rfl rfl (by rw [List.map_append]; first | done | rfl) | exact c_ptr rfl rfl rfl rfl | exact Or.inl ⟨c_sub rfl (Sub.refl _) rfl, c_ptr rfl rfl rfl rfl⟩ | exact c_alt rfl rfl rfl rfl | exact c_ro rfl rfl | exact c_eo rfl rfl | exact c_sub rfl (Sub.altl _ _) rfl | exact c_sub rfl (Sub.nil _) rfl | refine ⟨_, _, rfl, ?_, ?_⟩ | apply And.intro) (by repeat' first | exact trivial | exact rfl | (rw [List.map_append]; first | done | rfl) | exact c_sub rfl (Sub.refl _) rfl | exact c_nil rfl rfl | exact c_thaw rfl rfl rfl | exact c_row rfl rfl rfl | exact c_row rfl rfl (by rw [List.map_append]; first | done | rfl) | exact c_ptr rfl rfl rfl rfl | exact Or.inl ⟨c_sub rfl (Sub.refl _) rfl, c_ptr rfl rfl rfl rfl⟩ | exact c_alt rfl rfl rfl rfl | exact c_ro rfl rfl | exact c_eo rfl rfl | exact c_sub rfl (Sub.altl _ _) rfl | exact c_sub rfl (Sub.nil _) rfl | refine ⟨_, _, rfl, ?_, ?_⟩ | apply And.intro)) ?_
  rintro ⟨t, ht⟩
  dsimp only
  have hlen := prs_len l t
  repeat (first
    | refine awp_seq ?_
    | refine thenA_normal ?_
    | refine a_region ?_
    | refine r_done ?_
    | (refine r_id ?_; first
      | refine r_len tab_ok rfl rfl rfl rfl rfl rfl rfl ?_
      | refine r_ev tab_ok rfl rfl rfl rfl (by first | exact trivial | exact ⟨by omega, by omega⟩ | omega | exact ⟨by omega, by omega, by omega, by omega⟩ | exact Nat.le_of_ble_eq_true rfl) rfl ?_))
  refine awp_cond_p rfl (fun hlt => ?_) (fun hge => ?_)
  · have hE : (prs l t).map rgD ++ [D.ag [.val (.int .i64 (l[((2 * t : Nat) : Int).toNat]'(by omega))), .val (.int .i64 (l[(((2 * t : Nat) : Int) + 1).toNat]'(by omega)))]] = (prs l (t + 1)).map rgD := by
      rw [prs_succ, List.map_append]
      simp only [List.map_cons, List.map_nil, rgD]
      rw [List.getD_eq_getElem?_getD, List.getD_eq_getElem?_getD, List.getElem?_eq_getElem (by omega), List.getElem?_eq_getElem (by omega)]
      rfl
    have hB : ((prs l t).any (inR n) || (decide ((l[((2 * t : Nat) : Int).toNat]'(by omega)) ≤ n) && decide (n ≤ (l[(((2 * t : Nat) : Int) + 1).toNat]'(by omega))))) = (prs l (t + 1)).any (inR n) := by
      rw [prs_succ, List.any_append]
      simp only [List.any_cons, List.any_nil, Bool.or_false, inR]
      rw [List.getD_eq_getElem?_getD, List.getD_eq_getElem?_getD, List.getElem?_eq_getElem (by omega), List.getElem?_eq_getElem (by omega)]
      rfl
    repeat (first
      | refine awp_seq ?_
      | refine awp_block ?_
      | refine awp_skip ?_)
    refine a_draw mixed_ok [0, 1, 0, 0, 0, 1, 0, 0, 0, 0, 1, 1, 1, 2, 0, 2] (by kernel_rfl) ?_
    repeat (first
      | refine thenA_normal ?_
      | refine a_region ?_
      | refine r_done ?_
      | refine r_done' ?_
      | (refine r_id ?_; first
        | refine r_ev tab_ok rfl rfl rfl rfl (by first | exact trivial | exact ⟨by omega, by omega⟩ | omega | exact ⟨by omega, by omega, by omega, by omega⟩ | exact Nat.le_of_ble_eq_true rfl) rfl ?_
        | refine r_ld tab_ok rfl rfl rfl rfl rfl ?_
        | refine r_idx tab_ok rfl rfl rfl rfl rfl rfl rfl (by first | exact ⟨by omega, by omega⟩ | (simp; omega)) rfl rfl ?_
        | refine r_st tab_ok rfl rfl rfl rfl ?_
        | refine r_ev_cnd tab_ok rfl rfl rfl rfl rfl rfl (by first | exact fun _ => rfl | exact cs1 | exact cs2 | exact cs3) (by first | exact fun _ => trivial | (intro h; simp at h; first | exact ⟨by omega, by omega⟩ | omega)) rfl ?_
        | refine r_idx_cnd tab_ok rfl rfl rfl rfl rfl rfl rfl (by first | exact fun _ => rfl | exact cs1 | exact cs2) rfl rfl (by exact ⟨by omega, by omega⟩) rfl rfl ?_
        | refine r_and_cnd rfl rfl rfl rfl rfl rfl rfl rfl rfl rfl ?_
        | refine r_or rfl rfl rfl rfl rfl rfl rfl rfl ?_
        | refine r_build tab_ok rfl rfl rfl rfl rfl rfl ?_
        | refine r_built tab_ok rfl rfl rfl rfl rfl rfl rfl rfl rfl ?_
        | refine r_append tab_ok rfl rfl rfl rfl rfl rfl rfl rfl rfl (by first | omega | (simp; omega)) rfl ?_))
    exact ⟨⟨t + 1, by omega⟩, by dsimp only; omega, fits_conv (by repeat' first | exact trivial | exact rfl | (rw [hE]; first | done | rfl) | exact c_sub rfl (Sub.refl _) rfl | exact c_nil rfl rfl | exact c_thaw rfl rfl rfl | exact c_row rfl rfl rfl | exact c_row rfl rfl (by rw [hE]; first | done | rfl) | exact c_ptr rfl rfl rfl rfl | exact Or.inl ⟨c_sub rfl (Sub.refl _) rfl, c_ptr rfl rfl rfl rfl⟩ | exact c_alt rfl rfl rfl rfl | exact c_sub rfl (Sub.altl _ _) rfl | exact c_sub rfl (Sub.nil _) rfl | refine ⟨_, _, rfl, ?_, ?_⟩ | apply And.intro) ⟨c_sub rfl (Sub.refl _) rfl, c_sub rfl (Sub.refl _) rfl, c_sub rfl (Sub.refl _) rfl, c_sub rfl (Sub.refl _) rfl, c_ptr rfl rfl rfl rfl, c_sub rfl (Sub.of_eq (congrArg (fun b => AV.val (.bool b)) hB)) rfl, c_sub rfl (Sub.of_eq (congrArg (fun z => AV.val (.int .i64 z)) (show ((2 * t : Nat) : Int) + 2 = ((2 * (t + 1) : Nat) : Int) by omega))) rfl, trivial⟩⟩
  · repeat (first
      | refine awp_seq ?_
      | refine awp_exit ?_)
    refine a_region ?_
    repeat (first
      | refine thenA_normal ?_
      | refine r_done ?_
      | (refine r_id ?_; first
        | refine r_ev tab_ok rfl rfl rfl rfl (by first | exact trivial | exact ⟨by omega, by omega⟩ | omega | exact ⟨by omega, by omega, by omega, by omega⟩ | exact Nat.le_of_ble_eq_true rfl) rfl ?_))
    cases auto
    · repeat (first
        | refine awp_seq ?_
        | refine awp_skip ?_
        | refine awp_cond_f rfl ?_)
      refine awp_fits (fits_conv (M' := [.box 28 (dfC (rgS sysL[i] false (prs l t))), .gone]) (F' := [(1, .val (.int .i64 n)), (10, .val (.int .i64 i)), (11, .ptr 0 0), (12, .val (.bool ((prs l t).any (inR n))))]) (by repeat' first | exact trivial | exact rfl | (rw [List.map_append]; first | done | rfl) | exact c_sub rfl (Sub.refl _) rfl | exact c_nil rfl rfl | exact c_thaw rfl rfl rfl | exact c_row rfl rfl rfl | exact c_row rfl rfl (by rw [List.map_append]; first | done | rfl) | exact c_ptr rfl rfl rfl rfl | exact Or.inl ⟨c_sub rfl (Sub.refl _) rfl, c_ptr rfl rfl rfl rfl⟩ | exact c_alt rfl rfl rfl rfl | exact c_ro rfl rfl | exact c_eo rfl rfl | exact c_sub rfl (Sub.altl _ _) rfl | exact c_sub rfl (Sub.nil _) rfl | refine ⟨_, _, rfl, ?_, ?_⟩ | apply And.intro) (by repeat' first | exact trivial | exact rfl | (rw [List.map_append]; first | done | rfl) | exact c_sub rfl (Sub.refl _) rfl | exact c_nil rfl rfl | exact c_thaw rfl rfl rfl | exact c_row rfl rfl rfl | exact c_row rfl rfl (by rw [List.map_append]; first | done | rfl) | exact c_ptr rfl rfl rfl rfl | exact Or.inl ⟨c_sub rfl (Sub.refl _) rfl, c_ptr rfl rfl rfl rfl⟩ | exact c_alt rfl rfl rfl rfl | exact c_ro rfl rfl | exact c_eo rfl rfl | exact c_sub rfl (Sub.altl _ _) rfl | exact c_sub rfl (Sub.nil _) rfl | refine ⟨_, _, rfl, ?_, ?_⟩ | apply And.intro)) ?_
      have hin : PCalls Try.prog 14 [dfA (rgS sysL[i] false (prs l t)), .val (.int .i64 n)] (.val (.bool ((prs l t).any (inR n)))) := ranges_in0 n l t hi0 hi1 hi ▸ in_ok (rgS sysL[i] false (prs l t)) n (by show (prs l t).length ≤ _; omega)
      have hus := uses_ok (rgS sysL[i] false (prs l t)) n
      rw [ranges_us n l t _ hi0 hi1 hi] at hus
      repeat (first
        | refine a_region ?_
        | (refine r_id ?_; first
          | refine r_ev tab_ok rfl rfl rfl rfl (by first | exact trivial | exact ⟨by omega, by omega⟩ | omega | exact ⟨by omega, by omega, by omega, by omega⟩ | exact Nat.le_of_ble_eq_true rfl) rfl ?_
          | refine r_ld tab_ok rfl rfl rfl rfl rfl ?_))
      refine r_call hin call14 rfl rfl ⟨Sub.agg (by repeat' first | exact trivial | exact Sub.refl _ | exact Sub.nil _ | refine Sub.agg ?_ | apply And.intro), Sub.refl _, trivial⟩ rfl rfl rfl rfl ?_
      repeat (first
        | (refine r_id ?_; first
          | refine r_ev tab_ok rfl rfl rfl rfl (by first | exact trivial | exact ⟨by omega, by omega⟩ | omega | exact ⟨by omega, by omega, by omega, by omega⟩ | exact Nat.le_of_ble_eq_true rfl) rfl ?_
          | refine r_ev_cnd tab_ok rfl rfl rfl rfl rfl rfl (by first | exact fun _ => rfl | exact cs1 | exact cs2 | exact cs3) (by first | exact fun _ => trivial | (intro h; simp at h; first | exact ⟨by omega, by omega⟩ | omega)) rfl ?_
          | refine r_ld_cnd tab_ok rfl rfl rfl rfl rfl rfl (by first | exact fun _ => rfl | exact cs1 | exact cs2 | exact cs3) rfl ?_))
      refine r_call_cnd (fun _ => hus) call15 rfl rfl rfl rfl (by first | exact fun _ => rfl | exact cs1 | exact cs2 | exact cs3) ⟨Sub.agg (by repeat' first | exact trivial | exact Sub.refl _ | exact Sub.nil _ | refine Sub.agg ?_ | apply And.intro), Sub.refl _, trivial⟩ rfl rfl rfl rfl ?_
      repeat (first
        | (refine r_id ?_; first
          | refine r_ev tab_ok rfl rfl rfl rfl (by first | exact trivial | exact ⟨by omega, by omega⟩ | omega | exact ⟨by omega, by omega, by omega, by omega⟩ | exact Nat.le_of_ble_eq_true rfl) rfl ?_
          | refine r_ev_cnd tab_ok rfl rfl rfl rfl rfl rfl (by first | exact fun _ => rfl | exact cs1 | exact cs2 | exact cs3) (by first | exact fun _ => trivial | (intro h; simp at h; first | exact ⟨by omega, by omega⟩ | omega)) rfl ?_
          | refine r_and_cnd rfl rfl rfl rfl rfl rfl rfl rfl rfl rfl ?_
          | refine r_or_cnd rfl rfl rfl rfl rfl rfl rfl rfl rfl rfl ?_
          | refine r_and rfl rfl rfl rfl rfl rfl rfl rfl ?_))
      refine r_call_cnd (fun _ => awake_ok) call9 rfl rfl rfl rfl (by first | exact fun _ => rfl | exact cs1 | exact cs2 | exact cs3) trivial rfl rfl rfl rfl ?_
      repeat (first
        | refine thenA_normal ?_
        | refine awp_ret ?_
        | refine r_done ?_
        | (refine r_id ?_; first
          | refine r_ev tab_ok rfl rfl rfl rfl (by first | exact trivial | exact ⟨by omega, by omega⟩ | omega | exact ⟨by omega, by omega, by omega, by omega⟩ | exact Nat.le_of_ble_eq_true rfl) rfl ?_
          | refine r_and rfl rfl rfl rfl rfl rfl rfl rfl ?_)
        | refine ret1 (by first | exact .inl rfl | exact .inr rfl) rfl rfl rfl ?_)
      exact Sub.of_eq (by simp)
    · repeat (first
        | refine awp_cond_t rfl ?_)
      refine a_region ?_
      repeat (first
        | refine awp_seq ?_
        | refine r_done ?_
        | (refine r_id ?_; first
          | refine r_ev tab_ok rfl rfl rfl rfl (by first | exact trivial | exact ⟨by omega, by omega⟩ | omega | exact ⟨by omega, by omega, by omega, by omega⟩ | exact Nat.le_of_ble_eq_true rfl) rfl ?_
          | refine r_ev_cnd tab_ok rfl rfl rfl rfl rfl rfl (by first | exact fun _ => rfl | exact cs1 | exact cs2 | exact cs3) (by first | exact fun _ => trivial | (intro h; simp at h; first | exact ⟨by omega, by omega⟩ | omega)) rfl ?_
          | refine r_and_cnd rfl rfl rfl rfl rfl rfl rfl rfl rfl rfl ?_
          | refine r_or rfl rfl rfl rfl rfl rfl rfl rfl ?_))
      refine awp_fits (fits_conv (M' := [.box 28 (dfC (rgS sysL[i] true (prs l t))), .gone]) (F' := [(1, .val (.int .i64 n)), (10, .val (.int .i64 i)), (11, .ptr 0 0), (12, .val (.bool (decide ((i : Int) < 3) || decide ((i : Int) < 5) && decide (0 < n) || decide ((i : Int) = 5) && decide (0 ≤ n))))]) (by repeat' first | exact trivial | exact rfl | (rw [List.map_append]; first | done | rfl) | exact c_sub rfl (Sub.refl _) rfl | exact c_nil rfl rfl | exact c_thaw rfl rfl rfl | exact c_row rfl rfl rfl | exact c_row rfl rfl (by rw [List.map_append]; first | done | rfl) | exact c_ptr rfl rfl rfl rfl | exact Or.inl ⟨c_sub rfl (Sub.refl _) rfl, c_ptr rfl rfl rfl rfl⟩ | exact c_alt rfl rfl rfl rfl | exact c_ro rfl rfl | exact c_eo rfl rfl | exact c_sub rfl (Sub.altl _ _) rfl | exact c_sub rfl (Sub.nil _) rfl | refine ⟨_, _, rfl, ?_, ?_⟩ | apply And.intro) (by repeat' first | exact trivial | exact rfl | (rw [List.map_append]; first | done | rfl) | exact c_sub rfl (Sub.refl _) rfl | exact c_nil rfl rfl | exact c_thaw rfl rfl rfl | exact c_row rfl rfl rfl | exact c_row rfl rfl (by rw [List.map_append]; first | done | rfl) | exact c_ptr rfl rfl rfl rfl | exact Or.inl ⟨c_sub rfl (Sub.refl _) rfl, c_ptr rfl rfl rfl rfl⟩ | exact c_alt rfl rfl rfl rfl | exact c_ro rfl rfl | exact c_eo rfl rfl | exact c_sub rfl (Sub.altl _ _) rfl | exact c_sub rfl (Sub.nil _) rfl | refine ⟨_, _, rfl, ?_, ?_⟩ | apply And.intro)) ?_
      have hin : PCalls Try.prog 14 [dfA (rgS sysL[i] true (prs l t)), .val (.int .i64 n)] (.val (.bool (decide ((i : Int) < 3) || decide ((i : Int) < 5) && decide (0 < n) || decide ((i : Int) = 5) && decide (0 ≤ n)))) := ranges_in1 n l t hi0 hi1 hi ▸ in_ok (rgS sysL[i] true (prs l t)) n (by show (prs l t).length ≤ _; omega)
      have hus := uses_ok (rgS sysL[i] true (prs l t)) n
      rw [ranges_us n l t _ hi0 hi1 hi] at hus
      repeat (first
        | refine a_region ?_
        | (refine r_id ?_; first
          | refine r_ev tab_ok rfl rfl rfl rfl (by first | exact trivial | exact ⟨by omega, by omega⟩ | omega | exact ⟨by omega, by omega, by omega, by omega⟩ | exact Nat.le_of_ble_eq_true rfl) rfl ?_
          | refine r_ld tab_ok rfl rfl rfl rfl rfl ?_))
      refine r_call hin call14 rfl rfl ⟨Sub.agg (by repeat' first | exact trivial | exact Sub.refl _ | exact Sub.nil _ | refine Sub.agg ?_ | apply And.intro), Sub.refl _, trivial⟩ rfl rfl rfl rfl ?_
      repeat (first
        | (refine r_id ?_; first
          | refine r_ev tab_ok rfl rfl rfl rfl (by first | exact trivial | exact ⟨by omega, by omega⟩ | omega | exact ⟨by omega, by omega, by omega, by omega⟩ | exact Nat.le_of_ble_eq_true rfl) rfl ?_
          | refine r_ev_cnd tab_ok rfl rfl rfl rfl rfl rfl (by first | exact fun _ => rfl | exact cs1 | exact cs2 | exact cs3) (by first | exact fun _ => trivial | (intro h; simp at h; first | exact ⟨by omega, by omega⟩ | omega)) rfl ?_
          | refine r_ld_cnd tab_ok rfl rfl rfl rfl rfl rfl (by first | exact fun _ => rfl | exact cs1 | exact cs2 | exact cs3) rfl ?_))
      refine r_call_cnd (fun _ => hus) call15 rfl rfl rfl rfl (by first | exact fun _ => rfl | exact cs1 | exact cs2 | exact cs3) ⟨Sub.agg (by repeat' first | exact trivial | exact Sub.refl _ | exact Sub.nil _ | refine Sub.agg ?_ | apply And.intro), Sub.refl _, trivial⟩ rfl rfl rfl rfl ?_
      repeat (first
        | (refine r_id ?_; first
          | refine r_ev tab_ok rfl rfl rfl rfl (by first | exact trivial | exact ⟨by omega, by omega⟩ | omega | exact ⟨by omega, by omega, by omega, by omega⟩ | exact Nat.le_of_ble_eq_true rfl) rfl ?_
          | refine r_ev_cnd tab_ok rfl rfl rfl rfl rfl rfl (by first | exact fun _ => rfl | exact cs1 | exact cs2 | exact cs3) (by first | exact fun _ => trivial | (intro h; simp at h; first | exact ⟨by omega, by omega⟩ | omega)) rfl ?_
          | refine r_and_cnd rfl rfl rfl rfl rfl rfl rfl rfl rfl rfl ?_
          | refine r_or_cnd rfl rfl rfl rfl rfl rfl rfl rfl rfl rfl ?_
          | refine r_and rfl rfl rfl rfl rfl rfl rfl rfl ?_))
      refine r_call_cnd (fun _ => awake_ok) call9 rfl rfl rfl rfl (by first | exact fun _ => rfl | exact cs1 | exact cs2 | exact cs3) trivial rfl rfl rfl rfl ?_
      repeat (first
        | refine thenA_normal ?_
        | refine awp_ret ?_
        | refine r_done ?_
        | (refine r_id ?_; first
          | refine r_ev tab_ok rfl rfl rfl rfl (by first | exact trivial | exact ⟨by omega, by omega⟩ | omega | exact ⟨by omega, by omega, by omega, by omega⟩ | exact Nat.le_of_ble_eq_true rfl) rfl ?_
          | refine r_and rfl rfl rfl rfl rfl rfl rfl rfl ?_)
        | refine ret1 (by first | exact .inl rfl | exact .inr rfl) rfl rfl rfl ?_)
      exact Sub.of_eq (by simp)
end Go.Proofs.Ytgkcliecgmhmfaa
