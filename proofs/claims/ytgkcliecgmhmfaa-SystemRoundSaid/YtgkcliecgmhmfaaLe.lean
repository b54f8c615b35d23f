/- law9: SystemSizes. Numbers of law9's seat. -/
import Derived.Test.YtgkcliecgmhmfaaLd
namespace Go.Proofs.Ytgkcliecgmhmfaa
open Go Go.RowKit Go.Shelf

/-- A style's cells; its symbols, weights and ranges may be anyhow. -/
def dfG (s : ByteArray) (first : Int) (sy ws rg : AV) (au : Bool) : List AV := [.val (.string ⟨#[]⟩), .val (.string s), .val (.int .i64 first), sy, ws, .val (.string ⟨#[]⟩), .val (.string ⟨#[]⟩), .val (.string ⟨#[]⟩), .val (.string ⟨#[]⟩), .val (.bool au), rg, .val (.int .i64 0), .val (.string ⟨#[]⟩), .val (.string ⟨#[]⟩), .val (.string ⟨#[]⟩), .val (.int .i64 0)]
def nilA : AV := .val (.slice none 0 0)
theorem made0_ok (s : ByteArray) : PCalls Try.prog 10 [.val (.string s), nilA] (.agg (dfG s 1 nilA nilA nilA true)) := by
  refine p_start Try.func10 Try.ntmps10 rfl rfl rfl fun S w => ?_
  repeat (first
    | refine awp_seq ?_
    | refine thenA_normal ?_
    | refine a_region ?_
    | refine awp_ret ?_
    | refine r_done ?_
    | (refine r_id ?_; first
      | refine r_ev tab_ok rfl rfl rfl rfl (by first | exact trivial | exact ⟨by omega, by omega⟩ | omega | exact ⟨by omega, by omega, by omega, by omega⟩ | exact Nat.le_of_ble_eq_true rfl) rfl ?_
      | refine r_wr tab_ok rfl rfl rfl rfl rfl ?_
      | refine r_st tab_ok rfl rfl rfl rfl ?_
      | refine r_build tab_ok rfl rfl rfl rfl rfl rfl ?_))
  exact ret1c tab_ok (by first | exact .inl rfl | exact .inr rfl) rfl rfl rfl rfl rfl rfl (Sub.agg (by repeat' first | exact trivial | exact Sub.refl _ | exact Sub.nil _ | refine Sub.agg ?_ | apply And.intro))
def sS : ByteArray := ⟨#[115]⟩
def szS (k : Nat) : Df := mk symbolicS (List.replicate k sS)
def szA (k : Nat) : Df := { mk additiveS [⟨#[120]⟩, ⟨#[121]⟩] with ws := [1000 * (k : Int), (k : Int)] }
def allB (p : Nat → Bool) : Bool := (List.range 20).all fun i => p (i + 1)
theorem all_get {p : Nat → Bool} (h : allB p = true) {k : Nat} (h1 : 1 ≤ k) (h2 : k ≤ 20) : p k = true := by
  have := List.all_eq_true.1 h (k - 1) (List.mem_range.2 (by omega))
  rwa [show k - 1 + 1 = k by omega] at this
theorem szS0 : allB (fun k => (signsF (szS k) (60 * (k : Int))).2 && (signsF (szS k) (60 * (k : Int))).1.size == 60) = true := by kernel_rfl
theorem szS1 : allB (fun k => !(signsF (szS k) (60 * (k : Int) + 1)).2 && (signsF (szS k) (60 * (k : Int) + 1)).1.size == 0) = true := by kernel_rfl
theorem szA0 : allB (fun k => (signsF (szA k) (1000 * (k : Int) * (60 - k) + k * k)).2 && (signsF (szA k) (1000 * (k : Int) * (60 - k) + k * k)).1.size == 60) = true := by kernel_rfl
theorem szA1 : allB (fun k => !(signsF (szA k) (1000 * (k : Int) * (60 - k) + k * k + k)).2 && (signsF (szA k) (1000 * (k : Int) * (60 - k) + k * k + k)).1.size == 0) = true := by kernel_rfl
theorem map2t : PCalls Try.prog 17 [.val (.bool true)] (.val (.int .i64 1)) := map2_ok true
theorem map2f : PCalls Try.prog 17 [.val (.bool false)] (.val (.int .i64 0)) := map2_ok false
set_option maxHeartbeats 8000000 in
theorem sizes_ok (k : Int) (over additive : Bool) : PCalls Try.prog 8 [.val (.int .i64 k), .val (.bool over), .val (.bool additive)] (.val (.bool true)) := by
  refine p_start Try.func8 Try.ntmps8 rfl rfl rfl fun S w => ?_
  repeat (first
    | refine awp_seq ?_
    | refine thenA_normal ?_
    | refine a_region ?_
    | refine r_done ?_
    | (refine r_id ?_; first
      | refine r_ev tab_ok rfl rfl rfl rfl (by first | exact trivial | exact ⟨by omega, by omega⟩ | omega | exact ⟨by omega, by omega, by omega, by omega⟩ | exact Nat.le_of_ble_eq_true rfl) rfl ?_
      | refine r_ev_cnd tab_ok rfl rfl rfl rfl rfl rfl (by first | exact fun _ => rfl | exact cs1 | exact cs2 | exact cs3) (by first | exact fun _ => trivial | (intro h; simp at h; first | exact ⟨by omega, by omega⟩ | omega)) rfl ?_
      | refine r_or rfl rfl rfl rfl rfl rfl rfl rfl ?_))
  refine awp_cond rfl (fun h => ?_) (fun h => ?_)
  · repeat (first
      | refine awp_seq ?_
      | refine a_region ?_)
    refine r_call awake_ok call9 rfl rfl trivial rfl rfl rfl rfl ?_
    repeat (first
      | refine thenA_normal ?_
      | refine awp_ret ?_
      | refine thenA_ret ?_
      | refine r_done ?_
      | (refine r_id ?_; first
        | refine r_ev tab_ok rfl rfl rfl rfl (by first | exact trivial | exact ⟨by omega, by omega⟩ | omega | exact ⟨by omega, by omega, by omega, by omega⟩ | exact Nat.le_of_ble_eq_true rfl) rfl ?_)
      | refine ret1 (by first | exact .inl rfl | exact .inr rfl) rfl rfl rfl ?_)
    exact Sub.refl _
  simp only [Bool.or_eq_false_iff, decide_eq_false_iff_not] at h
  obtain ⟨m, rfl⟩ : ∃ m : Nat, k = m := ⟨k.toNat, by omega⟩
  have hm1 : 1 ≤ m := by omega
  have hm2 : m ≤ 20 := by omega
  repeat (first
    | refine awp_seq ?_
    | refine a_region ?_
    | refine awp_skip ?_)
  refine r_call (made0_ok symbolicS) call10 rfl rfl ⟨Sub.refl _, Sub.refl _, trivial⟩ rfl rfl rfl rfl ?_
  repeat (first
    | refine awp_seq ?_
    | refine thenA_normal ?_
    | refine awp_block ?_
    | refine a_region ?_
    | refine r_done ?_
    | (refine r_id ?_; first
      | refine r_ev tab_ok rfl rfl rfl rfl (by first | exact trivial | exact ⟨by omega, by omega⟩ | omega | exact ⟨by omega, by omega, by omega, by omega⟩ | exact Nat.le_of_ble_eq_true rfl) rfl ?_
      | refine r_wr tab_ok rfl rfl rfl rfl rfl ?_
      | refine r_st tab_ok rfl rfl rfl rfl ?_))
  refine a_loop (σ := {i : Nat // i ≤ m}) (fun x => [.box 28 (dfG symbolicS 1 (.row 1 0) nilA nilA true), .row 0 9 1 ((List.replicate x.1 sS).map sD)]) (fun x => [(0, .val (.int .i64 m)), (1, .val (.bool over)), (2, .val (.bool additive)), (7, .ptr 0 0), (8, .val (.int .i64 x.1))]) (fun x => m - x.1) ⟨0, Nat.zero_le _⟩ (fits_conv (by repeat' first | exact trivial | exact rfl | (rw [List.map_append]; first | done | rfl) | exact c_sub rfl (Sub.refl _) rfl | exact c_nil rfl rfl | exact c_thaw rfl rfl rfl | exact c_row rfl rfl rfl | exact c_row rfl rfl (by rw [List.map_append]; first | done | rfl) | exact c_ptr rfl rfl rfl rfl | exact Or.inl ⟨c_sub rfl (Sub.refl _) rfl, c_ptr rfl rfl rfl rfl⟩ | exact c_alt rfl rfl rfl rfl | exact c_ro rfl rfl | exact c_eo rfl rfl | exact c_sub rfl (Sub.altl _ _) rfl | exact c_sub rfl (Sub.nil _) rfl | refine ⟨_, _, rfl, ?_, ?_⟩ | apply And.intro) (by repeat' first | exact trivial | exact rfl | (rw [List.map_append]; first | done | rfl) | exact c_sub rfl (Sub.refl _) rfl | exact c_nil rfl rfl | exact c_thaw rfl rfl rfl | exact c_row rfl rfl rfl | exact c_row rfl rfl (by rw [List.map_append]; first | done | rfl) | exact c_ptr rfl rfl rfl rfl | exact Or.inl ⟨c_sub rfl (Sub.refl _) rfl, c_ptr rfl rfl rfl rfl⟩ | exact c_alt rfl rfl rfl rfl | exact c_ro rfl rfl | exact c_eo rfl rfl | exact c_sub rfl (Sub.altl _ _) rfl | exact c_sub rfl (Sub.nil _) rfl | refine ⟨_, _, rfl, ?_, ?_⟩ | apply And.intro)) ?_
  rintro ⟨i, hi⟩
  dsimp only
  have hlen : (List.replicate i sS).length = i := List.length_replicate
  repeat (first
    | refine awp_seq ?_
    | refine thenA_normal ?_
    | refine a_region ?_
    | refine r_done ?_
    | (refine r_id ?_; first
      | refine r_ev tab_ok rfl rfl rfl rfl (by first | exact trivial | exact ⟨by omega, by omega⟩ | omega | exact ⟨by omega, by omega, by omega, by omega⟩ | exact Nat.le_of_ble_eq_true rfl) rfl ?_))
  refine awp_cond_p rfl (fun hlt => ?_) (fun hge => ?_)
  · repeat (first
      | refine awp_seq ?_
      | refine thenA_normal ?_
      | refine awp_block ?_
      | refine a_region ?_
      | refine awp_skip ?_
      | refine r_done ?_
      | (refine r_id ?_; first
        | refine r_ev tab_ok rfl rfl rfl rfl (by first | exact trivial | exact ⟨by omega, by omega⟩ | omega | exact ⟨by omega, by omega, by omega, by omega⟩ | exact Nat.le_of_ble_eq_true rfl) rfl ?_
        | refine r_ld tab_ok rfl rfl rfl rfl rfl ?_
        | refine r_st tab_ok rfl rfl rfl rfl ?_
        | refine r_built tab_ok rfl rfl rfl rfl rfl rfl rfl rfl rfl ?_
        | refine r_append tab_ok rfl rfl rfl rfl rfl rfl rfl rfl rfl (by first | omega | (simp; omega)) rfl ?_))
    have hE : (List.replicate i sS).map sD ++ [D.val (.string ⟨#[115]⟩)] = (List.replicate (i + 1) sS).map sD := by
      rw [List.replicate_succ', List.map_append]
      rfl
    exact ⟨⟨i + 1, by omega⟩, by dsimp only; omega, fits_conv (by repeat' first | exact trivial | exact rfl | (rw [hE]; first | done | rfl) | exact c_sub rfl (Sub.refl _) rfl | exact c_nil rfl rfl | exact c_thaw rfl rfl rfl | exact c_row rfl rfl rfl | exact c_row rfl rfl (by rw [hE]; first | done | rfl) | exact c_ptr rfl rfl rfl rfl | exact Or.inl ⟨c_sub rfl (Sub.refl _) rfl, c_ptr rfl rfl rfl rfl⟩ | exact c_alt rfl rfl rfl rfl | exact c_sub rfl (Sub.altl _ _) rfl | exact c_sub rfl (Sub.nil _) rfl | refine ⟨_, _, rfl, ?_, ?_⟩ | apply And.intro) (by repeat' first | exact trivial | exact rfl | (rw [hE]; first | done | rfl) | exact c_sub rfl (Sub.refl _) rfl | exact c_nil rfl rfl | exact c_thaw rfl rfl rfl | exact c_row rfl rfl rfl | exact c_row rfl rfl (by rw [hE]; first | done | rfl) | exact c_ptr rfl rfl rfl rfl | exact Or.inl ⟨c_sub rfl (Sub.refl _) rfl, c_ptr rfl rfl rfl rfl⟩ | exact c_alt rfl rfl rfl rfl | exact c_sub rfl (Sub.altl _ _) rfl | exact c_sub rfl (Sub.nil _) rfl | refine ⟨_, _, rfl, ?_, ?_⟩ | apply And.intro)⟩
  · have him : i = m := by omega
    subst him
    repeat (first
      | refine awp_seq ?_
      | refine thenA_normal ?_
      | refine a_region ?_
      | refine awp_exit ?_
      | refine r_done ?_
      | (refine r_id ?_; first
        | refine r_ev tab_ok rfl rfl rfl rfl (by first | exact trivial | exact ⟨by omega, by omega⟩ | omega | exact ⟨by omega, by omega, by omega, by omega⟩ | exact Nat.le_of_ble_eq_true rfl) rfl ?_))
    cases additive
    · repeat (first
        | refine awp_seq ?_
        | refine thenA_normal ?_
        | refine a_region ?_
        | refine awp_skip ?_
        | refine r_done ?_
        | (refine r_id ?_; first
          | refine r_ev tab_ok rfl rfl rfl rfl (by first | exact trivial | exact ⟨by omega, by omega⟩ | omega | exact ⟨by omega, by omega, by omega, by omega⟩ | exact Nat.le_of_ble_eq_true rfl) rfl ?_)
        | refine awp_cond_f rfl ?_)
      cases over
      · have hr := all_get szS0 hm1 hm2
        simp only [Bool.and_eq_true, beq_iff_eq, Bool.not_eq_true'] at hr
        have hp := signs_ok (szS i) (60 * (i : Int)) (by show (-9223372036854775808 : Int) ≤ 1; decide) (by simp [szS, szA, mk]; try omega) (by simp [szS, szA, mk]) (by simp [szS, szA, mk])
        generalize signsF (szS i) (60 * (i : Int)) = r at hr hp
        obtain ⟨r1, r2⟩ := r
        obtain ⟨hr2, hr1⟩ := hr
        dsimp only at hr1 hr2
        subst hr2
        repeat (first
          | refine awp_seq ?_
          | refine awp_skip ?_
          | refine awp_cond_f rfl ?_)
        refine awp_fits (fits_conv (M' := [.box 28 (dfC (szS i)), .gone]) (F' := [(1, .val (.bool false)), (7, .ptr 0 0), (9, .val (.int .i64 (60 * (i : Int))))]) (by repeat' first | exact trivial | exact rfl | (rw [List.map_append]; first | done | rfl) | exact c_sub rfl (Sub.refl _) rfl | exact c_nil rfl rfl | exact c_thaw rfl rfl rfl | exact c_row rfl rfl rfl | exact c_row rfl rfl (by rw [List.map_append]; first | done | rfl) | exact c_ptr rfl rfl rfl rfl | exact Or.inl ⟨c_sub rfl (Sub.refl _) rfl, c_ptr rfl rfl rfl rfl⟩ | exact c_alt rfl rfl rfl rfl | exact c_ro rfl rfl | exact c_eo rfl rfl | exact c_sub rfl (Sub.altl _ _) rfl | exact c_sub rfl (Sub.nil _) rfl | refine ⟨_, _, rfl, ?_, ?_⟩ | apply And.intro) (by repeat' first | exact trivial | exact rfl | (rw [List.map_append]; first | done | rfl) | exact c_sub rfl (Sub.refl _) rfl | exact c_nil rfl rfl | exact c_thaw rfl rfl rfl | exact c_row rfl rfl rfl | exact c_row rfl rfl (by rw [List.map_append]; first | done | rfl) | exact c_ptr rfl rfl rfl rfl | exact Or.inl ⟨c_sub rfl (Sub.refl _) rfl, c_ptr rfl rfl rfl rfl⟩ | exact c_alt rfl rfl rfl rfl | exact c_ro rfl rfl | exact c_eo rfl rfl | exact c_sub rfl (Sub.altl _ _) rfl | exact c_sub rfl (Sub.nil _) rfl | refine ⟨_, _, rfl, ?_, ?_⟩ | apply And.intro)) ?_
        repeat (first
          | refine a_region ?_
          | (refine r_id ?_; first
            | refine r_ev tab_ok rfl rfl rfl rfl (by first | exact trivial | exact ⟨by omega, by omega⟩ | omega | exact ⟨by omega, by omega, by omega, by omega⟩ | exact Nat.le_of_ble_eq_true rfl) rfl ?_
            | refine r_ld tab_ok rfl rfl rfl rfl rfl ?_))
        refine r_call hp call11 rfl rfl ⟨Sub.agg (by repeat' first | exact trivial | exact Sub.refl _ | exact Sub.nil _ | refine Sub.agg ?_ | apply And.intro), Sub.refl _, trivial⟩ rfl rfl rfl rfl ?_
        repeat (first
          | refine awp_seq ?_
          | refine a_region ?_
          | refine r_done ?_
          | (refine r_id ?_; first
            | refine r_ev tab_ok rfl rfl rfl rfl (by first | exact trivial | exact ⟨by omega, by omega⟩ | omega | exact ⟨by omega, by omega, by omega, by omega⟩ | exact Nat.le_of_ble_eq_true rfl) rfl ?_
            | refine r_ev_cnd tab_ok rfl rfl rfl rfl rfl rfl (by first | exact fun _ => rfl | exact cs1 | exact cs2 | exact cs3) (by first | exact fun _ => trivial | (intro h; simp at h; first | exact ⟨by omega, by omega⟩ | omega)) rfl ?_
            | refine r_built_cnd tab_ok rfl rfl rfl rfl rfl rfl rfl rfl (by first | exact fun _ => rfl | exact cs1) rfl rfl rfl ?_))
        refine r_call_cnd (fun _ => map2t) call17 rfl rfl rfl rfl (by first | exact fun _ => rfl | exact cs1 | exact cs2 | exact cs3) ⟨Sub.refl _, trivial⟩ rfl rfl rfl rfl ?_
        refine r_idx_cnd tab_ok (f := iD) (l := [0, 60]) rfl rfl rfl rfl rfl rfl rfl (by first | exact fun _ => rfl | exact cs1 | exact cs2 | exact cs3) rfl rfl ⟨by decide, by decide⟩ rfl rfl ?_
        repeat (first
          | (refine r_id ?_; first
            | refine r_ev tab_ok rfl rfl rfl rfl (by first | exact trivial | exact ⟨by omega, by omega⟩ | omega | exact ⟨by omega, by omega, by omega, by omega⟩ | exact Nat.le_of_ble_eq_true rfl) rfl ?_
            | refine r_ev_cnd tab_ok rfl rfl rfl rfl rfl rfl (by first | exact fun _ => rfl | exact cs1 | exact cs2 | exact cs3) (by first | exact fun _ => trivial | (intro h; simp at h; first | exact ⟨by omega, by omega⟩ | omega)) rfl ?_
            | refine r_and rfl rfl rfl rfl rfl rfl rfl rfl ?_))
        refine r_call_cnd (fun _ => awake_ok) call9 rfl rfl rfl rfl (by first | exact fun _ => rfl | exact cs1 | exact cs2 | exact cs3) trivial rfl rfl rfl rfl ?_
        repeat (first
          | refine thenA_normal ?_
          | refine awp_ret ?_
          | refine r_done ?_
          | (refine r_id ?_; first
            | refine r_ev tab_ok rfl rfl rfl rfl (by first | exact trivial | exact ⟨by omega, by omega⟩ | omega | exact ⟨by omega, by omega, by omega, by omega⟩ | exact Nat.le_of_ble_eq_true rfl) rfl ?_
            | refine r_and rfl rfl rfl rfl rfl rfl rfl rfl ?_)
          | refine ret1 (by first | exact .inl rfl | exact .inr rfl) rfl rfl rfl ?_)
        exact Sub.of_eq (by dsimp only; rw [hr1]; rfl)
      · have hr := all_get szS1 hm1 hm2
        simp only [Bool.and_eq_true, beq_iff_eq, Bool.not_eq_true'] at hr
        have hp := signs_ok (szS i) (60 * (i : Int) + 1) (by show (-9223372036854775808 : Int) ≤ 1; decide) (by simp [szS, szA, mk]; try omega) (by simp [szS, szA, mk]) (by simp [szS, szA, mk])
        generalize signsF (szS i) (60 * (i : Int) + 1) = r at hr hp
        obtain ⟨r1, r2⟩ := r
        obtain ⟨hr2, hr1⟩ := hr
        dsimp only at hr1 hr2
        subst hr2
        repeat (first
          | refine awp_seq ?_
          | refine awp_cond_t rfl ?_)
        refine a_region ?_
        repeat (first
          | refine awp_seq ?_
          | refine r_done ?_
          | (refine r_id ?_; first
            | refine r_ev tab_ok rfl rfl rfl rfl (by first | exact trivial | exact ⟨by omega, by omega⟩ | omega | exact ⟨by omega, by omega, by omega, by omega⟩ | exact Nat.le_of_ble_eq_true rfl) rfl ?_))
        refine a_region ?_
        repeat (first
          | refine thenA_normal ?_
          | refine r_done ?_
          | (refine r_id ?_; first
            | refine r_ev tab_ok rfl rfl rfl rfl (by first | exact trivial | exact ⟨by omega, by omega⟩ | omega | exact ⟨by omega, by omega, by omega, by omega⟩ | exact Nat.le_of_ble_eq_true rfl) rfl ?_)
          | refine awp_cond_t rfl ?_)
        refine a_region ?_
        repeat (first
          | refine awp_seq ?_
          | refine r_done ?_
          | (refine r_id ?_; first
            | refine r_ev tab_ok rfl rfl rfl rfl (by first | exact trivial | exact ⟨by omega, by omega⟩ | omega | exact ⟨by omega, by omega, by omega, by omega⟩ | exact Nat.le_of_ble_eq_true rfl) rfl ?_))
        refine awp_fits (fits_conv (M' := [.box 28 (dfC (szS i)), .gone]) (F' := [(1, .val (.bool true)), (7, .ptr 0 0), (9, .val (.int .i64 (60 * (i : Int) + 1)))]) (by repeat' first | exact trivial | exact rfl | (rw [List.map_append]; first | done | rfl) | exact c_sub rfl (Sub.refl _) rfl | exact c_nil rfl rfl | exact c_thaw rfl rfl rfl | exact c_row rfl rfl rfl | exact c_row rfl rfl (by rw [List.map_append]; first | done | rfl) | exact c_ptr rfl rfl rfl rfl | exact Or.inl ⟨c_sub rfl (Sub.refl _) rfl, c_ptr rfl rfl rfl rfl⟩ | exact c_alt rfl rfl rfl rfl | exact c_ro rfl rfl | exact c_eo rfl rfl | exact c_sub rfl (Sub.altl _ _) rfl | exact c_sub rfl (Sub.nil _) rfl | refine ⟨_, _, rfl, ?_, ?_⟩ | apply And.intro) (by repeat' first | exact trivial | exact rfl | (rw [List.map_append]; first | done | rfl) | exact c_sub rfl (Sub.refl _) rfl | exact c_nil rfl rfl | exact c_thaw rfl rfl rfl | exact c_row rfl rfl rfl | exact c_row rfl rfl (by rw [List.map_append]; first | done | rfl) | exact c_ptr rfl rfl rfl rfl | exact Or.inl ⟨c_sub rfl (Sub.refl _) rfl, c_ptr rfl rfl rfl rfl⟩ | exact c_alt rfl rfl rfl rfl | exact c_ro rfl rfl | exact c_eo rfl rfl | exact c_sub rfl (Sub.altl _ _) rfl | exact c_sub rfl (Sub.nil _) rfl | refine ⟨_, _, rfl, ?_, ?_⟩ | apply And.intro)) ?_
        repeat (first
          | refine a_region ?_
          | (refine r_id ?_; first
            | refine r_ev tab_ok rfl rfl rfl rfl (by first | exact trivial | exact ⟨by omega, by omega⟩ | omega | exact ⟨by omega, by omega, by omega, by omega⟩ | exact Nat.le_of_ble_eq_true rfl) rfl ?_
            | refine r_ld tab_ok rfl rfl rfl rfl rfl ?_))
        refine r_call hp call11 rfl rfl ⟨Sub.agg (by repeat' first | exact trivial | exact Sub.refl _ | exact Sub.nil _ | refine Sub.agg ?_ | apply And.intro), Sub.refl _, trivial⟩ rfl rfl rfl rfl ?_
        repeat (first
          | refine awp_seq ?_
          | refine a_region ?_
          | refine r_done ?_
          | (refine r_id ?_; first
            | refine r_ev tab_ok rfl rfl rfl rfl (by first | exact trivial | exact ⟨by omega, by omega⟩ | omega | exact ⟨by omega, by omega, by omega, by omega⟩ | exact Nat.le_of_ble_eq_true rfl) rfl ?_
            | refine r_ev_cnd tab_ok rfl rfl rfl rfl rfl rfl (by first | exact fun _ => rfl | exact cs1 | exact cs2 | exact cs3) (by first | exact fun _ => trivial | (intro h; simp at h; first | exact ⟨by omega, by omega⟩ | omega)) rfl ?_
            | refine r_built_cnd tab_ok rfl rfl rfl rfl rfl rfl rfl rfl (by first | exact fun _ => rfl | exact cs1) rfl rfl rfl ?_))
        refine r_call_cnd (fun _ => map2f) call17 rfl rfl rfl rfl (by first | exact fun _ => rfl | exact cs1 | exact cs2 | exact cs3) ⟨Sub.refl _, trivial⟩ rfl rfl rfl rfl ?_
        refine r_idx_cnd tab_ok (f := iD) (l := [0, 60]) rfl rfl rfl rfl rfl rfl rfl (by first | exact fun _ => rfl | exact cs1 | exact cs2 | exact cs3) rfl rfl ⟨by decide, by decide⟩ rfl rfl ?_
        repeat (first
          | (refine r_id ?_; first
            | refine r_ev tab_ok rfl rfl rfl rfl (by first | exact trivial | exact ⟨by omega, by omega⟩ | omega | exact ⟨by omega, by omega, by omega, by omega⟩ | exact Nat.le_of_ble_eq_true rfl) rfl ?_
            | refine r_ev_cnd tab_ok rfl rfl rfl rfl rfl rfl (by first | exact fun _ => rfl | exact cs1 | exact cs2 | exact cs3) (by first | exact fun _ => trivial | (intro h; simp at h; first | exact ⟨by omega, by omega⟩ | omega)) rfl ?_
            | refine r_and rfl rfl rfl rfl rfl rfl rfl rfl ?_))
        refine r_call_cnd (fun _ => awake_ok) call9 rfl rfl rfl rfl (by first | exact fun _ => rfl | exact cs1 | exact cs2 | exact cs3) trivial rfl rfl rfl rfl ?_
        repeat (first
          | refine thenA_normal ?_
          | refine awp_ret ?_
          | refine r_done ?_
          | (refine r_id ?_; first
            | refine r_ev tab_ok rfl rfl rfl rfl (by first | exact trivial | exact ⟨by omega, by omega⟩ | omega | exact ⟨by omega, by omega, by omega, by omega⟩ | exact Nat.le_of_ble_eq_true rfl) rfl ?_
            | refine r_and rfl rfl rfl rfl rfl rfl rfl rfl ?_)
          | refine ret1 (by first | exact .inl rfl | exact .inr rfl) rfl rfl rfl ?_)
        exact Sub.of_eq (by dsimp only; rw [hr1]; rfl)
    · have hq1 : 0 ≤ (1000 * (i : Int)) * (60 - i) := Int.mul_nonneg (by omega) (by omega)
      have hq2 : (1000 * (i : Int)) * (60 - i) ≤ 20000 * 60 := Int.mul_le_mul (by omega) (by omega) (by omega) (by omega)
      have hq3 : 0 ≤ (i : Int) * i := Int.mul_nonneg (by omega) (by omega)
      have hq4 : (i : Int) * i ≤ 20 * 20 := Int.mul_le_mul (by omega) (by omega) (by omega) (by omega)
      repeat (first
        | refine awp_seq ?_
        | refine a_region ?_
        | (refine r_id ?_; first
          | refine r_built tab_ok rfl rfl rfl rfl rfl rfl rfl rfl rfl ?_)
        | refine awp_cond_t rfl ?_)
      refine r_call (made_ok additiveS [⟨#[120]⟩, ⟨#[121]⟩]) call10 rfl rfl ⟨Sub.refl _, Sub.refl _, trivial⟩ rfl rfl rfl rfl ?_
      repeat (first
        | refine awp_seq ?_
        | refine thenA_normal ?_
        | refine a_region ?_
        | refine r_done ?_
        | (refine r_id ?_; first
          | refine r_ev tab_ok rfl rfl rfl rfl (by first | exact trivial | exact ⟨by omega, by omega⟩ | omega | exact ⟨by omega, by omega, by omega, by omega⟩ | exact Nat.le_of_ble_eq_true rfl) rfl ?_
          | refine r_st tab_ok rfl rfl rfl rfl ?_
          | refine r_built tab_ok rfl rfl rfl rfl rfl rfl rfl rfl rfl ?_))
      cases over
      · have hr := all_get szA0 hm1 hm2
        simp only [Bool.and_eq_true, beq_iff_eq, Bool.not_eq_true'] at hr
        have hp := signs_ok (szA i) (1000 * (i : Int) * (60 - i) + i * i) (by show (-9223372036854775808 : Int) ≤ 1; decide) (by simp [szS, szA, mk]; try omega) (by simp [szS, szA, mk]) (by simp [szS, szA, mk])
        generalize signsF (szA i) (1000 * (i : Int) * (60 - i) + i * i) = r at hr hp
        obtain ⟨r1, r2⟩ := r
        obtain ⟨hr2, hr1⟩ := hr
        dsimp only at hr1 hr2
        subst hr2
        repeat (first
          | refine awp_seq ?_
          | refine awp_skip ?_
          | refine awp_cond_f rfl ?_)
        refine awp_fits (fits_conv (M' := [.box 28 (dfC (szA i)), .gone]) (F' := [(1, .val (.bool false)), (7, .ptr 0 0), (9, .val (.int .i64 (1000 * (i : Int) * (60 - i) + i * i)))]) (by repeat' first | exact trivial | exact rfl | (rw [List.map_append]; first | done | rfl) | exact c_sub rfl (Sub.refl _) rfl | exact c_nil rfl rfl | exact c_thaw rfl rfl rfl | exact c_row rfl rfl rfl | exact c_row rfl rfl (by rw [List.map_append]; first | done | rfl) | exact c_ptr rfl rfl rfl rfl | exact Or.inl ⟨c_sub rfl (Sub.refl _) rfl, c_ptr rfl rfl rfl rfl⟩ | exact c_alt rfl rfl rfl rfl | exact c_ro rfl rfl | exact c_eo rfl rfl | exact c_sub rfl (Sub.altl _ _) rfl | exact c_sub rfl (Sub.nil _) rfl | refine ⟨_, _, rfl, ?_, ?_⟩ | apply And.intro) (by repeat' first | exact trivial | exact rfl | (rw [List.map_append]; first | done | rfl) | exact c_sub rfl (Sub.refl _) rfl | exact c_nil rfl rfl | exact c_thaw rfl rfl rfl | exact c_row rfl rfl rfl | exact c_row rfl rfl (by rw [List.map_append]; first | done | rfl) | exact c_ptr rfl rfl rfl rfl | exact Or.inl ⟨c_sub rfl (Sub.refl _) rfl, c_ptr rfl rfl rfl rfl⟩ | exact c_alt rfl rfl rfl rfl | exact c_ro rfl rfl | exact c_eo rfl rfl | exact c_sub rfl (Sub.altl _ _) rfl | exact c_sub rfl (Sub.nil _) rfl | refine ⟨_, _, rfl, ?_, ?_⟩ | apply And.intro)) ?_
        repeat (first
          | refine a_region ?_
          | (refine r_id ?_; first
            | refine r_ev tab_ok rfl rfl rfl rfl (by first | exact trivial | exact ⟨by omega, by omega⟩ | omega | exact ⟨by omega, by omega, by omega, by omega⟩ | exact Nat.le_of_ble_eq_true rfl) rfl ?_
            | refine r_ld tab_ok rfl rfl rfl rfl rfl ?_))
        refine r_call hp call11 rfl rfl ⟨Sub.agg (by repeat' first | exact trivial | exact Sub.refl _ | exact Sub.nil _ | refine Sub.agg ?_ | apply And.intro), Sub.refl _, trivial⟩ rfl rfl rfl rfl ?_
        repeat (first
          | refine awp_seq ?_
          | refine a_region ?_
          | refine r_done ?_
          | (refine r_id ?_; first
            | refine r_ev tab_ok rfl rfl rfl rfl (by first | exact trivial | exact ⟨by omega, by omega⟩ | omega | exact ⟨by omega, by omega, by omega, by omega⟩ | exact Nat.le_of_ble_eq_true rfl) rfl ?_
            | refine r_ev_cnd tab_ok rfl rfl rfl rfl rfl rfl (by first | exact fun _ => rfl | exact cs1 | exact cs2 | exact cs3) (by first | exact fun _ => trivial | (intro h; simp at h; first | exact ⟨by omega, by omega⟩ | omega)) rfl ?_
            | refine r_built_cnd tab_ok rfl rfl rfl rfl rfl rfl rfl rfl (by first | exact fun _ => rfl | exact cs1) rfl rfl rfl ?_))
        refine r_call_cnd (fun _ => map2t) call17 rfl rfl rfl rfl (by first | exact fun _ => rfl | exact cs1 | exact cs2 | exact cs3) ⟨Sub.refl _, trivial⟩ rfl rfl rfl rfl ?_
        refine r_idx_cnd tab_ok (f := iD) (l := [0, 60]) rfl rfl rfl rfl rfl rfl rfl (by first | exact fun _ => rfl | exact cs1 | exact cs2 | exact cs3) rfl rfl ⟨by decide, by decide⟩ rfl rfl ?_
        repeat (first
          | (refine r_id ?_; first
            | refine r_ev tab_ok rfl rfl rfl rfl (by first | exact trivial | exact ⟨by omega, by omega⟩ | omega | exact ⟨by omega, by omega, by omega, by omega⟩ | exact Nat.le_of_ble_eq_true rfl) rfl ?_
            | refine r_ev_cnd tab_ok rfl rfl rfl rfl rfl rfl (by first | exact fun _ => rfl | exact cs1 | exact cs2 | exact cs3) (by first | exact fun _ => trivial | (intro h; simp at h; first | exact ⟨by omega, by omega⟩ | omega)) rfl ?_
            | refine r_and rfl rfl rfl rfl rfl rfl rfl rfl ?_))
        refine r_call_cnd (fun _ => awake_ok) call9 rfl rfl rfl rfl (by first | exact fun _ => rfl | exact cs1 | exact cs2 | exact cs3) trivial rfl rfl rfl rfl ?_
        repeat (first
          | refine thenA_normal ?_
          | refine awp_ret ?_
          | refine r_done ?_
          | (refine r_id ?_; first
            | refine r_ev tab_ok rfl rfl rfl rfl (by first | exact trivial | exact ⟨by omega, by omega⟩ | omega | exact ⟨by omega, by omega, by omega, by omega⟩ | exact Nat.le_of_ble_eq_true rfl) rfl ?_
            | refine r_and rfl rfl rfl rfl rfl rfl rfl rfl ?_)
          | refine ret1 (by first | exact .inl rfl | exact .inr rfl) rfl rfl rfl ?_)
        exact Sub.of_eq (by dsimp only; rw [hr1]; rfl)
      · have hr := all_get szA1 hm1 hm2
        simp only [Bool.and_eq_true, beq_iff_eq, Bool.not_eq_true'] at hr
        have hp := signs_ok (szA i) (1000 * (i : Int) * (60 - i) + i * i + i) (by show (-9223372036854775808 : Int) ≤ 1; decide) (by simp [szS, szA, mk]; try omega) (by simp [szS, szA, mk]) (by simp [szS, szA, mk])
        generalize signsF (szA i) (1000 * (i : Int) * (60 - i) + i * i + i) = r at hr hp
        obtain ⟨r1, r2⟩ := r
        obtain ⟨hr2, hr1⟩ := hr
        dsimp only at hr1 hr2
        subst hr2
        repeat (first
          | refine awp_seq ?_
          | refine awp_cond_t rfl ?_)
        refine a_region ?_
        repeat (first
          | refine awp_seq ?_
          | refine r_done ?_
          | (refine r_id ?_; first
            | refine r_ev tab_ok rfl rfl rfl rfl (by first | exact trivial | exact ⟨by omega, by omega⟩ | omega | exact ⟨by omega, by omega, by omega, by omega⟩ | exact Nat.le_of_ble_eq_true rfl) rfl ?_))
        refine a_region ?_
        repeat (first
          | refine awp_seq ?_
          | refine thenA_normal ?_
          | refine awp_skip ?_
          | refine r_done ?_
          | (refine r_id ?_; first
            | refine r_ev tab_ok rfl rfl rfl rfl (by first | exact trivial | exact ⟨by omega, by omega⟩ | omega | exact ⟨by omega, by omega, by omega, by omega⟩ | exact Nat.le_of_ble_eq_true rfl) rfl ?_)
          | refine awp_cond_f rfl ?_)
        refine awp_fits (fits_conv (M' := [.box 28 (dfC (szA i)), .gone]) (F' := [(1, .val (.bool true)), (7, .ptr 0 0), (9, .val (.int .i64 (1000 * (i : Int) * (60 - i) + i * i + i)))]) (by repeat' first | exact trivial | exact rfl | (rw [List.map_append]; first | done | rfl) | exact c_sub rfl (Sub.refl _) rfl | exact c_nil rfl rfl | exact c_thaw rfl rfl rfl | exact c_row rfl rfl rfl | exact c_row rfl rfl (by rw [List.map_append]; first | done | rfl) | exact c_ptr rfl rfl rfl rfl | exact Or.inl ⟨c_sub rfl (Sub.refl _) rfl, c_ptr rfl rfl rfl rfl⟩ | exact c_alt rfl rfl rfl rfl | exact c_ro rfl rfl | exact c_eo rfl rfl | exact c_sub rfl (Sub.altl _ _) rfl | exact c_sub rfl (Sub.nil _) rfl | refine ⟨_, _, rfl, ?_, ?_⟩ | apply And.intro) (by repeat' first | exact trivial | exact rfl | (rw [List.map_append]; first | done | rfl) | exact c_sub rfl (Sub.refl _) rfl | exact c_nil rfl rfl | exact c_thaw rfl rfl rfl | exact c_row rfl rfl rfl | exact c_row rfl rfl (by rw [List.map_append]; first | done | rfl) | exact c_ptr rfl rfl rfl rfl | exact Or.inl ⟨c_sub rfl (Sub.refl _) rfl, c_ptr rfl rfl rfl rfl⟩ | exact c_alt rfl rfl rfl rfl | exact c_ro rfl rfl | exact c_eo rfl rfl | exact c_sub rfl (Sub.altl _ _) rfl | exact c_sub rfl (Sub.nil _) rfl | refine ⟨_, _, rfl, ?_, ?_⟩ | apply And.intro)) ?_
        repeat (first
          | refine a_region ?_
          | (refine r_id ?_; first
            | refine r_ev tab_ok rfl rfl rfl rfl (by first | exact trivial | exact ⟨by omega, by omega⟩ | omega | exact ⟨by omega, by omega, by omega, by omega⟩ | exact Nat.le_of_ble_eq_true rfl) rfl ?_
            | refine r_ld tab_ok rfl rfl rfl rfl rfl ?_))
        refine r_call hp call11 rfl rfl ⟨Sub.agg (by repeat' first | exact trivial | exact Sub.refl _ | exact Sub.nil _ | refine Sub.agg ?_ | apply And.intro), Sub.refl _, trivial⟩ rfl rfl rfl rfl ?_
        repeat (first
          | refine awp_seq ?_
          | refine a_region ?_
          | refine r_done ?_
          | (refine r_id ?_; first
            | refine r_ev tab_ok rfl rfl rfl rfl (by first | exact trivial | exact ⟨by omega, by omega⟩ | omega | exact ⟨by omega, by omega, by omega, by omega⟩ | exact Nat.le_of_ble_eq_true rfl) rfl ?_
            | refine r_ev_cnd tab_ok rfl rfl rfl rfl rfl rfl (by first | exact fun _ => rfl | exact cs1 | exact cs2 | exact cs3) (by first | exact fun _ => trivial | (intro h; simp at h; first | exact ⟨by omega, by omega⟩ | omega)) rfl ?_
            | refine r_built_cnd tab_ok rfl rfl rfl rfl rfl rfl rfl rfl (by first | exact fun _ => rfl | exact cs1) rfl rfl rfl ?_))
        refine r_call_cnd (fun _ => map2f) call17 rfl rfl rfl rfl (by first | exact fun _ => rfl | exact cs1 | exact cs2 | exact cs3) ⟨Sub.refl _, trivial⟩ rfl rfl rfl rfl ?_
        refine r_idx_cnd tab_ok (f := iD) (l := [0, 60]) rfl rfl rfl rfl rfl rfl rfl (by first | exact fun _ => rfl | exact cs1 | exact cs2 | exact cs3) rfl rfl ⟨by decide, by decide⟩ rfl rfl ?_
        repeat (first
          | (refine r_id ?_; first
            | refine r_ev tab_ok rfl rfl rfl rfl (by first | exact trivial | exact ⟨by omega, by omega⟩ | omega | exact ⟨by omega, by omega, by omega, by omega⟩ | exact Nat.le_of_ble_eq_true rfl) rfl ?_
            | refine r_ev_cnd tab_ok rfl rfl rfl rfl rfl rfl (by first | exact fun _ => rfl | exact cs1 | exact cs2 | exact cs3) (by first | exact fun _ => trivial | (intro h; simp at h; first | exact ⟨by omega, by omega⟩ | omega)) rfl ?_
            | refine r_and rfl rfl rfl rfl rfl rfl rfl rfl ?_))
        refine r_call_cnd (fun _ => awake_ok) call9 rfl rfl rfl rfl (by first | exact fun _ => rfl | exact cs1 | exact cs2 | exact cs3) trivial rfl rfl rfl rfl ?_
        repeat (first
          | refine thenA_normal ?_
          | refine awp_ret ?_
          | refine r_done ?_
          | (refine r_id ?_; first
            | refine r_ev tab_ok rfl rfl rfl rfl (by first | exact trivial | exact ⟨by omega, by omega⟩ | omega | exact ⟨by omega, by omega, by omega, by omega⟩ | exact Nat.le_of_ble_eq_true rfl) rfl ?_
            | refine r_and rfl rfl rfl rfl rfl rfl rfl rfl ?_)
          | refine ret1 (by first | exact .inl rfl | exact .inr rfl) rfl rfl rfl ?_)
        exact Sub.of_eq (by dsimp only; rw [hr1]; rfl)
end Go.Proofs.Ytgkcliecgmhmfaa
