/- RulesLimits, walked. -/
import Derived.Test.YtiolnmfaeenlmaaGreatDoorRy
import Derived.Test.YtiolnmfaeenlmaaGreatDoorR0
namespace Go.Proofs.YtiolnmfaeenlmaaGreatDoor
open Go Go.RowKit
set_option maxRecDepth 20000

theorem lm_t (n : Nat) : (⟨(lmL true n).toArray⟩ : ByteArray) ++ (⟨#[64, 97, 59]⟩ : ByteArray) = ⟨(lmL true (n + 1)).toArray⟩ := by
  rw [show (⟨#[64, 97, 59]⟩ : ByteArray) = ⟨(uL true).toArray⟩ from rfl, bytes_cat, lmL_snoc]
theorem lm_f (n : Nat) : (⟨(lmL false n).toArray⟩ : ByteArray) ++ (⟨#[97, 123, 125]⟩ : ByteArray) = ⟨(lmL false (n + 1)).toArray⟩ := by
  rw [show (⟨#[97, 123, 125]⟩ : ByteArray) = ⟨(uL false).toArray⟩ from rfl, bytes_cat, lmL_snoc]
set_option maxHeartbeats 16000000 in
theorem lawLimits (nn : Int) (a : Bool) (mm : Int) : PCalls Tryz.prog 5 [.val (.int .i64 nn), .val (.bool a), .val (.int .i64 mm)] (.val (.bool true)) := by
  refine p_start Tryz.func5 Tryz.ntmps5 rfl rfl rfl fun S w => ?_
  repeat (first
    | refine awp_seq ?_
    | refine thenA_normal ?_
    | refine a_region ?_
    | refine r_done ?_
    | (refine r_id ?_; first
      | refine r_ev tab_ok rfl rfl rfl rfl (by first | exact trivial | exact ⟨by omega, by omega⟩ | omega | exact ⟨by omega, by omega, by omega, by omega⟩ | exact Nat.le_of_ble_eq_true rfl) rfl ?_
      | refine r_ev_cnd tab_ok rfl rfl rfl rfl rfl rfl (by first | exact fun _ => rfl | exact cs1 | exact cs2 | exact cs3) (by first | exact fun _ => trivial | (intro h; simp at h; first | exact ⟨by omega, by omega⟩ | omega)) rfl ?_
      | refine r_or rfl rfl rfl rfl rfl rfl rfl rfl ?_))
  refine awp_cond rfl (fun h => ?_) (fun h => ?_)
  · repeat (first
      | refine awp_seq ?_
      | refine a_region ?_)
    refine r_call awake4_ok call11 rfl rfl trivial rfl rfl rfl rfl ?_
    repeat (first
      | refine thenA_normal ?_
      | refine awp_ret ?_
      | refine thenA_ret ?_
      | refine r_done ?_
      | (refine r_id ?_; first
        | refine r_ev tab_ok rfl rfl rfl rfl (by first | exact trivial | exact ⟨by omega, by omega⟩ | omega | exact ⟨by omega, by omega, by omega, by omega⟩ | exact Nat.le_of_ble_eq_true rfl) rfl ?_)
      | refine ret1 (by first | exact .inl rfl | exact .inr rfl) rfl rfl rfl ?_)
    exact Sub.refl _
  simp only [Bool.or_eq_false_iff, decide_eq_false_iff_not] at h
  have hb : 0 ≤ nn ∧ nn ≤ 600 ∧ 65000 ≤ mm ∧ mm ≤ 66000 := by omega
  clear h
  obtain ⟨hn1, hn2, hm1, hm2⟩ := hb
  obtain ⟨n, rfl⟩ : ∃ n : Nat, nn = n := ⟨nn.toNat, by omega⟩
  obtain ⟨m, rfl⟩ : ∃ m : Nat, mm = m := ⟨mm.toNat, by omega⟩
  repeat (first
    | refine awp_seq ?_
    | refine thenA_normal ?_
    | refine awp_block ?_
    | refine a_region ?_
    | refine awp_skip ?_
    | refine r_done ?_
    | (refine r_id ?_; first
      | refine r_ev tab_ok rfl rfl rfl rfl (by first | exact trivial | exact ⟨by omega, by omega⟩ | omega | exact ⟨by omega, by omega, by omega, by omega⟩ | exact Nat.le_of_ble_eq_true rfl) rfl ?_))
  refine a_loop (σ := {i : Nat // i ≤ n}) (fun _ => []) (fun x => [(0, .val (.int .i64 n)), (1, .val (.bool a)), (2, .val (.int .i64 m)), (7, .val (.string ⟨(lmL a x.1).toArray⟩)), (8, .val (.int .i64 x.1))]) (fun x => n - x.1) ⟨0, Nat.zero_le _⟩ (fits_of rfl (by repeat' first | exact trivial | exact Sub.refl _ | exact rfl | apply And.intro)) ?_
  rintro ⟨i, hi⟩
  dsimp only
  have hS : (⟨(lmL a i).toArray⟩ : ByteArray).size ≤ 1800 := by rw [sz_list, lm_len]; omega
  have h3 : (⟨#[64, 97, 59]⟩ : ByteArray).size = 3 := rfl
  have h3' : (⟨#[97, 123, 125]⟩ : ByteArray).size = 3 := rfl
  repeat (first
    | refine awp_seq ?_
    | refine thenA_normal ?_
    | refine a_region ?_
    | refine r_done ?_
    | (refine r_id ?_; first
      | refine r_ev tab_ok rfl rfl rfl rfl (by first | exact trivial | exact ⟨by omega, by omega⟩ | omega | exact ⟨by omega, by omega, by omega, by omega⟩ | exact Nat.le_of_ble_eq_true rfl) rfl ?_))
  refine awp_cond_p rfl (fun hlt => ?_) (fun hge => ?_)
  · have ht := lm_t i
    have hf := lm_f i
    cases a with
    | true =>
      repeat (first
        | refine awp_seq ?_
        | refine thenA_normal ?_
        | refine awp_block ?_
        | refine a_region ?_
        | refine awp_skip ?_
        | refine r_done ?_
        | (refine r_id ?_; first
          | refine r_ev tab_ok rfl rfl rfl rfl (by first | exact trivial | exact ⟨by omega, by omega⟩ | omega | exact ⟨by omega, by omega, by omega, by omega⟩ | exact Nat.le_of_ble_eq_true rfl) rfl ?_)
        | refine awp_cond_t rfl ?_)
      refine ⟨⟨i + 1, by omega⟩, by dsimp only; omega, ?_⟩
      dsimp only
      rw [← ht]
      exact fits_of rfl (by repeat' first | exact trivial | exact Sub.refl _ | exact rfl | apply And.intro)
    | false =>
      repeat (first
        | refine awp_seq ?_
        | refine thenA_normal ?_
        | refine awp_block ?_
        | refine a_region ?_
        | refine awp_skip ?_
        | refine r_done ?_
        | (refine r_id ?_; first
          | refine r_ev tab_ok rfl rfl rfl rfl (by first | exact trivial | exact ⟨by omega, by omega⟩ | omega | exact ⟨by omega, by omega, by omega, by omega⟩ | exact Nat.le_of_ble_eq_true rfl) rfl ?_)
        | refine awp_cond_f rfl ?_)
      refine ⟨⟨i + 1, by omega⟩, by dsimp only; omega, ?_⟩
      dsimp only
      rw [← hf]
      exact fits_of rfl (by repeat' first | exact trivial | exact Sub.refl _ | exact rfl | apply And.intro)
  have hie : i = n := by omega
  subst hie
  have hlm := lm_ok a i (by omega)
  have hRm : ((lmR a i).map rlD).length = (lmR a i).length := List.length_map _
  have hRl : (lmR a i).length = if 500 < i then 0 else i := by rw [lmR]; split <;> first | rfl | exact List.length_replicate
  repeat (first
    | refine awp_seq ?_
    | refine a_region ?_
    | refine awp_exit ?_
    | (refine r_id ?_; first
      | refine r_ev tab_ok rfl rfl rfl rfl (by first | exact trivial | exact ⟨by omega, by omega⟩ | omega | exact ⟨by omega, by omega, by omega, by omega⟩ | exact Nat.le_of_ble_eq_true rfl) rfl ?_
      | refine r_strd tab_ok rfl rfl rfl rfl rfl rfl (by omega) rfl rfl rfl ?_))
  refine r_call hlm call12 rfl rfl ⟨Sub.refl _, trivial⟩ rfl rfl rfl rfl ?_
  repeat (first
    | refine awp_seq ?_
    | refine a_region ?_
    | refine r_done ?_
    | (refine r_id ?_; first
      | refine r_ev tab_ok rfl rfl rfl rfl (by first | exact trivial | exact ⟨by omega, by omega⟩ | omega | exact ⟨by omega, by omega, by omega, by omega⟩ | exact Nat.le_of_ble_eq_true rfl) rfl ?_))
  refine r_by2 (astep_make_words (n := m) (v := .int .u8 0) tab_ok rfl rfl rfl rfl rfl rfl rfl (by show 1 * _ ≤ _; omega) (by omega)) rfl rfl rfl rfl rfl ?_
  repeat (first
    | refine awp_seq ?_
    | refine thenA_normal ?_
    | refine awp_block ?_
    | refine a_region ?_
    | refine r_done ?_
    | (refine r_id ?_; first
      | refine r_ev tab_ok rfl rfl rfl rfl (by first | exact trivial | exact ⟨by omega, by omega⟩ | omega | exact ⟨by omega, by omega, by omega, by omega⟩ | exact Nat.le_of_ble_eq_true rfl) rfl ?_))
  have hz : List.replicate m (D.val (.int .u8 0)) = (bkL 0 m).map bD := by
    rw [bkL, List.replicate_zero, List.nil_append, Nat.sub_zero, List.map_replicate]; rfl
  rw [hz]
  refine a_loop (σ := {k : Nat // k ≤ m}) (fun x => [.row 0 5 1 ((bkL x.1 m).map bD)]) (fun x => [(0, .val (.int .i64 i)), (2, .val (.int .i64 m)), (9, .sl 4 ((lmR a i).map rlD)), (10, .val (.int .i64 (lmE i))), (11, .row 0 0), (12, .val (.int .i64 x.1))]) (fun x => m - x.1) ⟨0, Nat.zero_le _⟩ (fits_conv (by repeat' first | exact trivial | exact rfl | (rw [List.map_append]; first | done | rfl) | exact c_sub rfl (Sub.refl _) rfl | exact c_nil rfl rfl | exact c_thaw rfl rfl rfl | exact c_row rfl rfl rfl | exact c_row rfl rfl (by rw [List.map_append]; first | done | rfl) | exact c_ptr rfl rfl rfl rfl | exact Or.inl ⟨c_sub rfl (Sub.refl _) rfl, c_ptr rfl rfl rfl rfl⟩ | exact c_alt rfl rfl rfl rfl | exact c_ro rfl rfl | exact c_eo rfl rfl | exact c_sub rfl (Sub.altl _ _) rfl | exact c_sub rfl (Sub.nil _) rfl | refine ⟨_, _, rfl, ?_, ?_⟩ | apply And.intro) (by repeat' first | exact trivial | exact rfl | (rw [List.map_append]; first | done | rfl) | exact c_sub rfl (Sub.refl _) rfl | exact c_nil rfl rfl | exact c_thaw rfl rfl rfl | exact c_row rfl rfl rfl | exact c_row rfl rfl (by rw [List.map_append]; first | done | rfl) | exact c_ptr rfl rfl rfl rfl | exact Or.inl ⟨c_sub rfl (Sub.refl _) rfl, c_ptr rfl rfl rfl rfl⟩ | exact c_alt rfl rfl rfl rfl | exact c_ro rfl rfl | exact c_eo rfl rfl | exact c_sub rfl (Sub.altl _ _) rfl | exact c_sub rfl (Sub.nil _) rfl | refine ⟨_, _, rfl, ?_, ?_⟩ | apply And.intro)) ?_
  rintro ⟨k, hk⟩
  dsimp only
  have hbl := bkL_len hk
  have hbm : ((bkL k m).map bD).length = m := by rw [List.length_map, hbl]
  repeat (first
    | refine awp_seq ?_
    | refine thenA_normal ?_
    | refine a_region ?_
    | refine r_done ?_
    | (refine r_id ?_; first
      | refine r_ev tab_ok rfl rfl rfl rfl (by first | exact trivial | exact ⟨by omega, by omega⟩ | omega | exact ⟨by omega, by omega, by omega, by omega⟩ | exact Nat.le_of_ble_eq_true rfl) rfl ?_))
  refine awp_cond_p rfl (fun hlt => ?_) (fun hge => ?_)
  · have hkm : k < m := by omega
    have hst := bkL_set hkm
    have ek : ((k : Nat) : Int).toNat = k := Int.toNat_natCast k
    repeat (first
      | refine awp_seq ?_
      | refine awp_block ?_
      | refine a_region ?_
      | refine awp_skip ?_
      | (refine r_id ?_; first
        | refine r_ev tab_ok rfl rfl rfl rfl (by first | exact trivial | exact ⟨by omega, by omega⟩ | omega | exact ⟨by omega, by omega, by omega, by omega⟩ | exact Nat.le_of_ble_eq_true rfl) rfl ?_
        | refine r_idxr tab_ok rfl rfl rfl rfl rfl rfl rfl rfl (by first | exact ⟨by omega, by omega⟩ | (simp; omega)) rfl ?_))
    refine r_ste tab_ok (32 : UInt8) rfl rfl rfl rfl rfl (by omega) rfl rfl rfl rfl rfl rfl ?_
    simp only [ek, hst]
    repeat (first
      | refine thenA_normal ?_
      | refine a_region ?_
      | refine r_done ?_
      | (refine r_id ?_; first
        | refine r_ev tab_ok rfl rfl rfl rfl (by first | exact trivial | exact ⟨by omega, by omega⟩ | omega | exact ⟨by omega, by omega, by omega, by omega⟩ | exact Nat.le_of_ble_eq_true rfl) rfl ?_))
    exact ⟨⟨k + 1, hkm⟩, by dsimp only; omega, fits_conv (by repeat' first | exact trivial | exact rfl | (rw [List.map_append]; first | done | rfl) | exact c_sub rfl (Sub.refl _) rfl | exact c_nil rfl rfl | exact c_thaw rfl rfl rfl | exact c_row rfl rfl rfl | exact c_row rfl rfl (by rw [List.map_append]; first | done | rfl) | exact c_ptr rfl rfl rfl rfl | exact Or.inl ⟨c_sub rfl (Sub.refl _) rfl, c_ptr rfl rfl rfl rfl⟩ | exact c_alt rfl rfl rfl rfl | exact c_ro rfl rfl | exact c_eo rfl rfl | exact c_sub rfl (Sub.altl _ _) rfl | exact c_sub rfl (Sub.nil _) rfl | refine ⟨_, _, rfl, ?_, ?_⟩ | apply And.intro) (by repeat' first | exact trivial | exact rfl | (rw [List.map_append]; first | done | rfl) | exact c_sub rfl (Sub.refl _) rfl | exact c_nil rfl rfl | exact c_thaw rfl rfl rfl | exact c_row rfl rfl rfl | exact c_row rfl rfl (by rw [List.map_append]; first | done | rfl) | exact c_ptr rfl rfl rfl rfl | exact Or.inl ⟨c_sub rfl (Sub.refl _) rfl, c_ptr rfl rfl rfl rfl⟩ | exact c_alt rfl rfl rfl rfl | exact c_ro rfl rfl | exact c_eo rfl rfl | exact c_sub rfl (Sub.altl _ _) rfl | exact c_sub rfl (Sub.nil _) rfl | refine ⟨_, _, rfl, ?_, ?_⟩ | apply And.intro)⟩
  have hkm : k = m := by omega
  subst hkm
  have hbe : (bkL k k).map bD = (List.replicate k (32 : UInt8)).map bD := by rw [bkL, Nat.sub_self]; simp
  rw [hbe]
  have hbo := bk_ok k (by omega) (by omega)
  repeat (first
    | refine awp_seq ?_
    | refine awp_exit ?_)
  refine awp_fits (s' := ⟨[.gone], [(0, .val (.int .i64 i)), (2, .val (.int .i64 k)), (9, .sl 4 ((lmR a i).map rlD)), (10, .val (.int .i64 (lmE i))), (11, .sl 1 ((List.replicate k (32 : UInt8)).map bD))]⟩) (fits_conv (by repeat' first | exact trivial | exact rfl | (rw [List.map_append]; first | done | rfl) | exact c_sub rfl (Sub.refl _) rfl | exact c_nil rfl rfl | exact c_thaw rfl rfl rfl | exact c_row rfl rfl rfl | exact c_row rfl rfl (by rw [List.map_append]; first | done | rfl) | exact c_ptr rfl rfl rfl rfl | exact Or.inl ⟨c_sub rfl (Sub.refl _) rfl, c_ptr rfl rfl rfl rfl⟩ | exact c_alt rfl rfl rfl rfl | exact c_ro rfl rfl | exact c_eo rfl rfl | exact c_sub rfl (Sub.altl _ _) rfl | exact c_sub rfl (Sub.nil _) rfl | refine ⟨_, _, rfl, ?_, ?_⟩ | apply And.intro) ⟨c_sub rfl (Sub.refl _) rfl, c_sub rfl (Sub.refl _) rfl, c_sub rfl (Sub.refl _) rfl, c_sub rfl (Sub.refl _) rfl, c_thaw rfl rfl rfl, trivial⟩) ?_
  repeat (first
    | refine a_region ?_
    | (refine r_id ?_; first
      | refine r_ev tab_ok rfl rfl rfl rfl (by first | exact trivial | exact ⟨by omega, by omega⟩ | omega | exact ⟨by omega, by omega, by omega, by omega⟩ | exact Nat.le_of_ble_eq_true rfl) rfl ?_))
  refine r_call hbo call12 rfl rfl ⟨Sub.refl _, trivial⟩ rfl rfl rfl rfl ?_
  have hnl : ¬ 500 < i → ((lmR a i).map rlD).length = i := fun h => by rw [hRm, hRl, if_neg h]
  have hbb : (65536 < k ∧ bkE k = 3) ∨ (¬ 65536 < k ∧ bkE k = 0) := by
    by_cases hb : 65536 < k
    · exact .inl ⟨hb, if_pos hb⟩
    · exact .inr ⟨hb, if_neg hb⟩
  have h55 : (500 < i ∧ lmE i = 3 ∧ lmR a i = []) ∨ (¬ 500 < i ∧ lmE i = 0) := by
    by_cases h5 : 500 < i
    · exact .inl ⟨h5, if_pos h5, if_pos h5⟩
    · exact .inr ⟨h5, if_neg h5⟩
  rcases hbb with ⟨hb, hbE⟩ | ⟨hb, hbE⟩
  · rw [hbE]
    rcases h55 with ⟨h5, hlE, hl0⟩ | ⟨h5, hlE⟩
    · rw [hlE, hl0]
      clear hlm hbo hbm hbl hRm hRl hnl hz hbe hS h3 h3'
      repeat (first
        | refine awp_seq ?_
        | refine thenA_normal ?_
        | refine a_region ?_
        | refine awp_skip ?_
        | refine r_done ?_
        | (refine r_id ?_; first
          | refine r_ev tab_ok rfl rfl rfl rfl (by first | exact trivial | exact ⟨by omega, by omega⟩ | omega | exact ⟨by omega, by omega, by omega, by omega⟩ | exact Nat.le_of_ble_eq_true rfl) rfl ?_
          | refine r_pick_f rfl rfl rfl rfl rfl rfl rfl ?_
          | refine r_ev_on tab_ok rfl rfl rfl rfl rfl rfl (by first | exact trivial | exact ⟨by omega, by omega⟩ | omega) rfl ?_)
        | refine awp_cond_f rfl ?_
        | refine r_g rfl rfl rfl ?_
        | refine r_g rfl rfl (congrArg (fun b => AV.val (.bool b)) (decide_eq_true (by omega))) ?_
        | refine r_pick_t rfl rfl (congrArg (fun b => AV.val (.bool b)) (decide_eq_true (by omega))) rfl rfl rfl rfl ?_
        | refine r_pick_f rfl rfl (congrArg (fun b => AV.val (.bool b)) (decide_eq_false (by omega))) rfl rfl rfl rfl ?_
        | refine r_off rfl rfl (congrArg (fun b => AV.val (.bool b)) (decide_eq_false (by omega))) rfl rfl rfl ?_
        | refine r_offu rfl rfl rfl rfl rfl rfl ?_)
      try refine awp_cond_p rfl (fun _ => ?_) (fun h => (h (by omega)).elim)
      repeat (first
        | refine awp_seq ?_
        | refine a_region ?_
        | (refine r_id ?_; first
          | refine r_ev tab_ok rfl rfl rfl rfl (by first | exact trivial | exact ⟨by omega, by omega⟩ | omega | exact ⟨by omega, by omega, by omega, by omega⟩ | exact Nat.le_of_ble_eq_true rfl) rfl ?_
          | refine r_pick_t rfl rfl rfl rfl rfl rfl rfl ?_
          | refine r_len_on tab_ok rfl rfl rfl rfl rfl rfl rfl rfl rfl ?_
          | refine r_ev_on tab_ok rfl rfl rfl rfl rfl rfl (by first | exact trivial | exact ⟨by omega, by omega⟩ | omega) rfl ?_)
        | refine r_g rfl rfl rfl ?_)
      refine r_call awake4_ok call11 rfl rfl trivial rfl rfl rfl rfl ?_
      repeat (first
        | refine thenA_normal ?_
        | refine awp_ret ?_
        | refine thenA_ret ?_
        | refine r_done ?_
        | (refine r_id ?_; first
          | refine r_ev tab_ok rfl rfl rfl rfl (by first | exact trivial | exact ⟨by omega, by omega⟩ | omega | exact ⟨by omega, by omega, by omega, by omega⟩ | exact Nat.le_of_ble_eq_true rfl) rfl ?_
          | refine r_pick_t rfl rfl rfl rfl rfl rfl rfl ?_)
        | refine ret1 (by first | exact .inl rfl | exact .inr rfl) rfl rfl rfl ?_)
      exact Sub.refl _
    · have hnl2 : (lmR a i).length = i := by rw [hRl, if_neg h5]
      rw [hlE]
      clear hlm hbo hbm hbl hRm hRl hnl hz hbe hS h3 h3'
      repeat (first
        | refine awp_seq ?_
        | refine thenA_normal ?_
        | refine a_region ?_
        | refine awp_skip ?_
        | refine r_done ?_
        | (refine r_id ?_; first
          | refine r_ev tab_ok rfl rfl rfl rfl (by first | exact trivial | exact ⟨by omega, by omega⟩ | omega | exact ⟨by omega, by omega, by omega, by omega⟩ | exact Nat.le_of_ble_eq_true rfl) rfl ?_
          | refine r_pick_f rfl rfl rfl rfl rfl rfl rfl ?_
          | refine r_ev_on tab_ok rfl rfl rfl rfl rfl rfl (by first | exact trivial | exact ⟨by omega, by omega⟩ | omega) rfl ?_)
        | refine awp_cond_f rfl ?_
        | refine r_g rfl rfl rfl ?_
        | refine r_g rfl rfl (congrArg (fun b => AV.val (.bool b)) (decide_eq_true (by omega))) ?_
        | refine r_pick_t rfl rfl (congrArg (fun b => AV.val (.bool b)) (decide_eq_true (by omega))) rfl rfl rfl rfl ?_
        | refine r_pick_f rfl rfl (congrArg (fun b => AV.val (.bool b)) (decide_eq_false (by omega))) rfl rfl rfl rfl ?_
        | refine r_off rfl rfl (congrArg (fun b => AV.val (.bool b)) (decide_eq_false (by omega))) rfl rfl rfl ?_
        | refine r_offu rfl rfl rfl rfl rfl rfl ?_)
      try refine awp_cond_p rfl (fun h => (h5 (by omega)).elim) (fun _ => ?_)
      repeat (first
        | refine awp_seq ?_
        | refine a_region ?_
        | refine awp_skip ?_
        | (refine r_id ?_; first
          | refine r_ev tab_ok rfl rfl rfl rfl (by first | exact trivial | exact ⟨by omega, by omega⟩ | omega | exact ⟨by omega, by omega, by omega, by omega⟩ | exact Nat.le_of_ble_eq_true rfl) rfl ?_
          | refine r_pick_t rfl rfl rfl rfl rfl rfl rfl ?_
          | refine r_len_on tab_ok rfl rfl rfl rfl rfl rfl rfl rfl rfl ?_
          | refine r_ev_on tab_ok rfl rfl rfl rfl rfl rfl (by first | exact trivial | exact ⟨by omega, by omega⟩ | omega) rfl ?_)
        | refine r_g rfl rfl (congrArg (fun b => AV.val (.bool b)) (decide_eq_true (by omega))) ?_)
      refine r_call awake4_ok call11 rfl rfl trivial rfl rfl rfl rfl ?_
      repeat (first
        | refine thenA_normal ?_
        | refine awp_ret ?_
        | refine r_done ?_
        | (refine r_id ?_; first
          | refine r_ev tab_ok rfl rfl rfl rfl (by first | exact trivial | exact ⟨by omega, by omega⟩ | omega | exact ⟨by omega, by omega, by omega, by omega⟩ | exact Nat.le_of_ble_eq_true rfl) rfl ?_)
        | refine ret1 (by first | exact .inl rfl | exact .inr rfl) rfl rfl rfl ?_
        | refine r_pick_t rfl rfl (congrArg (fun b => AV.val (.bool b)) (decide_eq_true (by omega))) rfl rfl rfl rfl ?_)
      exact Sub.refl _
  · rw [hbE]
    rcases h55 with ⟨h5, hlE, hl0⟩ | ⟨h5, hlE⟩
    · rw [hlE, hl0]
      clear hlm hbo hbm hbl hRm hRl hnl hz hbe hS h3 h3'
      repeat (first
        | refine awp_seq ?_
        | refine thenA_normal ?_
        | refine a_region ?_
        | refine awp_skip ?_
        | refine r_done ?_
        | (refine r_id ?_; first
          | refine r_ev tab_ok rfl rfl rfl rfl (by first | exact trivial | exact ⟨by omega, by omega⟩ | omega | exact ⟨by omega, by omega, by omega, by omega⟩ | exact Nat.le_of_ble_eq_true rfl) rfl ?_
          | refine r_pick_f rfl rfl rfl rfl rfl rfl rfl ?_
          | refine r_ev_on tab_ok rfl rfl rfl rfl rfl rfl (by first | exact trivial | exact ⟨by omega, by omega⟩ | omega) rfl ?_)
        | refine awp_cond_f rfl ?_
        | refine r_g rfl rfl rfl ?_
        | refine r_g rfl rfl (congrArg (fun b => AV.val (.bool b)) (decide_eq_true (by omega))) ?_
        | refine r_pick_t rfl rfl (congrArg (fun b => AV.val (.bool b)) (decide_eq_true (by omega))) rfl rfl rfl rfl ?_
        | refine r_pick_f rfl rfl (congrArg (fun b => AV.val (.bool b)) (decide_eq_false (by omega))) rfl rfl rfl rfl ?_
        | refine r_off rfl rfl (congrArg (fun b => AV.val (.bool b)) (decide_eq_false (by omega))) rfl rfl rfl ?_
        | refine r_offu rfl rfl rfl rfl rfl rfl ?_)
      try refine awp_cond_p rfl (fun _ => ?_) (fun h => (h (by omega)).elim)
      repeat (first
        | refine awp_seq ?_
        | refine a_region ?_
        | (refine r_id ?_; first
          | refine r_ev tab_ok rfl rfl rfl rfl (by first | exact trivial | exact ⟨by omega, by omega⟩ | omega | exact ⟨by omega, by omega, by omega, by omega⟩ | exact Nat.le_of_ble_eq_true rfl) rfl ?_
          | refine r_pick_t rfl rfl rfl rfl rfl rfl rfl ?_
          | refine r_len_on tab_ok rfl rfl rfl rfl rfl rfl rfl rfl rfl ?_
          | refine r_ev_on tab_ok rfl rfl rfl rfl rfl rfl (by first | exact trivial | exact ⟨by omega, by omega⟩ | omega) rfl ?_)
        | refine r_g rfl rfl rfl ?_)
      refine r_call awake4_ok call11 rfl rfl trivial rfl rfl rfl rfl ?_
      repeat (first
        | refine thenA_normal ?_
        | refine awp_ret ?_
        | refine thenA_ret ?_
        | refine r_done ?_
        | (refine r_id ?_; first
          | refine r_ev tab_ok rfl rfl rfl rfl (by first | exact trivial | exact ⟨by omega, by omega⟩ | omega | exact ⟨by omega, by omega, by omega, by omega⟩ | exact Nat.le_of_ble_eq_true rfl) rfl ?_
          | refine r_pick_t rfl rfl rfl rfl rfl rfl rfl ?_)
        | refine ret1 (by first | exact .inl rfl | exact .inr rfl) rfl rfl rfl ?_)
      exact Sub.refl _
    · have hnl2 : (lmR a i).length = i := by rw [hRl, if_neg h5]
      rw [hlE]
      clear hlm hbo hbm hbl hRm hRl hnl hz hbe hS h3 h3'
      repeat (first
        | refine awp_seq ?_
        | refine thenA_normal ?_
        | refine a_region ?_
        | refine awp_skip ?_
        | refine r_done ?_
        | (refine r_id ?_; first
          | refine r_ev tab_ok rfl rfl rfl rfl (by first | exact trivial | exact ⟨by omega, by omega⟩ | omega | exact ⟨by omega, by omega, by omega, by omega⟩ | exact Nat.le_of_ble_eq_true rfl) rfl ?_
          | refine r_pick_f rfl rfl rfl rfl rfl rfl rfl ?_
          | refine r_ev_on tab_ok rfl rfl rfl rfl rfl rfl (by first | exact trivial | exact ⟨by omega, by omega⟩ | omega) rfl ?_)
        | refine awp_cond_f rfl ?_
        | refine r_g rfl rfl rfl ?_
        | refine r_g rfl rfl (congrArg (fun b => AV.val (.bool b)) (decide_eq_true (by omega))) ?_
        | refine r_pick_t rfl rfl (congrArg (fun b => AV.val (.bool b)) (decide_eq_true (by omega))) rfl rfl rfl rfl ?_
        | refine r_pick_f rfl rfl (congrArg (fun b => AV.val (.bool b)) (decide_eq_false (by omega))) rfl rfl rfl rfl ?_
        | refine r_off rfl rfl (congrArg (fun b => AV.val (.bool b)) (decide_eq_false (by omega))) rfl rfl rfl ?_
        | refine r_offu rfl rfl rfl rfl rfl rfl ?_)
      try refine awp_cond_p rfl (fun h => (h5 (by omega)).elim) (fun _ => ?_)
      repeat (first
        | refine awp_seq ?_
        | refine a_region ?_
        | refine awp_skip ?_
        | (refine r_id ?_; first
          | refine r_ev tab_ok rfl rfl rfl rfl (by first | exact trivial | exact ⟨by omega, by omega⟩ | omega | exact ⟨by omega, by omega, by omega, by omega⟩ | exact Nat.le_of_ble_eq_true rfl) rfl ?_
          | refine r_pick_t rfl rfl rfl rfl rfl rfl rfl ?_
          | refine r_len_on tab_ok rfl rfl rfl rfl rfl rfl rfl rfl rfl ?_
          | refine r_ev_on tab_ok rfl rfl rfl rfl rfl rfl (by first | exact trivial | exact ⟨by omega, by omega⟩ | omega) rfl ?_)
        | refine r_g rfl rfl (congrArg (fun b => AV.val (.bool b)) (decide_eq_true (by omega))) ?_)
      refine r_call awake4_ok call11 rfl rfl trivial rfl rfl rfl rfl ?_
      repeat (first
        | refine thenA_normal ?_
        | refine awp_ret ?_
        | refine r_done ?_
        | (refine r_id ?_; first
          | refine r_ev tab_ok rfl rfl rfl rfl (by first | exact trivial | exact ⟨by omega, by omega⟩ | omega | exact ⟨by omega, by omega, by omega, by omega⟩ | exact Nat.le_of_ble_eq_true rfl) rfl ?_)
        | refine ret1 (by first | exact .inl rfl | exact .inr rfl) rfl rfl rfl ?_
        | refine r_pick_t rfl rfl (congrArg (fun b => AV.val (.bool b)) (decide_eq_true (by omega))) rfl rfl rfl rfl ?_)
      exact Sub.refl _
end Go.Proofs.YtiolnmfaeenlmaaGreatDoor
