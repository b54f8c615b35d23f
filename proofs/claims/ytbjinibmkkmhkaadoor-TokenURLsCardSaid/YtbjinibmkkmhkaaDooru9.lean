/- The law TokenURLs, walked. -/
import Derived.Test.YtbjinibmkkmhkaaDooru7
import Derived.Test.YtbjinibmkkmhkaaDooru8
namespace Go.Proofs.YtbjinibmkkmhkaaDoor
open Go Go.RowKit
set_option maxRecDepth 20000

theorem bl_size (n : Nat) : (⟨(blF n).toArray⟩ : ByteArray).size ≤ 4 := by
  rw [sz_list, blF, List.length_take]; simp only [List.length_cons, List.length_nil]; omega
set_option maxHeartbeats 16000000 in
theorem lawURLs (s : ByteArray) (b : Int) (kind : Int) (hs : s.size ≤ 9223372036854775807) : PCalls Tryd.prog 8 [.val (.string s), .val (.int .i64 b), .val (.int .i64 kind)] (.val (.bool true)) := by
  refine p_start Tryd.func8 Tryd.ntmps8 rfl rfl rfl fun S w => ?_
  have hsz := str_size s
  repeat (first | refine awp_seq ?_ | refine thenA_normal ?_ | refine a_region ?_ | refine r_done ?_ | (refine r_id ?_; first | refine r_ev tab_ok rfl rfl rfl rfl (by first | exact trivial | exact ⟨by omega, by omega⟩ | omega | exact ⟨by omega, by omega, by omega, by omega⟩ | exact Nat.le_of_ble_eq_true rfl) rfl ?_ | refine r_ev_cnd tab_ok rfl rfl rfl rfl rfl rfl (by first | exact fun _ => rfl | exact cs1 | exact cs2 | exact cs3) (by first | exact fun _ => trivial | (intro h; simp at h; first | exact ⟨by omega, by omega⟩ | omega)) rfl ?_ | refine r_or rfl rfl rfl rfl rfl rfl rfl rfl ?_))
  refine awp_cond rfl (fun h => ?_) (fun h => ?_)
  · repeat (first | refine awp_seq ?_ | refine a_region ?_)
    refine r_call awake2_ok call12 rfl rfl trivial rfl rfl rfl rfl ?_
    repeat (first | refine thenA_normal ?_ | refine awp_ret ?_ | refine thenA_ret ?_ | refine r_done ?_ | (refine r_id ?_; first | refine r_ev tab_ok rfl rfl rfl rfl (by first | exact trivial | exact ⟨by omega, by omega⟩ | omega | exact ⟨by omega, by omega, by omega, by omega⟩ | exact Nat.le_of_ble_eq_true rfl) rfl ?_) | refine ret1 (by first | exact .inl rfl | exact .inr rfl) rfl rfl rfl ?_)
    exact Sub.refl _
  have hb : s.size ≤ 30 ∧ 0 ≤ b ∧ b ≤ 4 := by
    simp only [Bool.or_eq_false_iff, decide_eq_false_iff_not] at h
    omega
  clear h
  repeat (first | refine awp_seq ?_ | refine thenA_normal ?_ | refine awp_block ?_ | refine a_region ?_ | refine awp_skip ?_ | refine r_done ?_ | (refine r_id ?_; first | refine r_ev tab_ok rfl rfl rfl rfl (by first | exact trivial | exact ⟨by omega, by omega⟩ | omega | exact ⟨by omega, by omega, by omega, by omega⟩ | exact Nat.le_of_ble_eq_true rfl) rfl ?_))
  refine a_loop (σ := {i : Nat // i ≤ s.data.toList.length ∧ (s.data.toList.take i).all ltB = true}) (fun _ => []) (fun x => [(0, .val (.string s)), (1, .val (.int .i64 b)), (2, .val (.int .i64 kind)), (7, .val (.int .i64 x.1))]) (fun x => s.data.toList.length - x.1) ⟨0, Nat.zero_le _, rfl⟩ (fits_of rfl (by repeat' first | exact trivial | exact Sub.refl _ | exact rfl | apply And.intro)) ?_
  rintro ⟨j, hj, hall⟩
  dsimp only
  repeat (first | refine awp_seq ?_ | refine thenA_normal ?_ | refine a_region ?_ | refine r_done ?_ | (refine r_id ?_; first | refine r_ev tab_ok rfl rfl rfl rfl (by first | exact trivial | exact ⟨by omega, by omega⟩ | omega | exact ⟨by omega, by omega, by omega, by omega⟩ | exact Nat.le_of_ble_eq_true rfl) rfl ?_))
  refine awp_cond_p rfl (fun hlt2 => ?_) (fun hge2 => ?_)
  · have hj' : j < s.data.toList.length := by omega
    have hgb : s.data.toList.getD ((j : Nat) : Int).toNat 0 = s.data.toList[j] := by rw [Int.toNat_natCast, getD_byte hj']
    repeat (first | refine awp_seq ?_ | refine thenA_normal ?_ | refine awp_block ?_ | refine a_region ?_ | refine awp_skip ?_ | refine r_done ?_ | (refine r_id ?_; first | refine r_ev tab_ok rfl rfl rfl rfl (by first | exact trivial | exact ⟨by omega, by omega⟩ | omega | exact ⟨by omega, by omega, by omega, by omega⟩ | exact Nat.le_of_ble_eq_true rfl) rfl ?_ | refine r_ev_cnd tab_ok rfl rfl rfl rfl rfl rfl (by first | exact fun _ => rfl | exact cs1 | exact cs2 | exact cs3) (by first | exact fun _ => trivial | (intro h; simp at h; first | exact ⟨by omega, by omega⟩ | omega)) rfl ?_ | refine r_or rfl rfl rfl rfl rfl rfl rfl rfl ?_))
    rw [hgb]
    refine awp_cond rfl (fun h3 => ?_) (fun h3 => ?_)
    · repeat (first | refine awp_seq ?_ | refine a_region ?_)
      refine r_call awake2_ok call12 rfl rfl trivial rfl rfl rfl rfl ?_
      repeat (first | refine thenA_normal ?_ | refine awp_ret ?_ | refine thenA_ret ?_ | refine blockA_ret ?_ | refine r_done ?_ | (refine r_id ?_; first | refine r_ev tab_ok rfl rfl rfl rfl (by first | exact trivial | exact ⟨by omega, by omega⟩ | omega | exact ⟨by omega, by omega, by omega, by omega⟩ | exact Nat.le_of_ble_eq_true rfl) rfl ?_) | refine ret1 (by first | exact .inl rfl | exact .inr rfl) rfl rfl rfl ?_)
      exact Sub.refl _
    · have hb : ltB s.data.toList[j] = true := by
        rw [Bool.or_eq_false_iff, decide_eq_false_iff_not, decide_eq_false_iff_not] at h3
        rw [ltB, Bool.and_eq_true, decide_eq_true_eq, decide_eq_true_eq]
        omega
      repeat (first | refine thenA_normal ?_ | refine a_region ?_ | refine awp_skip ?_ | refine r_done ?_ | (refine r_id ?_; first | refine r_ev tab_ok rfl rfl rfl rfl (by first | exact trivial | exact ⟨by omega, by omega⟩ | omega | exact ⟨by omega, by omega, by omega, by omega⟩ | exact Nat.le_of_ble_eq_true rfl) rfl ?_))
      exact ⟨⟨j + 1, hj', by
        rw [List.take_add_one, List.getElem?_eq_getElem hj', List.all_append, hall, Bool.true_and]
        show (ltB s.data.toList[j] && true) = true
        rw [hb]; rfl⟩, by dsimp only; omega, fits_of rfl (by repeat' first | exact trivial | exact Sub.refl _ | exact rfl | apply And.intro)⟩
  have hje : j = s.data.toList.length := by omega
  subst hje
  rw [List.take_length] at hall
  clear hge2
  obtain ⟨n, rfl⟩ : ∃ n : Nat, b = n := ⟨b.toNat, by omega⟩
  repeat (first | refine awp_seq ?_ | refine a_region ?_ | refine awp_exit ?_ | (refine r_id ?_; first | refine r_ev tab_ok rfl rfl rfl rfl (by first | exact trivial | exact ⟨by omega, by omega⟩ | omega | exact ⟨by omega, by omega, by omega, by omega⟩ | exact Nat.le_of_ble_eq_true rfl) rfl ?_))
  refine r_scutE (a := none) (b := some (n : Int)) (e := ⟨(blF n).toArray⟩) tab_ok rfl rfl rfl rfl rfl rfl rfl rfl (by show (0 : Int) ≤ 0 ∧ 0 ≤ (n : Int) ∧ (n : Int) ≤ 4; omega) (by
    have : n = 0 ∨ n = 1 ∨ n = 2 ∨ n = 3 ∨ n = 4 := by omega
    rcases this with rfl | rfl | rfl | rfl | rfl <;> rfl) rfl ?_
  have hu0 := url0 n s.data.toList hall
  have hu1 := url1 n s.data.toList hall
  have hu2 := url2 n s.data.toList hall
  have hu3 := url3 s.data.toList hall
  have hu4 := url4 n s.data.toList hall
  have hu5 := url5 s.data.toList hall
  have hL : s = ⟨s.data.toList.toArray⟩ := rfl
  rw [← hL] at hu0 hu1 hu4
  have h41 : (⟨(s.data.toList ++ 41 :: s.data.toList).toArray⟩ : ByteArray) = s ++ (⟨#[41]⟩ : ByteArray) ++ s := by
    rw [show (⟨#[41]⟩ : ByteArray) = ⟨[41].toArray⟩ from rfl, hL, cat_l, cat_l]; simp
  rw [h41] at hu5
  have hbz := bl_size n
  have hbl : (blF n).length ≤ 4 := by rw [← sz_list]; exact hbz
  generalize blF n = B at hu0 hu1 hu2 hu4 hbz hbl ⊢
  have hc0 : (⟨#[85, 114, 76, 40]⟩ : ByteArray) ++ (⟨B.toArray⟩ : ByteArray) ++ s ++ (⟨B.toArray⟩ : ByteArray) ++ (⟨#[41, 122]⟩ : ByteArray) = ⟨(UrLB ++ (B ++ (s.data.toList ++ (B ++ [41, 122])))).toArray⟩ := by
    rw [show (⟨#[85, 114, 76, 40]⟩ : ByteArray) = ⟨UrLB.toArray⟩ from rfl, show (⟨#[41, 122]⟩ : ByteArray) = ⟨[41, 122].toArray⟩ from rfl, hL, cat_l, cat_l, cat_l, cat_l]; simp
  have hc1 : (⟨#[117, 114, 108, 40]⟩ : ByteArray) ++ (⟨B.toArray⟩ : ByteArray) ++ s ++ (⟨B.toArray⟩ : ByteArray) = ⟨(urlB ++ (B ++ (s.data.toList ++ (B ++ [])))).toArray⟩ := by
    rw [show (⟨#[117, 114, 108, 40]⟩ : ByteArray) = ⟨urlB.toArray⟩ from rfl, hL, cat_l, cat_l, cat_l]; simp
  have hc2 : (⟨#[117, 114, 108, 40]⟩ : ByteArray) ++ (⟨B.toArray⟩ : ByteArray) ++ (⟨#[97]⟩ : ByteArray) ++ s ++ (⟨#[32, 98, 41, 122]⟩ : ByteArray) = ⟨(urlB ++ (B ++ (97 :: (s.data.toList ++ [32, 98, 41, 122])))).toArray⟩ := by
    rw [show (⟨#[117, 114, 108, 40]⟩ : ByteArray) = ⟨urlB.toArray⟩ from rfl, show (⟨#[97]⟩ : ByteArray) = ⟨[97].toArray⟩ from rfl, show (⟨#[32, 98, 41, 122]⟩ : ByteArray) = ⟨[32, 98, 41, 122].toArray⟩ from rfl, hL, cat_l, cat_l, cat_l, cat_l]; simp
  have hc3 : (⟨#[117, 114, 108, 40, 97]⟩ : ByteArray) ++ s ++ (⟨#[34, 98, 92, 41, 32, 99, 41, 122]⟩ : ByteArray) = ⟨(urlB ++ (97 :: (s.data.toList ++ [34, 98, 92, 41, 32, 99, 41, 122]))).toArray⟩ := by
    rw [show (⟨#[117, 114, 108, 40, 97]⟩ : ByteArray) = ⟨(urlB ++ [97]).toArray⟩ from rfl, show (⟨#[34, 98, 92, 41, 32, 99, 41, 122]⟩ : ByteArray) = ⟨[34, 98, 92, 41, 32, 99, 41, 122].toArray⟩ from rfl, hL, cat_l, cat_l]; simp
  have hc4 : (⟨#[117, 114, 108, 40]⟩ : ByteArray) ++ (⟨B.toArray⟩ : ByteArray) ++ (⟨#[39]⟩ : ByteArray) ++ s ++ (⟨#[39, 41, 122]⟩ : ByteArray) = ⟨(urlB ++ (B ++ (39 :: (s.data.toList ++ [39, 41, 122])))).toArray⟩ := by
    rw [show (⟨#[117, 114, 108, 40]⟩ : ByteArray) = ⟨urlB.toArray⟩ from rfl, show (⟨#[39]⟩ : ByteArray) = ⟨[39].toArray⟩ from rfl, show (⟨#[39, 41, 122]⟩ : ByteArray) = ⟨[39, 41, 122].toArray⟩ from rfl, hL, cat_l, cat_l, cat_l, cat_l]; simp
  have hc5 : (⟨#[117, 114, 108, 40]⟩ : ByteArray) ++ s ++ (⟨#[92, 50, 57, 32]⟩ : ByteArray) ++ s ++ (⟨#[41, 122]⟩ : ByteArray) = ⟨(urlB ++ (s.data.toList ++ (92 :: 50 :: 57 :: 32 :: (s.data.toList ++ [41, 122])))).toArray⟩ := by
    rw [show (⟨#[117, 114, 108, 40]⟩ : ByteArray) = ⟨urlB.toArray⟩ from rfl, show (⟨#[92, 50, 57, 32]⟩ : ByteArray) = ⟨[92, 50, 57, 32].toArray⟩ from rfl, show (⟨#[41, 122]⟩ : ByteArray) = ⟨[41, 122].toArray⟩ from rfl, hL, cat_l, cat_l, cat_l, cat_l]; simp
  have hz : ∀ l : List UInt8, l.length ≤ 900 → (⟨l.toArray⟩ : ByteArray).size ≤ 549755813888 := fun l h => by rw [sz_list]; omega
  have hq1 : (⟨#[85, 114, 76, 40]⟩ : ByteArray).size = 4 := rfl
  have hq2 : (⟨#[117, 114, 108, 40]⟩ : ByteArray).size = 4 := rfl
  have hq3 : (⟨#[41, 122]⟩ : ByteArray).size = 2 := rfl
  have hq4 : (⟨#[97]⟩ : ByteArray).size = 1 := rfl
  have hq5 : (⟨#[32, 98, 41, 122]⟩ : ByteArray).size = 4 := rfl
  have hq6 : (⟨#[117, 114, 108, 40, 97]⟩ : ByteArray).size = 5 := rfl
  have hq7 : (⟨#[34, 98, 92, 41, 32, 99, 41, 122]⟩ : ByteArray).size = 8 := rfl
  have hq8 : (⟨#[39]⟩ : ByteArray).size = 1 := rfl
  have hq9 : (⟨#[39, 41, 122]⟩ : ByteArray).size = 3 := rfl
  have hqa : (⟨#[92, 50, 57, 32]⟩ : ByteArray).size = 4 := rfl
  have hqb : (⟨#[41]⟩ : ByteArray).size = 1 := rfl
  have hul : urlB.length = 4 ∧ UrLB.length = 4 := ⟨rfl, rfl⟩
  repeat (first | refine awp_seq ?_ | refine a_region ?_ | refine r_done ?_ | (refine r_id ?_; first | refine r_ev tab_ok rfl rfl rfl rfl (by first | exact trivial | exact ⟨by omega, by omega⟩ | omega | exact ⟨by omega, by omega, by omega, by omega⟩ | exact Nat.le_of_ble_eq_true rfl) rfl ?_ | refine r_wr tab_ok rfl rfl rfl rfl rfl ?_ | refine r_st tab_ok rfl rfl rfl rfl ?_ | refine r_build tab_ok rfl rfl rfl rfl rfl rfl ?_))
  refine r_call (round_ok kind 6 (by decide) (by decide)) call21 rfl rfl ⟨Sub.refl _, Sub.refl _, trivial⟩ rfl rfl rfl rfl ?_
  have hk : kind % 6 = 0 ∨ kind % 6 = 1 ∨ kind % 6 = 2 ∨ kind % 6 = 3 ∨ kind % 6 = 4 ∨ kind % 6 = 5 := by omega
  generalize kind % 6 = k at hk
  rcases hk with rfl | rfl | rfl | rfl | rfl | rfl
  · repeat (first | refine awp_seq ?_ | refine thenA_normal ?_ | refine awp_block ?_ | refine a_region ?_ | refine r_done ?_ | (refine r_id ?_; first | refine r_ev tab_ok rfl rfl rfl rfl (by first | exact trivial | exact ⟨by omega, by omega⟩ | omega | exact ⟨by omega, by omega, by omega, by omega⟩ | exact Nat.le_of_ble_eq_true rfl) rfl ?_) | refine awp_cond_t rfl ?_ | refine r_ev tab_ok rfl rfl rfl rfl (by simp only [ByteArray.size_append]; omega) rfl ?_)
    refine r_call (show PCalls Tryd.prog 19 [.val (.string ((⟨#[85, 114, 76, 40]⟩ : ByteArray) ++ (⟨B.toArray⟩ : ByteArray) ++ s ++ (⟨B.toArray⟩ : ByteArray) ++ (⟨#[41, 122]⟩ : ByteArray)))] (.sl 6 (([tkK 7 s, tkK 1 ⟨#[122]⟩] : List Tk).map tD)) by
      rw [hc0, ← hu0]; exact all2_ok _ (hz _ (by simp [hul]; omega))) call19 rfl rfl ⟨Sub.refl _, trivial⟩ rfl rfl rfl rfl ?_
    repeat (first | refine awp_seq ?_ | refine a_draw1 mixed_ok (by kernel_rfl) ?_ | refine r_done ?_ | (refine r_id ?_; first | refine r_len tab_ok rfl rfl rfl rfl rfl rfl rfl ?_ | refine r_ev tab_ok rfl rfl rfl rfl (by first | exact trivial | exact ⟨by omega, by omega⟩ | omega | exact ⟨by omega, by omega, by omega, by omega⟩ | exact Nat.le_of_ble_eq_true rfl) rfl ?_ | refine r_idxd tab_ok rfl rfl rfl rfl rfl rfl rfl (by decide) rfl rfl rfl ?_ | refine r_ev_on tab_ok rfl rfl rfl rfl rfl rfl (by first | exact trivial | exact ⟨by omega, by omega⟩ | omega) rfl ?_ | refine r_build tab_ok rfl rfl rfl rfl rfl rfl ?_) | refine r_g rfl rfl rfl ?_)
    refine r_eqT (c := tkK 7 s) (d := tkK 7 s) rfl rfl rfl rfl rfl rfl rfl ?_
    rw [eqT_self]
    repeat (first | (refine r_id ?_; first | refine r_ev tab_ok rfl rfl rfl rfl (by first | exact trivial | exact ⟨by omega, by omega⟩ | omega | exact ⟨by omega, by omega, by omega, by omega⟩ | exact Nat.le_of_ble_eq_true rfl) rfl ?_ | refine r_idxd tab_ok rfl rfl rfl rfl rfl rfl rfl (by decide) rfl rfl rfl ?_ | refine r_pick_t rfl rfl rfl rfl rfl rfl rfl ?_ | refine r_ev_on tab_ok rfl rfl rfl rfl rfl rfl (by first | exact trivial | exact ⟨by omega, by omega⟩ | omega) rfl ?_ | refine r_ld_on tab_ok rfl rfl rfl rfl rfl rfl rfl ?_) | refine r_g rfl rfl rfl ?_)
    refine r_eqT (c := tkK 1 ⟨#[122]⟩) (d := tkK 1 ⟨#[122]⟩) rfl rfl rfl rfl rfl rfl rfl ?_
    repeat (first | (refine r_id ?_; first | refine r_ev tab_ok rfl rfl rfl rfl (by first | exact trivial | exact ⟨by omega, by omega⟩ | omega | exact ⟨by omega, by omega, by omega, by omega⟩ | exact Nat.le_of_ble_eq_true rfl) rfl ?_ | refine r_pick_t rfl rfl rfl rfl rfl rfl rfl ?_) | refine r_g rfl rfl rfl ?_)
    refine r_call awake2_ok call12 rfl rfl trivial rfl rfl rfl rfl ?_
    repeat (first | refine thenA_normal ?_ | refine awp_ret ?_ | refine thenA_ret ?_ | refine blockA_ret ?_ | refine r_done' ?_ | (refine r_id ?_; first | refine r_ev tab_ok rfl rfl rfl rfl (by first | exact trivial | exact ⟨by omega, by omega⟩ | omega | exact ⟨by omega, by omega, by omega, by omega⟩ | exact Nat.le_of_ble_eq_true rfl) rfl ?_ | refine r_pick_t rfl rfl rfl rfl rfl rfl rfl ?_) | refine ret1 (by first | exact .inl rfl | exact .inr rfl) rfl rfl rfl ?_)
    exact Sub.refl _
  · repeat (first | refine awp_seq ?_ | refine thenA_normal ?_ | refine awp_block ?_ | refine a_region ?_ | refine r_done ?_ | (refine r_id ?_; first | refine r_ev tab_ok rfl rfl rfl rfl (by first | exact trivial | exact ⟨by omega, by omega⟩ | omega | exact ⟨by omega, by omega, by omega, by omega⟩ | exact Nat.le_of_ble_eq_true rfl) rfl ?_) | refine awp_cond_t rfl ?_ | refine awp_cond_f rfl ?_ | refine r_ev tab_ok rfl rfl rfl rfl (by simp only [ByteArray.size_append]; omega) rfl ?_)
    refine r_call (show PCalls Tryd.prog 19 [.val (.string ((⟨#[117, 114, 108, 40]⟩ : ByteArray) ++ (⟨B.toArray⟩ : ByteArray) ++ s ++ (⟨B.toArray⟩ : ByteArray)))] (.sl 6 (([tkK 7 s] : List Tk).map tD)) by
      rw [hc1, ← hu1]; exact all2_ok _ (hz _ (by simp [hul]; omega))) call19 rfl rfl ⟨Sub.refl _, trivial⟩ rfl rfl rfl rfl ?_
    repeat (first | refine awp_seq ?_ | refine a_region ?_ | refine r_done ?_ | (refine r_id ?_; first | refine r_len tab_ok rfl rfl rfl rfl rfl rfl rfl ?_ | refine r_ev tab_ok rfl rfl rfl rfl (by first | exact trivial | exact ⟨by omega, by omega⟩ | omega | exact ⟨by omega, by omega, by omega, by omega⟩ | exact Nat.le_of_ble_eq_true rfl) rfl ?_ | refine r_idxd tab_ok rfl rfl rfl rfl rfl rfl rfl (by decide) rfl rfl rfl ?_ | refine r_ev_on tab_ok rfl rfl rfl rfl rfl rfl (by first | exact trivial | exact ⟨by omega, by omega⟩ | omega) rfl ?_ | refine r_build tab_ok rfl rfl rfl rfl rfl rfl ?_) | refine r_g rfl rfl rfl ?_)
    refine r_eqT (c := tkK 7 s) (d := tkK 7 s) rfl rfl rfl rfl rfl rfl rfl ?_
    rw [eqT_self]
    repeat (first | (refine r_id ?_; first | refine r_ev tab_ok rfl rfl rfl rfl (by first | exact trivial | exact ⟨by omega, by omega⟩ | omega | exact ⟨by omega, by omega, by omega, by omega⟩ | exact Nat.le_of_ble_eq_true rfl) rfl ?_ | refine r_pick_t rfl rfl rfl rfl rfl rfl rfl ?_) | refine r_g rfl rfl rfl ?_)
    refine r_call awake2_ok call12 rfl rfl trivial rfl rfl rfl rfl ?_
    repeat (first | refine thenA_normal ?_ | refine awp_ret ?_ | refine thenA_ret ?_ | refine blockA_ret ?_ | refine r_done ?_ | (refine r_id ?_; first | refine r_ev tab_ok rfl rfl rfl rfl (by first | exact trivial | exact ⟨by omega, by omega⟩ | omega | exact ⟨by omega, by omega, by omega, by omega⟩ | exact Nat.le_of_ble_eq_true rfl) rfl ?_ | refine r_pick_t rfl rfl rfl rfl rfl rfl rfl ?_) | refine ret1 (by first | exact .inl rfl | exact .inr rfl) rfl rfl rfl ?_)
    exact Sub.refl _
  · repeat (first | refine awp_seq ?_ | refine thenA_normal ?_ | refine awp_block ?_ | refine a_region ?_ | refine r_done ?_ | (refine r_id ?_; first | refine r_ev tab_ok rfl rfl rfl rfl (by first | exact trivial | exact ⟨by omega, by omega⟩ | omega | exact ⟨by omega, by omega, by omega, by omega⟩ | exact Nat.le_of_ble_eq_true rfl) rfl ?_) | refine awp_cond_t rfl ?_ | refine awp_cond_f rfl ?_ | refine r_ev tab_ok rfl rfl rfl rfl (by simp only [ByteArray.size_append]; omega) rfl ?_)
    refine r_call (show PCalls Tryd.prog 19 [.val (.string ((⟨#[117, 114, 108, 40]⟩ : ByteArray) ++ (⟨B.toArray⟩ : ByteArray) ++ (⟨#[97]⟩ : ByteArray) ++ s ++ (⟨#[32, 98, 41, 122]⟩ : ByteArray)))] (.sl 6 (([tkK 8 ⟨#[]⟩, tkK 1 ⟨#[122]⟩] : List Tk).map tD)) by
      rw [hc2, ← hu2]; exact all2_ok _ (hz _ (by simp [hul]; omega))) call19 rfl rfl ⟨Sub.refl _, trivial⟩ rfl rfl rfl rfl ?_
    repeat (first | refine awp_seq ?_ | refine a_draw1 mixed_ok (by kernel_rfl) ?_ | refine r_done ?_ | (refine r_id ?_; first | refine r_len tab_ok rfl rfl rfl rfl rfl rfl rfl ?_ | refine r_ev tab_ok rfl rfl rfl rfl (by first | exact trivial | exact ⟨by omega, by omega⟩ | omega | exact ⟨by omega, by omega, by omega, by omega⟩ | exact Nat.le_of_ble_eq_true rfl) rfl ?_ | refine r_idxd tab_ok rfl rfl rfl rfl rfl rfl rfl (by decide) rfl rfl rfl ?_ | refine r_ev_on tab_ok rfl rfl rfl rfl rfl rfl (by first | exact trivial | exact ⟨by omega, by omega⟩ | omega) rfl ?_ | refine r_build tab_ok rfl rfl rfl rfl rfl rfl ?_) | refine r_g rfl rfl rfl ?_)
    refine r_eqT (c := tkK 8 ⟨#[]⟩) (d := tkK 8 ⟨#[]⟩) rfl rfl rfl rfl rfl rfl rfl ?_
    repeat (first | (refine r_id ?_; first | refine r_ev tab_ok rfl rfl rfl rfl (by first | exact trivial | exact ⟨by omega, by omega⟩ | omega | exact ⟨by omega, by omega, by omega, by omega⟩ | exact Nat.le_of_ble_eq_true rfl) rfl ?_ | refine r_idxd tab_ok rfl rfl rfl rfl rfl rfl rfl (by decide) rfl rfl rfl ?_ | refine r_pick_t rfl rfl rfl rfl rfl rfl rfl ?_ | refine r_ev_on tab_ok rfl rfl rfl rfl rfl rfl (by first | exact trivial | exact ⟨by omega, by omega⟩ | omega) rfl ?_ | refine r_ld_on tab_ok rfl rfl rfl rfl rfl rfl rfl ?_) | refine r_g rfl rfl rfl ?_)
    refine r_eqT (c := tkK 1 ⟨#[122]⟩) (d := tkK 1 ⟨#[122]⟩) rfl rfl rfl rfl rfl rfl rfl ?_
    repeat (first | (refine r_id ?_; first | refine r_ev tab_ok rfl rfl rfl rfl (by first | exact trivial | exact ⟨by omega, by omega⟩ | omega | exact ⟨by omega, by omega, by omega, by omega⟩ | exact Nat.le_of_ble_eq_true rfl) rfl ?_ | refine r_pick_t rfl rfl rfl rfl rfl rfl rfl ?_) | refine r_g rfl rfl rfl ?_)
    refine r_call awake2_ok call12 rfl rfl trivial rfl rfl rfl rfl ?_
    repeat (first | refine thenA_normal ?_ | refine awp_ret ?_ | refine thenA_ret ?_ | refine blockA_ret ?_ | refine r_done' ?_ | (refine r_id ?_; first | refine r_ev tab_ok rfl rfl rfl rfl (by first | exact trivial | exact ⟨by omega, by omega⟩ | omega | exact ⟨by omega, by omega, by omega, by omega⟩ | exact Nat.le_of_ble_eq_true rfl) rfl ?_ | refine r_pick_t rfl rfl rfl rfl rfl rfl rfl ?_) | refine ret1 (by first | exact .inl rfl | exact .inr rfl) rfl rfl rfl ?_)
    exact Sub.refl _
  · repeat (first | refine awp_seq ?_ | refine thenA_normal ?_ | refine awp_block ?_ | refine a_region ?_ | refine r_done ?_ | (refine r_id ?_; first | refine r_ev tab_ok rfl rfl rfl rfl (by first | exact trivial | exact ⟨by omega, by omega⟩ | omega | exact ⟨by omega, by omega, by omega, by omega⟩ | exact Nat.le_of_ble_eq_true rfl) rfl ?_) | refine awp_cond_t rfl ?_ | refine awp_cond_f rfl ?_ | refine r_ev tab_ok rfl rfl rfl rfl (by simp only [ByteArray.size_append]; omega) rfl ?_)
    refine r_call (show PCalls Tryd.prog 19 [.val (.string ((⟨#[117, 114, 108, 40, 97]⟩ : ByteArray) ++ s ++ (⟨#[34, 98, 92, 41, 32, 99, 41, 122]⟩ : ByteArray)))] (.sl 6 (([tkK 8 ⟨#[]⟩, tkK 1 ⟨#[122]⟩] : List Tk).map tD)) by
      rw [hc3, ← hu3]; exact all2_ok _ (hz _ (by simp [hul]; omega))) call19 rfl rfl ⟨Sub.refl _, trivial⟩ rfl rfl rfl rfl ?_
    repeat (first | refine awp_seq ?_ | refine a_draw1 mixed_ok (by kernel_rfl) ?_ | refine r_done ?_ | (refine r_id ?_; first | refine r_len tab_ok rfl rfl rfl rfl rfl rfl rfl ?_ | refine r_ev tab_ok rfl rfl rfl rfl (by first | exact trivial | exact ⟨by omega, by omega⟩ | omega | exact ⟨by omega, by omega, by omega, by omega⟩ | exact Nat.le_of_ble_eq_true rfl) rfl ?_ | refine r_idxd tab_ok rfl rfl rfl rfl rfl rfl rfl (by decide) rfl rfl rfl ?_ | refine r_ev_on tab_ok rfl rfl rfl rfl rfl rfl (by first | exact trivial | exact ⟨by omega, by omega⟩ | omega) rfl ?_ | refine r_build tab_ok rfl rfl rfl rfl rfl rfl ?_) | refine r_g rfl rfl rfl ?_)
    refine r_eqT (c := tkK 8 ⟨#[]⟩) (d := tkK 8 ⟨#[]⟩) rfl rfl rfl rfl rfl rfl rfl ?_
    repeat (first | (refine r_id ?_; first | refine r_ev tab_ok rfl rfl rfl rfl (by first | exact trivial | exact ⟨by omega, by omega⟩ | omega | exact ⟨by omega, by omega, by omega, by omega⟩ | exact Nat.le_of_ble_eq_true rfl) rfl ?_ | refine r_idxd tab_ok rfl rfl rfl rfl rfl rfl rfl (by decide) rfl rfl rfl ?_ | refine r_pick_t rfl rfl rfl rfl rfl rfl rfl ?_ | refine r_ev_on tab_ok rfl rfl rfl rfl rfl rfl (by first | exact trivial | exact ⟨by omega, by omega⟩ | omega) rfl ?_ | refine r_ld_on tab_ok rfl rfl rfl rfl rfl rfl rfl ?_) | refine r_g rfl rfl rfl ?_)
    refine r_eqT (c := tkK 1 ⟨#[122]⟩) (d := tkK 1 ⟨#[122]⟩) rfl rfl rfl rfl rfl rfl rfl ?_
    repeat (first | (refine r_id ?_; first | refine r_ev tab_ok rfl rfl rfl rfl (by first | exact trivial | exact ⟨by omega, by omega⟩ | omega | exact ⟨by omega, by omega, by omega, by omega⟩ | exact Nat.le_of_ble_eq_true rfl) rfl ?_ | refine r_pick_t rfl rfl rfl rfl rfl rfl rfl ?_) | refine r_g rfl rfl rfl ?_)
    refine r_call awake2_ok call12 rfl rfl trivial rfl rfl rfl rfl ?_
    repeat (first | refine thenA_normal ?_ | refine awp_ret ?_ | refine thenA_ret ?_ | refine blockA_ret ?_ | refine r_done' ?_ | (refine r_id ?_; first | refine r_ev tab_ok rfl rfl rfl rfl (by first | exact trivial | exact ⟨by omega, by omega⟩ | omega | exact ⟨by omega, by omega, by omega, by omega⟩ | exact Nat.le_of_ble_eq_true rfl) rfl ?_ | refine r_pick_t rfl rfl rfl rfl rfl rfl rfl ?_) | refine ret1 (by first | exact .inl rfl | exact .inr rfl) rfl rfl rfl ?_)
    exact Sub.refl _
  · rcases Nat.eq_zero_or_pos n with hn | hn
    · rw [if_pos hn, List.nil_append] at hu4
      repeat (first | refine awp_seq ?_ | refine thenA_normal ?_ | refine awp_block ?_ | refine a_region ?_ | refine r_done ?_ | (refine r_id ?_; first | refine r_ev tab_ok rfl rfl rfl rfl (by first | exact trivial | exact ⟨by omega, by omega⟩ | omega | exact ⟨by omega, by omega, by omega, by omega⟩ | exact Nat.le_of_ble_eq_true rfl) rfl ?_) | refine awp_cond_t rfl ?_ | refine awp_cond_f rfl ?_ | refine r_ev tab_ok rfl rfl rfl rfl (by simp only [ByteArray.size_append]; omega) rfl ?_)
      refine r_call (show PCalls Tryd.prog 19 [.val (.string ((⟨#[117, 114, 108, 40]⟩ : ByteArray) ++ (⟨B.toArray⟩ : ByteArray) ++ (⟨#[39]⟩ : ByteArray) ++ s ++ (⟨#[39, 41, 122]⟩ : ByteArray)))] (.sl 6 (([tkK 2 ⟨#[117, 114, 108]⟩, tkK 5 s, tkK 20 ⟨#[41]⟩, tkK 1 ⟨#[122]⟩] : List Tk).map tD)) by
        rw [hc4, ← hu4]; exact all2_ok _ (hz _ (by simp [hul]; omega))) call19 rfl rfl ⟨Sub.refl _, trivial⟩ rfl rfl rfl rfl ?_
      repeat (first | refine awp_seq ?_ | refine thenA_normal ?_ | refine a_region ?_ | refine r_done ?_ | (refine r_id ?_; first | refine r_ev tab_ok rfl rfl rfl rfl (by first | exact trivial | exact ⟨by omega, by omega⟩ | omega | exact ⟨by omega, by omega, by omega, by omega⟩ | exact Nat.le_of_ble_eq_true rfl) rfl ?_))
      refine awp_cond_p rfl (fun h5 => ?_) (fun h5 => ?_)
      · exfalso; omega
      repeat (first | refine awp_seq ?_ | refine a_draw1 mixed_ok (by kernel_rfl) ?_ | refine awp_skip ?_ | (refine r_id ?_; first | refine r_len tab_ok rfl rfl rfl rfl rfl rfl rfl ?_ | refine r_ev tab_ok rfl rfl rfl rfl (by first | exact trivial | exact ⟨by omega, by omega⟩ | omega | exact ⟨by omega, by omega, by omega, by omega⟩ | exact Nat.le_of_ble_eq_true rfl) rfl ?_ | refine r_idxd tab_ok rfl rfl rfl rfl rfl rfl rfl (by decide) rfl rfl rfl ?_ | refine r_ev_on tab_ok rfl rfl rfl rfl rfl rfl (by first | exact trivial | exact ⟨by omega, by omega⟩ | omega) rfl ?_ | refine r_build tab_ok rfl rfl rfl rfl rfl rfl ?_) | refine r_g rfl rfl rfl ?_)
      refine r_eqT (c := tkK 2 ⟨#[117, 114, 108]⟩) (d := tkK 2 ⟨#[117, 114, 108]⟩) rfl rfl rfl rfl rfl rfl rfl ?_
      repeat (first | (refine r_id ?_; first | refine r_ev tab_ok rfl rfl rfl rfl (by first | exact trivial | exact ⟨by omega, by omega⟩ | omega | exact ⟨by omega, by omega, by omega, by omega⟩ | exact Nat.le_of_ble_eq_true rfl) rfl ?_ | refine r_idxd tab_ok rfl rfl rfl rfl rfl rfl rfl (by decide) rfl rfl rfl ?_ | refine r_pick_t rfl rfl rfl rfl rfl rfl rfl ?_ | refine r_ev_on tab_ok rfl rfl rfl rfl rfl rfl (by first | exact trivial | exact ⟨by omega, by omega⟩ | omega) rfl ?_ | refine r_build tab_ok rfl rfl rfl rfl rfl rfl ?_) | refine r_g rfl rfl rfl ?_)
      refine r_eqT (c := tkK 5 s) (d := tkK 5 s) rfl rfl rfl rfl rfl rfl rfl ?_
      rw [eqT_self]
      repeat (first | (refine r_id ?_; first | refine r_ev tab_ok rfl rfl rfl rfl (by first | exact trivial | exact ⟨by omega, by omega⟩ | omega | exact ⟨by omega, by omega, by omega, by omega⟩ | exact Nat.le_of_ble_eq_true rfl) rfl ?_ | refine r_idxd tab_ok rfl rfl rfl rfl rfl rfl rfl (by decide) rfl rfl rfl ?_ | refine r_pick_t rfl rfl rfl rfl rfl rfl rfl ?_ | refine r_ev_on tab_ok rfl rfl rfl rfl rfl rfl (by first | exact trivial | exact ⟨by omega, by omega⟩ | omega) rfl ?_ | refine r_ld_on tab_ok rfl rfl rfl rfl rfl rfl rfl ?_) | refine r_g rfl rfl rfl ?_)
      refine r_eqT (c := tkK 1 ⟨#[122]⟩) (d := tkK 1 ⟨#[122]⟩) rfl rfl rfl rfl rfl rfl rfl ?_
      repeat (first | (refine r_id ?_; first | refine r_ev tab_ok rfl rfl rfl rfl (by first | exact trivial | exact ⟨by omega, by omega⟩ | omega | exact ⟨by omega, by omega, by omega, by omega⟩ | exact Nat.le_of_ble_eq_true rfl) rfl ?_ | refine r_pick_t rfl rfl rfl rfl rfl rfl rfl ?_) | refine r_g rfl rfl rfl ?_)
      refine r_call awake2_ok call12 rfl rfl trivial rfl rfl rfl rfl ?_
      repeat (first | refine thenA_normal ?_ | refine awp_ret ?_ | refine thenA_ret ?_ | refine blockA_ret ?_ | refine r_done' ?_ | (refine r_id ?_; first | refine r_ev tab_ok rfl rfl rfl rfl (by first | exact trivial | exact ⟨by omega, by omega⟩ | omega | exact ⟨by omega, by omega, by omega, by omega⟩ | exact Nat.le_of_ble_eq_true rfl) rfl ?_ | refine r_pick_t rfl rfl rfl rfl rfl rfl rfl ?_) | refine ret1 (by first | exact .inl rfl | exact .inr rfl) rfl rfl rfl ?_)
      exact Sub.refl _
    · rw [if_neg (by omega), List.cons_append, List.nil_append] at hu4
      repeat (first | refine awp_seq ?_ | refine thenA_normal ?_ | refine awp_block ?_ | refine a_region ?_ | refine r_done ?_ | (refine r_id ?_; first | refine r_ev tab_ok rfl rfl rfl rfl (by first | exact trivial | exact ⟨by omega, by omega⟩ | omega | exact ⟨by omega, by omega, by omega, by omega⟩ | exact Nat.le_of_ble_eq_true rfl) rfl ?_) | refine awp_cond_t rfl ?_ | refine awp_cond_f rfl ?_ | refine r_ev tab_ok rfl rfl rfl rfl (by simp only [ByteArray.size_append]; omega) rfl ?_)
      refine r_call (show PCalls Tryd.prog 19 [.val (.string ((⟨#[117, 114, 108, 40]⟩ : ByteArray) ++ (⟨B.toArray⟩ : ByteArray) ++ (⟨#[39]⟩ : ByteArray) ++ s ++ (⟨#[39, 41, 122]⟩ : ByteArray)))] (.sl 6 (([tkK 2 ⟨#[117, 114, 108]⟩, tkK 13 ⟨#[]⟩, tkK 5 s, tkK 20 ⟨#[41]⟩, tkK 1 ⟨#[122]⟩] : List Tk).map tD)) by
        rw [hc4, ← hu4]; exact all2_ok _ (hz _ (by simp [hul]; omega))) call19 rfl rfl ⟨Sub.refl _, trivial⟩ rfl rfl rfl rfl ?_
      repeat (first | refine awp_seq ?_ | refine thenA_normal ?_ | refine a_region ?_ | refine r_done ?_ | (refine r_id ?_; first | refine r_ev tab_ok rfl rfl rfl rfl (by first | exact trivial | exact ⟨by omega, by omega⟩ | omega | exact ⟨by omega, by omega, by omega, by omega⟩ | exact Nat.le_of_ble_eq_true rfl) rfl ?_))
      refine awp_cond_p rfl (fun h5 => ?_) (fun h5 => ?_)
      · repeat (first | refine awp_seq ?_ | refine a_region ?_ | refine a_draw1 mixed_ok (by kernel_rfl) ?_ | refine r_done ?_ | (refine r_id ?_; first | refine r_len tab_ok rfl rfl rfl rfl rfl rfl rfl ?_ | refine r_ev tab_ok rfl rfl rfl rfl (by first | exact trivial | exact ⟨by omega, by omega⟩ | omega | exact ⟨by omega, by omega, by omega, by omega⟩ | exact Nat.le_of_ble_eq_true rfl) rfl ?_ | refine r_idxd tab_ok rfl rfl rfl rfl rfl rfl rfl (by decide) rfl rfl rfl ?_ | refine r_ev_on tab_ok rfl rfl rfl rfl rfl rfl (by first | exact trivial | exact ⟨by omega, by omega⟩ | omega) rfl ?_ | refine r_build tab_ok rfl rfl rfl rfl rfl rfl ?_) | refine r_g rfl rfl rfl ?_)
        refine r_eqT (c := tkK 2 ⟨#[117, 114, 108]⟩) (d := tkK 2 ⟨#[117, 114, 108]⟩) rfl rfl rfl rfl rfl rfl rfl ?_
        repeat (first | (refine r_id ?_; first | refine r_ev tab_ok rfl rfl rfl rfl (by first | exact trivial | exact ⟨by omega, by omega⟩ | omega | exact ⟨by omega, by omega, by omega, by omega⟩ | exact Nat.le_of_ble_eq_true rfl) rfl ?_ | refine r_idxd tab_ok rfl rfl rfl rfl rfl rfl rfl (by decide) rfl rfl rfl ?_ | refine r_pick_t rfl rfl rfl rfl rfl rfl rfl ?_ | refine r_ev_on tab_ok rfl rfl rfl rfl rfl rfl (by first | exact trivial | exact ⟨by omega, by omega⟩ | omega) rfl ?_ | refine r_build tab_ok rfl rfl rfl rfl rfl rfl ?_) | refine r_g rfl rfl rfl ?_)
        refine r_eqT (c := tkK 5 s) (d := tkK 5 s) rfl rfl rfl rfl rfl rfl rfl ?_
        rw [eqT_self]
        repeat (first | (refine r_id ?_; first | refine r_ev tab_ok rfl rfl rfl rfl (by first | exact trivial | exact ⟨by omega, by omega⟩ | omega | exact ⟨by omega, by omega, by omega, by omega⟩ | exact Nat.le_of_ble_eq_true rfl) rfl ?_ | refine r_idxd tab_ok rfl rfl rfl rfl rfl rfl rfl (by decide) rfl rfl rfl ?_ | refine r_pick_t rfl rfl rfl rfl rfl rfl rfl ?_ | refine r_ev_on tab_ok rfl rfl rfl rfl rfl rfl (by first | exact trivial | exact ⟨by omega, by omega⟩ | omega) rfl ?_ | refine r_ld_on tab_ok rfl rfl rfl rfl rfl rfl rfl ?_) | refine r_g rfl rfl rfl ?_)
        refine r_eqT (c := tkK 1 ⟨#[122]⟩) (d := tkK 1 ⟨#[122]⟩) rfl rfl rfl rfl rfl rfl rfl ?_
        repeat (first | (refine r_id ?_; first | refine r_ev tab_ok rfl rfl rfl rfl (by first | exact trivial | exact ⟨by omega, by omega⟩ | omega | exact ⟨by omega, by omega, by omega, by omega⟩ | exact Nat.le_of_ble_eq_true rfl) rfl ?_ | refine r_pick_t rfl rfl rfl rfl rfl rfl rfl ?_) | refine r_g rfl rfl rfl ?_)
        refine r_call awake2_ok call12 rfl rfl trivial rfl rfl rfl rfl ?_
        repeat (first | refine thenA_normal ?_ | refine awp_ret ?_ | refine thenA_ret ?_ | refine blockA_ret ?_ | refine r_done' ?_ | (refine r_id ?_; first | refine r_ev tab_ok rfl rfl rfl rfl (by first | exact trivial | exact ⟨by omega, by omega⟩ | omega | exact ⟨by omega, by omega, by omega, by omega⟩ | exact Nat.le_of_ble_eq_true rfl) rfl ?_ | refine r_pick_t rfl rfl rfl rfl rfl rfl rfl ?_) | refine ret1 (by first | exact .inl rfl | exact .inr rfl) rfl rfl rfl ?_)
        exact Sub.refl _
      · exfalso; omega
  · repeat (first | refine awp_seq ?_ | refine thenA_normal ?_ | refine awp_block ?_ | refine a_region ?_ | refine awp_skip ?_ | refine r_done ?_ | (refine r_id ?_; first | refine r_ev tab_ok rfl rfl rfl rfl (by first | exact trivial | exact ⟨by omega, by omega⟩ | omega | exact ⟨by omega, by omega, by omega, by omega⟩ | exact Nat.le_of_ble_eq_true rfl) rfl ?_) | refine awp_cond_f rfl ?_ | refine r_ev tab_ok rfl rfl rfl rfl (by simp only [ByteArray.size_append]; omega) rfl ?_)
    refine r_call (show PCalls Tryd.prog 19 [.val (.string ((⟨#[117, 114, 108, 40]⟩ : ByteArray) ++ s ++ (⟨#[92, 50, 57, 32]⟩ : ByteArray) ++ s ++ (⟨#[41, 122]⟩ : ByteArray)))] (.sl 6 (([tkK 7 (s ++ (⟨#[41]⟩ : ByteArray) ++ s), tkK 1 ⟨#[122]⟩] : List Tk).map tD)) by
      rw [hc5, ← hu5]; exact all2_ok _ (hz _ (by simp [hul]; omega))) call19 rfl rfl ⟨Sub.refl _, trivial⟩ rfl rfl rfl rfl ?_
    repeat (first | refine awp_seq ?_ | refine a_draw1 mixed_ok (by kernel_rfl) ?_ | refine r_done ?_ | (refine r_id ?_; first | refine r_len tab_ok rfl rfl rfl rfl rfl rfl rfl ?_ | refine r_ev tab_ok rfl rfl rfl rfl (by first | exact trivial | exact ⟨by omega, by omega⟩ | omega | exact ⟨by omega, by omega, by omega, by omega⟩ | exact Nat.le_of_ble_eq_true rfl) rfl ?_ | refine r_idxd tab_ok rfl rfl rfl rfl rfl rfl rfl (by decide) rfl rfl rfl ?_ | refine r_ev_on tab_ok rfl rfl rfl rfl rfl rfl (by first | exact trivial | exact ⟨by omega, by omega⟩ | omega) rfl ?_ | refine r_build tab_ok rfl rfl rfl rfl rfl rfl ?_) | refine r_g rfl rfl rfl ?_ | refine r_ev tab_ok rfl rfl rfl rfl (by simp only [ByteArray.size_append]; omega) rfl ?_)
    refine r_eqT (c := tkK 7 (s ++ (⟨#[41]⟩ : ByteArray) ++ s)) (d := tkK 7 (s ++ (⟨#[41]⟩ : ByteArray) ++ s)) rfl rfl rfl rfl rfl rfl rfl ?_
    rw [eqT_self]
    repeat (first | (refine r_id ?_; first | refine r_ev tab_ok rfl rfl rfl rfl (by first | exact trivial | exact ⟨by omega, by omega⟩ | omega | exact ⟨by omega, by omega, by omega, by omega⟩ | exact Nat.le_of_ble_eq_true rfl) rfl ?_ | refine r_idxd tab_ok rfl rfl rfl rfl rfl rfl rfl (by decide) rfl rfl rfl ?_ | refine r_pick_t rfl rfl rfl rfl rfl rfl rfl ?_ | refine r_ev_on tab_ok rfl rfl rfl rfl rfl rfl (by first | exact trivial | exact ⟨by omega, by omega⟩ | omega) rfl ?_ | refine r_ld_on tab_ok rfl rfl rfl rfl rfl rfl rfl ?_) | refine r_g rfl rfl rfl ?_)
    refine r_eqT (c := tkK 1 ⟨#[122]⟩) (d := tkK 1 ⟨#[122]⟩) rfl rfl rfl rfl rfl rfl rfl ?_
    repeat (first | (refine r_id ?_; first | refine r_ev tab_ok rfl rfl rfl rfl (by first | exact trivial | exact ⟨by omega, by omega⟩ | omega | exact ⟨by omega, by omega, by omega, by omega⟩ | exact Nat.le_of_ble_eq_true rfl) rfl ?_ | refine r_pick_t rfl rfl rfl rfl rfl rfl rfl ?_) | refine r_g rfl rfl rfl ?_)
    refine r_call awake2_ok call12 rfl rfl trivial rfl rfl rfl rfl ?_
    repeat (first | refine thenA_normal ?_ | refine awp_ret ?_ | refine r_done' ?_ | (refine r_id ?_; first | refine r_ev tab_ok rfl rfl rfl rfl (by first | exact trivial | exact ⟨by omega, by omega⟩ | omega | exact ⟨by omega, by omega, by omega, by omega⟩ | exact Nat.le_of_ble_eq_true rfl) rfl ?_ | refine r_pick_t rfl rfl rfl rfl rfl rfl rfl ?_) | refine ret1 (by first | exact .inl rfl | exact .inr rfl) rfl rfl rfl ?_)
    exact Sub.refl _
end Go.Proofs.YtbjinibmkkmhkaaDoor
