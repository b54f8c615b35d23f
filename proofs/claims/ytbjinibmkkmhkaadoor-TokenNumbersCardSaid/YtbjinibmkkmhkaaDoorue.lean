/- The law TokenNumbers, walked. -/
import Derived.Test.YtbjinibmkkmhkaaDoorud
namespace Go.Proofs.YtbjinibmkkmhkaaDoor
open Go Go.RowKit
set_option maxRecDepth 20000

theorem cut_one (c : UInt8) (D : List UInt8) : (⟨(c :: D).toArray⟩ : ByteArray).extract 1 (D.length + 1) = ⟨D.toArray⟩ := by
  apply ByteArray.ext
  rw [ByteArray.data_extract]
  apply Array.ext'
  simp
set_option maxHeartbeats 16000000 in
theorem lawNumbers (n sg more : Int) (hn : n ≤ 9223372036854775807 ∧ -9223372036854775808 ≤ n) : PCalls Tryd.prog 6 [.val (.int .i64 n), .val (.int .i64 sg), .val (.int .i64 more)] (.val (.bool true)) := by
  refine p_start Tryd.func6 Tryd.ntmps6 rfl rfl rfl fun S w => ?_
  obtain ⟨m, hm, hmb⟩ : ∃ m : Nat, n.natAbs = m ∧ m ≤ 9223372036854775808 := ⟨n.natAbs, rfl, by omega⟩
  obtain ⟨k, hk, hk3⟩ : ∃ k : Nat, sg % 3 = (k : Int) ∧ k < 3 := ⟨(sg % 3).toNat, by omega, by omega⟩
  repeat (first | refine awp_seq ?_ | refine a_region ?_ | refine r_done ?_ | (refine r_id ?_; first | refine r_ev tab_ok rfl rfl rfl rfl (by first | exact trivial | exact ⟨by omega, by omega⟩ | omega | exact ⟨by omega, by omega, by omega, by omega⟩ | exact Nat.le_of_ble_eq_true rfl) rfl ?_))
  refine r_call (round_ok sg 3 (by decide) (by decide)) call21 rfl rfl ⟨Sub.refl _, Sub.refl _, trivial⟩ rfl rfl rfl rfl ?_
  rw [hk]
  repeat (first | refine awp_seq ?_ | refine a_region ?_ | refine r_done ?_ | (refine r_id ?_; first | refine r_ev tab_ok rfl rfl rfl rfl (by first | exact trivial | exact ⟨by omega, by omega⟩ | omega | exact ⟨by omega, by omega, by omega, by omega⟩ | exact Nat.le_of_ble_eq_true rfl) rfl ?_))
  refine r_call (dec_all n ⟨hn.2, hn.1⟩) call23 rfl rfl ⟨Sub.refl _, trivial⟩ rfl rfl rfl rfl ?_
  rw [decI, hm, decN_L]
  have hdl := digits_len m
  have hda := digits_all m
  have hdn := digits_ne m
  have hih := int_held k m hk3 hmb
  generalize digits m = D at hdl hda hdn hih ⊢
  repeat (first | refine awp_seq ?_ | refine thenA_normal ?_ | refine a_region ?_ | refine r_done ?_ | (refine r_id ?_; first | refine r_ev tab_ok rfl rfl rfl rfl (by first | exact trivial | exact ⟨by omega, by omega⟩ | omega | exact ⟨by omega, by omega, by omega, by omega⟩ | exact Nat.le_of_ble_eq_true rfl) rfl ?_))
  refine awp_cut ⟨[], [(0, .val (.int .i64 n)), (2, .val (.int .i64 more)), (7, .val (.int .i64 k)), (8, .val (.string ⟨D.toArray⟩))]⟩ ?_ ?_
  · refine awp_cond_p rfl (fun h => ?_) (fun h => ?_)
    · rw [if_pos h, show (⟨#[45]⟩ : ByteArray) = ⟨[45].toArray⟩ from rfl, cat_l]
      have hz : (⟨([45] ++ D).toArray⟩ : ByteArray).size = D.length + 1 := by rw [sz_list]; simp
      repeat (first | refine a_region ?_ | (refine r_id ?_; first | refine r_ev tab_ok rfl rfl rfl rfl (by first | exact trivial | exact ⟨by omega, by omega⟩ | omega | exact ⟨by omega, by omega, by omega, by omega⟩ | exact Nat.le_of_ble_eq_true rfl) rfl ?_))
      refine r_scutE (a := some 1) (b := none) (e := ⟨D.toArray⟩) tab_ok rfl rfl rfl rfl rfl rfl rfl rfl (by show (0 : Int) ≤ 1 ∧ (1 : Int) ≤ ((⟨([45] ++ D).toArray⟩ : ByteArray).size : Int) ∧ ((⟨([45] ++ D).toArray⟩ : ByteArray).size : Int) ≤ ((⟨([45] ++ D).toArray⟩ : ByteArray).size : Int); omega) (by
        show ByteArray.extract _ 1 ((((⟨([45] ++ D).toArray⟩ : ByteArray).size : Nat) : Int)).toNat = _
        rw [hz]
        exact cut_one 45 D) rfl ?_
      repeat (first | refine r_done ?_ | (refine r_id ?_; first | refine r_ev tab_ok rfl rfl rfl rfl (by first | exact trivial | exact ⟨by omega, by omega⟩ | omega | exact ⟨by omega, by omega, by omega, by omega⟩ | exact Nat.le_of_ble_eq_true rfl) rfl ?_))
      exact ⟨rfl, fits_of rfl (by repeat' first | exact trivial | exact Sub.refl _ | exact rfl | apply And.intro)⟩
    · rw [if_neg h]
      repeat (first | refine awp_skip ?_)
      exact ⟨rfl, fits_of rfl (by repeat' first | exact trivial | exact Sub.refl _ | exact rfl | apply And.intro)⟩
  have hDz : (⟨D.toArray⟩ : ByteArray).size = D.length := sz_list _
  repeat (first | refine awp_seq ?_)
  refine awp_cut ⟨[], [(0, .val (.int .i64 n)), (2, .val (.int .i64 more)), (7, .val (.int .i64 k)), (9, .val (.string ⟨(sgB k ++ D).toArray⟩))]⟩ ?_ ?_
  · have hc0 : (⟨#[]⟩ : ByteArray) ++ ⟨D.toArray⟩ = ⟨(sgB 0 ++ D).toArray⟩ := by rw [show (⟨#[]⟩ : ByteArray) = ⟨[].toArray⟩ from rfl, cat_l]; rfl
    have hc1 : (⟨#[43]⟩ : ByteArray) ++ ⟨D.toArray⟩ = ⟨(sgB 1 ++ D).toArray⟩ := by rw [show (⟨#[43]⟩ : ByteArray) = ⟨[43].toArray⟩ from rfl, cat_l]; rfl
    have hc2 : (⟨#[45]⟩ : ByteArray) ++ ⟨D.toArray⟩ = ⟨(sgB 2 ++ D).toArray⟩ := by rw [show (⟨#[45]⟩ : ByteArray) = ⟨[45].toArray⟩ from rfl, cat_l]; rfl
    have hz1 : (⟨#[43]⟩ : ByteArray).size = 1 := rfl
    have hz2 : (⟨#[45]⟩ : ByteArray).size = 1 := rfl
    have hz3 : (⟨#[]⟩ : ByteArray).size = 0 := rfl
    have : k = 0 ∨ k = 1 ∨ k = 2 := by omega
    rcases this with rfl | rfl | rfl
    · repeat (first | refine a_region ?_ | refine r_done ?_ | (refine r_id ?_; first | refine r_ev tab_ok rfl rfl rfl rfl (by first | exact trivial | exact ⟨by omega, by omega⟩ | omega | exact ⟨by omega, by omega, by omega, by omega⟩ | exact Nat.le_of_ble_eq_true rfl) rfl ?_ | refine r_idxd tab_ok rfl rfl rfl rfl rfl rfl rfl (by decide) rfl rfl rfl ?_ | refine r_built tab_ok rfl rfl rfl rfl rfl rfl rfl rfl rfl ?_))
      rw [hc0]
      exact ⟨rfl, fits_of rfl (by repeat' first | exact trivial | exact Sub.refl _ | exact rfl | apply And.intro)⟩
    · repeat (first | refine a_region ?_ | refine r_done ?_ | (refine r_id ?_; first | refine r_ev tab_ok rfl rfl rfl rfl (by first | exact trivial | exact ⟨by omega, by omega⟩ | omega | exact ⟨by omega, by omega, by omega, by omega⟩ | exact Nat.le_of_ble_eq_true rfl) rfl ?_ | refine r_idxd tab_ok rfl rfl rfl rfl rfl rfl rfl (by decide) rfl rfl rfl ?_ | refine r_built tab_ok rfl rfl rfl rfl rfl rfl rfl rfl rfl ?_))
      rw [hc1]
      exact ⟨rfl, fits_of rfl (by repeat' first | exact trivial | exact Sub.refl _ | exact rfl | apply And.intro)⟩
    · repeat (first | refine a_region ?_ | refine r_done ?_ | (refine r_id ?_; first | refine r_ev tab_ok rfl rfl rfl rfl (by first | exact trivial | exact ⟨by omega, by omega⟩ | omega | exact ⟨by omega, by omega, by omega, by omega⟩ | exact Nat.le_of_ble_eq_true rfl) rfl ?_ | refine r_idxd tab_ok rfl rfl rfl rfl rfl rfl rfl (by decide) rfl rfl rfl ?_ | refine r_built tab_ok rfl rfl rfl rfl rfl rfl rfl rfl rfl ?_))
      rw [hc2]
      exact ⟨rfl, fits_of rfl (by repeat' first | exact trivial | exact Sub.refl _ | exact rfl | apply And.intro)⟩
  have hsl : (sgB k).length ≤ 1 := by
    have : k = 0 ∨ k = 1 ∨ k = 2 := by omega
    rcases this with rfl | rfl | rfl <;> decide
  have hSz : (⟨(sgB k ++ D).toArray⟩ : ByteArray).size ≤ 22 := by rw [sz_list, List.length_append]; omega
  repeat (first | refine awp_seq ?_ | refine a_region ?_ | (refine r_id ?_; first | refine r_ev tab_ok rfl rfl rfl rfl (by first | exact trivial | exact ⟨by omega, by omega⟩ | omega | exact ⟨by omega, by omega, by omega, by omega⟩ | exact Nat.le_of_ble_eq_true rfl) rfl ?_))
  refine r_call (pint_ok ⟨(sgB k ++ D).toArray⟩ (by omega)) call17 rfl rfl ⟨Sub.refl _, trivial⟩ rfl rfl rfl rfl ?_
  rw [hih]
  have hnt : ∀ j, j < 5 → toks ⟨(sgB k ++ (D ++ enB j)).toArray⟩ = [nmT k j (heldF k m)] := fun j hj => num_toks k j D _ hk3 hj hda hdn hih
  have hkz : decide (0 < k) = decide ((0 : Int) < (k : Int)) := by rw [decide_eq_decide]; omega
  simp only [nmT, hkz] at hnt
  repeat (first | refine awp_seq ?_ | refine a_region ?_ | refine r_done ?_ | (refine r_id ?_; first | refine r_ev tab_ok rfl rfl rfl rfl (by first | exact trivial | exact ⟨by omega, by omega⟩ | omega | exact ⟨by omega, by omega, by omega, by omega⟩ | exact Nat.le_of_ble_eq_true rfl) rfl ?_))
  refine r_call (round_ok more 5 (by decide) (by decide)) call21 rfl rfl ⟨Sub.refl _, Sub.refl _, trivial⟩ rfl rfl rfl rfl ?_
  have hy0 : (⟨#[]⟩ : ByteArray).size = 0 := rfl
  have hy1 : (⟨#[46, 53]⟩ : ByteArray).size = 2 := rfl
  have hy2 : (⟨#[101, 51]⟩ : ByteArray).size = 2 := rfl
  have hy3 : (⟨#[112, 120]⟩ : ByteArray).size = 2 := rfl
  have hy4 : (⟨#[37]⟩ : ByteArray).size = 1 := rfl
  have hw2 : n < 0 → IntKind.wrap .u64 (0 - IntKind.wrap .u64 n) = (m : Int) := fun h => by
    rw [wrap_u n ⟨h, hn.2⟩, wrap_u2 n ⟨h, hn.2⟩]; omega
  have hw0 : ¬ n < 0 → IntKind.wrap .u64 n = (m : Int) := fun h => by
    rw [rng_wrap (by show 0 ≤ n ∧ n ≤ 18446744073709551615; omega)]; omega
  obtain ⟨H, hH1, hH2⟩ : ∃ H : Int, ((k : Int) = 2 → H = 2147483648) ∧ (¬ (k : Int) = 2 → H = 2147483647) := ⟨if (k : Int) = 2 then 2147483648 else 2147483647, fun h => if_pos h, fun h => if_neg h⟩
  have hHb : 2147483647 ≤ H ∧ H ≤ 2147483648 := by by_cases h : (k : Int) = 2; rw [hH1 h]; decide; rw [hH2 h]; decide
  obtain ⟨G, hG1, hG2⟩ : ∃ G : Int, ((m : Int) < H → G = (m : Int)) ∧ (¬ (m : Int) < H → G = H) := ⟨if (m : Int) < H then (m : Int) else H, fun h => if_pos h, fun h => if_neg h⟩
  have hGb : 0 ≤ G ∧ G ≤ 2147483648 := by by_cases h : (m : Int) < H; rw [hG1 h]; omega; rw [hG2 h]; omega
  have hV1 : (k : Int) = 2 → heldF k m = -G := fun h => by
    have hk2 : k = 2 := by omega
    have := hH1 h
    rw [heldF, if_pos hk2]
    by_cases h2 : (m : Int) < H
    · rw [hG1 h2]; omega
    · rw [hG2 h2]; omega
  have hV2 : ¬ (k : Int) = 2 → heldF k m = G := fun h => by
    have hk2 : ¬ k = 2 := by omega
    have := hH2 h
    rw [heldF, if_neg hk2]
    by_cases h2 : (m : Int) < H
    · rw [hG1 h2]; omega
    · rw [hG2 h2]; omega
  have hVb : -2147483648 ≤ heldF k m ∧ heldF k m ≤ 2147483647 := by
    rw [heldF]; split <;> omega
  generalize heldF k m = V at hnt hV1 hV2 hVb ⊢
  have hj : more % 5 = 0 ∨ more % 5 = 1 ∨ more % 5 = 2 ∨ more % 5 = 3 ∨ more % 5 = 4 := by omega
  generalize more % 5 = j at hj
  rcases hj with rfl | rfl | rfl | rfl | rfl
  · have hc : (⟨(sgB k ++ D).toArray⟩ : ByteArray) ++ (⟨#[]⟩ : ByteArray) = ⟨(sgB k ++ (D ++ enB 0)).toArray⟩ := by
      rw [show (⟨#[]⟩ : ByteArray) = ⟨[].toArray⟩ from rfl, cat_l, List.append_assoc]; rfl
    have hl : (sgB k ++ (D ++ enB 0)).length ≤ 25 := by
      rw [List.length_append, List.length_append]
      show _ + (_ + 0) ≤ 25
      omega
    repeat (first | refine awp_seq ?_ | refine a_region ?_ | refine r_done ?_ | (refine r_id ?_; first | refine r_ev tab_ok rfl rfl rfl rfl (by first | exact trivial | exact ⟨by omega, by omega⟩ | omega | exact ⟨by omega, by omega, by omega, by omega⟩ | exact Nat.le_of_ble_eq_true rfl) rfl ?_ | refine r_idxd tab_ok rfl rfl rfl rfl rfl rfl rfl (by decide) rfl rfl rfl ?_ | refine r_built tab_ok rfl rfl rfl rfl rfl rfl rfl rfl rfl ?_))
    refine r_call (show PCalls Tryd.prog 19 [.val (.string ((⟨(sgB k ++ D).toArray⟩ : ByteArray) ++ (⟨#[]⟩ : ByteArray)))] (.sl 6 (([(⟨10, ⟨#[]⟩, V, true, decide ((0 : Int) < (k : Int)), false⟩ : Tk)] : List Tk).map tD)) by
      have := hnt 0 (by decide)
      rw [hc, show [(⟨10, ⟨#[]⟩, V, true, decide ((0 : Int) < (k : Int)), false⟩ : Tk)] = toks ⟨(sgB k ++ (D ++ enB 0)).toArray⟩ from this.symm]; exact all2_ok _ (by rw [sz_list]; omega)) call19 rfl rfl ⟨Sub.refl _, trivial⟩ rfl rfl rfl rfl ?_
    repeat (first | refine awp_seq ?_ | refine thenA_normal ?_ | refine a_region ?_ | refine awp_skip ?_ | refine r_done ?_ | (refine r_id ?_; first | refine r_len tab_ok rfl rfl rfl rfl rfl rfl rfl ?_ | refine r_ev tab_ok rfl rfl rfl rfl (by first | exact trivial | exact ⟨by omega, by omega⟩ | omega | exact ⟨by omega, by omega, by omega, by omega⟩ | exact Nat.le_of_ble_eq_true rfl) rfl ?_ | refine r_idxd tab_ok rfl rfl rfl rfl rfl rfl rfl (by decide) rfl rfl rfl ?_ | refine r_wr tab_ok rfl rfl rfl rfl rfl ?_ | refine r_st tab_ok rfl rfl rfl rfl ?_ | refine r_pick_t rfl rfl rfl rfl rfl rfl rfl ?_ | refine r_ev_on tab_ok rfl rfl rfl rfl rfl rfl (by first | exact trivial | exact ⟨by omega, by omega⟩ | omega) rfl ?_ | refine r_build tab_ok rfl rfl rfl rfl rfl rfl ?_ | refine r_built tab_ok rfl rfl rfl rfl rfl rfl rfl rfl rfl ?_) | refine awp_cond_t rfl ?_ | refine awp_cond_f rfl ?_)
    refine r_by (fun _ => astep_conv_int tab_ok rfl rfl rfl rfl) rfl rfl rfl rfl rfl ?_
    repeat (first | refine awp_seq ?_ | refine thenA_normal ?_ | refine a_region ?_ | refine r_done ?_ | (refine r_id ?_; first | refine r_ev tab_ok rfl rfl rfl rfl (by first | exact trivial | exact ⟨by omega, by omega⟩ | omega | exact ⟨by omega, by omega, by omega, by omega⟩ | exact Nat.le_of_ble_eq_true rfl) rfl ?_))
    refine awp_cut ⟨[.box 33 [.val (.int .i64 10), .val (.string ⟨#[]⟩), .val (.int .i64 V), .val (.bool true), .val (.bool (decide ((0 : Int) < (k : Int)))), .val (.bool false)]], [(7, .val (.int .i64 k)), (10, .val (.int .i64 V)), (12, .sl 6 (([(⟨10, ⟨#[]⟩, V, true, decide ((0 : Int) < (k : Int)), false⟩ : Tk)] : List Tk).map tD)), (14, .ptr 0 0), (15, .val (.int .u64 m))]⟩ ?_ ?_
    · refine awp_cond_p rfl (fun h => ?_) (fun h => ?_)
      · repeat (first | refine a_region ?_ | (refine r_id ?_; first | refine r_ev tab_ok rfl rfl rfl rfl (by first | exact trivial | exact ⟨by omega, by omega⟩ | omega | exact ⟨by omega, by omega, by omega, by omega⟩ | exact Nat.le_of_ble_eq_true rfl) rfl ?_))
        refine r_by (fun _ => astep_neg rfl rfl) rfl rfl rfl rfl rfl ?_
        rw [hw2 h]
        repeat (first | refine r_done ?_ | (refine r_id ?_; first | refine r_ev tab_ok rfl rfl rfl rfl (by first | exact trivial | exact ⟨by omega, by omega⟩ | omega | exact ⟨by omega, by omega, by omega, by omega⟩ | exact Nat.le_of_ble_eq_true rfl) rfl ?_))
        exact ⟨rfl, fits_of rfl (by repeat' first | exact trivial | exact Sub.refl _ | exact rfl | apply And.intro)⟩
      · rw [hw0 h]
        repeat (first | refine awp_skip ?_)
        exact ⟨rfl, fits_of rfl (by repeat' first | exact trivial | exact Sub.refl _ | exact rfl | apply And.intro)⟩
    repeat (first | refine awp_seq ?_ | refine thenA_normal ?_ | refine a_region ?_ | refine r_done ?_ | (refine r_id ?_; first | refine r_ev tab_ok rfl rfl rfl rfl (by first | exact trivial | exact ⟨by omega, by omega⟩ | omega | exact ⟨by omega, by omega, by omega, by omega⟩ | exact Nat.le_of_ble_eq_true rfl) rfl ?_))
    refine awp_cut ⟨[.box 33 [.val (.int .i64 10), .val (.string ⟨#[]⟩), .val (.int .i64 V), .val (.bool true), .val (.bool (decide ((0 : Int) < (k : Int)))), .val (.bool false)]], [(7, .val (.int .i64 k)), (10, .val (.int .i64 V)), (12, .sl 6 (([(⟨10, ⟨#[]⟩, V, true, decide ((0 : Int) < (k : Int)), false⟩ : Tk)] : List Tk).map tD)), (14, .ptr 0 0), (15, .val (.int .u64 m)), (16, .val (.int .i64 H))]⟩ ?_ ?_
    · refine awp_cond_p rfl (fun h => ?_) (fun h => ?_)
      · rw [hH1 h]
        repeat (first | refine a_region ?_ | refine r_done ?_ | (refine r_id ?_; first | refine r_ev tab_ok rfl rfl rfl rfl (by first | exact trivial | exact ⟨by omega, by omega⟩ | omega | exact ⟨by omega, by omega, by omega, by omega⟩ | exact Nat.le_of_ble_eq_true rfl) rfl ?_))
        exact ⟨rfl, fits_of rfl (by repeat' first | exact trivial | exact Sub.refl _ | exact rfl | apply And.intro)⟩
      · rw [hH2 h]
        repeat (first | refine awp_skip ?_)
        exact ⟨rfl, fits_of rfl (by repeat' first | exact trivial | exact Sub.refl _ | exact rfl | apply And.intro)⟩
    repeat (first | refine awp_seq ?_ | refine thenA_normal ?_ | refine a_region ?_ | refine r_done ?_ | (refine r_id ?_; first | refine r_ev tab_ok rfl rfl rfl rfl (by first | exact trivial | exact ⟨by omega, by omega⟩ | omega | exact ⟨by omega, by omega, by omega, by omega⟩ | exact Nat.le_of_ble_eq_true rfl) rfl ?_))
    refine awp_cut ⟨[.box 33 [.val (.int .i64 10), .val (.string ⟨#[]⟩), .val (.int .i64 V), .val (.bool true), .val (.bool (decide ((0 : Int) < (k : Int)))), .val (.bool false)]], [(7, .val (.int .i64 k)), (10, .val (.int .i64 V)), (12, .sl 6 (([(⟨10, ⟨#[]⟩, V, true, decide ((0 : Int) < (k : Int)), false⟩ : Tk)] : List Tk).map tD)), (14, .ptr 0 0), (16, .val (.int .i64 G))]⟩ ?_ ?_
    · refine awp_cond_p rfl (fun h => ?_) (fun h => ?_)
      · rw [hG1 h]
        repeat (first | refine a_region ?_ | refine r_done ?_ | (refine r_id ?_; first | refine r_ev tab_ok rfl rfl rfl rfl (by first | exact trivial | exact ⟨by omega, by omega⟩ | omega | exact ⟨by omega, by omega, by omega, by omega⟩ | exact Nat.le_of_ble_eq_true rfl) rfl ?_))
        exact ⟨rfl, fits_of rfl (by repeat' first | exact trivial | exact Sub.refl _ | exact rfl | apply And.intro)⟩
      · rw [hG2 h]
        repeat (first | refine awp_skip ?_)
        exact ⟨rfl, fits_of rfl (by repeat' first | exact trivial | exact Sub.refl _ | exact rfl | apply And.intro)⟩
    repeat (first | refine awp_seq ?_ | refine thenA_normal ?_ | refine a_region ?_ | refine r_done ?_ | (refine r_id ?_; first | refine r_ev tab_ok rfl rfl rfl rfl (by first | exact trivial | exact ⟨by omega, by omega⟩ | omega | exact ⟨by omega, by omega, by omega, by omega⟩ | exact Nat.le_of_ble_eq_true rfl) rfl ?_))
    refine awp_cut ⟨[.box 33 [.val (.int .i64 10), .val (.string ⟨#[]⟩), .val (.int .i64 V), .val (.bool true), .val (.bool (decide ((0 : Int) < (k : Int)))), .val (.bool false)]], [(7, .val (.int .i64 k)), (10, .val (.int .i64 V)), (12, .sl 6 (([(⟨10, ⟨#[]⟩, V, true, decide ((0 : Int) < (k : Int)), false⟩ : Tk)] : List Tk).map tD)), (14, .ptr 0 0), (16, .val (.int .i64 V))]⟩ ?_ ?_
    · refine awp_cond_p rfl (fun h => ?_) (fun h => ?_)
      · repeat (first | refine a_region ?_ | refine r_done ?_ | (refine r_id ?_; first | refine r_ev tab_ok rfl rfl rfl rfl (by first | exact trivial | exact ⟨by omega, by omega⟩ | omega | exact ⟨by omega, by omega, by omega, by omega⟩ | exact Nat.le_of_ble_eq_true rfl) rfl ?_))
        exact ⟨rfl, fits_of rfl (by rw [hV1 h]; exact (by repeat' first | exact trivial | exact Sub.refl _ | exact rfl | apply And.intro))⟩
      · repeat (first | refine awp_skip ?_)
        exact ⟨rfl, fits_of rfl (by rw [hV2 h]; exact (by repeat' first | exact trivial | exact Sub.refl _ | exact rfl | apply And.intro))⟩
    repeat (first | refine awp_seq ?_ | refine a_draw1 mixed_ok (by kernel_rfl) ?_ | (refine r_id ?_; first | refine r_ev tab_ok rfl rfl rfl rfl (by first | exact trivial | exact ⟨by omega, by omega⟩ | omega | exact ⟨by omega, by omega, by omega, by omega⟩ | exact Nat.le_of_ble_eq_true rfl) rfl ?_ | refine r_ld tab_ok rfl rfl rfl rfl rfl ?_ | refine r_idxd tab_ok rfl rfl rfl rfl rfl rfl rfl (by decide) rfl rfl rfl ?_))
    refine r_eqT (c := (⟨10, ⟨#[]⟩, V, true, decide ((0 : Int) < (k : Int)), false⟩ : Tk)) (d := (⟨10, ⟨#[]⟩, V, true, decide ((0 : Int) < (k : Int)), false⟩ : Tk)) rfl rfl rfl rfl rfl rfl rfl ?_
    rw [eqT_self]
    repeat (first | (refine r_id ?_; first | refine r_ev tab_ok rfl rfl rfl rfl (by first | exact trivial | exact ⟨by omega, by omega⟩ | omega | exact ⟨by omega, by omega, by omega, by omega⟩ | exact Nat.le_of_ble_eq_true rfl) rfl ?_ | refine r_pick_t rfl rfl rfl rfl rfl rfl rfl ?_ | refine r_ev_on tab_ok rfl rfl rfl rfl rfl rfl (by first | exact trivial | exact ⟨by omega, by omega⟩ | omega) rfl ?_))
    rw [show decide (V = V) = true from decide_eq_true rfl]
    repeat (first | refine r_g rfl rfl rfl ?_)
    refine r_call awake2_ok call12 rfl rfl trivial rfl rfl rfl rfl ?_
    repeat (first | refine thenA_normal ?_ | refine awp_ret ?_ | refine r_done' ?_ | (refine r_id ?_; first | refine r_ev tab_ok rfl rfl rfl rfl (by first | exact trivial | exact ⟨by omega, by omega⟩ | omega | exact ⟨by omega, by omega, by omega, by omega⟩ | exact Nat.le_of_ble_eq_true rfl) rfl ?_ | refine r_pick_t rfl rfl rfl rfl rfl rfl rfl ?_) | refine ret1 (by first | exact .inl rfl | exact .inr rfl) rfl rfl rfl ?_)
    exact Sub.refl _
  · have hc : (⟨(sgB k ++ D).toArray⟩ : ByteArray) ++ (⟨#[46, 53]⟩ : ByteArray) = ⟨(sgB k ++ (D ++ enB 1)).toArray⟩ := by
      rw [show (⟨#[46, 53]⟩ : ByteArray) = ⟨[46, 53].toArray⟩ from rfl, cat_l, List.append_assoc]; rfl
    have hl : (sgB k ++ (D ++ enB 1)).length ≤ 25 := by
      rw [List.length_append, List.length_append]
      show _ + (_ + 2) ≤ 25
      omega
    repeat (first | refine awp_seq ?_ | refine a_region ?_ | refine r_done ?_ | (refine r_id ?_; first | refine r_ev tab_ok rfl rfl rfl rfl (by first | exact trivial | exact ⟨by omega, by omega⟩ | omega | exact ⟨by omega, by omega, by omega, by omega⟩ | exact Nat.le_of_ble_eq_true rfl) rfl ?_ | refine r_idxd tab_ok rfl rfl rfl rfl rfl rfl rfl (by decide) rfl rfl rfl ?_ | refine r_built tab_ok rfl rfl rfl rfl rfl rfl rfl rfl rfl ?_))
    refine r_call (show PCalls Tryd.prog 19 [.val (.string ((⟨(sgB k ++ D).toArray⟩ : ByteArray) ++ (⟨#[46, 53]⟩ : ByteArray)))] (.sl 6 (([(⟨10, ⟨#[]⟩, 0, false, decide ((0 : Int) < (k : Int)), false⟩ : Tk)] : List Tk).map tD)) by
      have := hnt 1 (by decide)
      rw [hc, show [(⟨10, ⟨#[]⟩, 0, false, decide ((0 : Int) < (k : Int)), false⟩ : Tk)] = toks ⟨(sgB k ++ (D ++ enB 1)).toArray⟩ from this.symm]; exact all2_ok _ (by rw [sz_list]; omega)) call19 rfl rfl ⟨Sub.refl _, trivial⟩ rfl rfl rfl rfl ?_
    repeat (first | refine awp_seq ?_ | refine thenA_normal ?_ | refine a_region ?_ | refine awp_skip ?_ | refine r_done ?_ | (refine r_id ?_; first | refine r_len tab_ok rfl rfl rfl rfl rfl rfl rfl ?_ | refine r_ev tab_ok rfl rfl rfl rfl (by first | exact trivial | exact ⟨by omega, by omega⟩ | omega | exact ⟨by omega, by omega, by omega, by omega⟩ | exact Nat.le_of_ble_eq_true rfl) rfl ?_ | refine r_idxd tab_ok rfl rfl rfl rfl rfl rfl rfl (by decide) rfl rfl rfl ?_ | refine r_wr tab_ok rfl rfl rfl rfl rfl ?_ | refine r_st tab_ok rfl rfl rfl rfl ?_ | refine r_pick_f rfl rfl rfl rfl rfl rfl rfl ?_ | refine r_off rfl rfl rfl rfl rfl rfl ?_ | refine r_build tab_ok rfl rfl rfl rfl rfl rfl ?_ | refine r_built tab_ok rfl rfl rfl rfl rfl rfl rfl rfl rfl ?_) | refine awp_cond_f rfl ?_)
    refine r_by (fun _ => astep_conv_int tab_ok rfl rfl rfl rfl) rfl rfl rfl rfl rfl ?_
    repeat (first | refine awp_seq ?_ | refine thenA_normal ?_ | refine a_region ?_ | refine r_done ?_ | (refine r_id ?_; first | refine r_ev tab_ok rfl rfl rfl rfl (by first | exact trivial | exact ⟨by omega, by omega⟩ | omega | exact ⟨by omega, by omega, by omega, by omega⟩ | exact Nat.le_of_ble_eq_true rfl) rfl ?_))
    refine awp_cut ⟨[.box 33 [.val (.int .i64 10), .val (.string ⟨#[]⟩), .val (.int .i64 0), .val (.bool false), .val (.bool (decide ((0 : Int) < (k : Int)))), .val (.bool false)]], [(7, .val (.int .i64 k)), (10, .val (.int .i64 V)), (12, .sl 6 (([(⟨10, ⟨#[]⟩, 0, false, decide ((0 : Int) < (k : Int)), false⟩ : Tk)] : List Tk).map tD)), (14, .ptr 0 0), (15, .val (.int .u64 m))]⟩ ?_ ?_
    · refine awp_cond_p rfl (fun h => ?_) (fun h => ?_)
      · repeat (first | refine a_region ?_ | (refine r_id ?_; first | refine r_ev tab_ok rfl rfl rfl rfl (by first | exact trivial | exact ⟨by omega, by omega⟩ | omega | exact ⟨by omega, by omega, by omega, by omega⟩ | exact Nat.le_of_ble_eq_true rfl) rfl ?_))
        refine r_by (fun _ => astep_neg rfl rfl) rfl rfl rfl rfl rfl ?_
        rw [hw2 h]
        repeat (first | refine r_done ?_ | (refine r_id ?_; first | refine r_ev tab_ok rfl rfl rfl rfl (by first | exact trivial | exact ⟨by omega, by omega⟩ | omega | exact ⟨by omega, by omega, by omega, by omega⟩ | exact Nat.le_of_ble_eq_true rfl) rfl ?_))
        exact ⟨rfl, fits_of rfl (by repeat' first | exact trivial | exact Sub.refl _ | exact rfl | apply And.intro)⟩
      · rw [hw0 h]
        repeat (first | refine awp_skip ?_)
        exact ⟨rfl, fits_of rfl (by repeat' first | exact trivial | exact Sub.refl _ | exact rfl | apply And.intro)⟩
    repeat (first | refine awp_seq ?_ | refine thenA_normal ?_ | refine a_region ?_ | refine r_done ?_ | (refine r_id ?_; first | refine r_ev tab_ok rfl rfl rfl rfl (by first | exact trivial | exact ⟨by omega, by omega⟩ | omega | exact ⟨by omega, by omega, by omega, by omega⟩ | exact Nat.le_of_ble_eq_true rfl) rfl ?_))
    refine awp_cut ⟨[.box 33 [.val (.int .i64 10), .val (.string ⟨#[]⟩), .val (.int .i64 0), .val (.bool false), .val (.bool (decide ((0 : Int) < (k : Int)))), .val (.bool false)]], [(7, .val (.int .i64 k)), (10, .val (.int .i64 V)), (12, .sl 6 (([(⟨10, ⟨#[]⟩, 0, false, decide ((0 : Int) < (k : Int)), false⟩ : Tk)] : List Tk).map tD)), (14, .ptr 0 0), (15, .val (.int .u64 m)), (16, .val (.int .i64 H))]⟩ ?_ ?_
    · refine awp_cond_p rfl (fun h => ?_) (fun h => ?_)
      · rw [hH1 h]
        repeat (first | refine a_region ?_ | refine r_done ?_ | (refine r_id ?_; first | refine r_ev tab_ok rfl rfl rfl rfl (by first | exact trivial | exact ⟨by omega, by omega⟩ | omega | exact ⟨by omega, by omega, by omega, by omega⟩ | exact Nat.le_of_ble_eq_true rfl) rfl ?_))
        exact ⟨rfl, fits_of rfl (by repeat' first | exact trivial | exact Sub.refl _ | exact rfl | apply And.intro)⟩
      · rw [hH2 h]
        repeat (first | refine awp_skip ?_)
        exact ⟨rfl, fits_of rfl (by repeat' first | exact trivial | exact Sub.refl _ | exact rfl | apply And.intro)⟩
    repeat (first | refine awp_seq ?_ | refine thenA_normal ?_ | refine a_region ?_ | refine r_done ?_ | (refine r_id ?_; first | refine r_ev tab_ok rfl rfl rfl rfl (by first | exact trivial | exact ⟨by omega, by omega⟩ | omega | exact ⟨by omega, by omega, by omega, by omega⟩ | exact Nat.le_of_ble_eq_true rfl) rfl ?_))
    refine awp_cut ⟨[.box 33 [.val (.int .i64 10), .val (.string ⟨#[]⟩), .val (.int .i64 0), .val (.bool false), .val (.bool (decide ((0 : Int) < (k : Int)))), .val (.bool false)]], [(7, .val (.int .i64 k)), (10, .val (.int .i64 V)), (12, .sl 6 (([(⟨10, ⟨#[]⟩, 0, false, decide ((0 : Int) < (k : Int)), false⟩ : Tk)] : List Tk).map tD)), (14, .ptr 0 0), (16, .val (.int .i64 G))]⟩ ?_ ?_
    · refine awp_cond_p rfl (fun h => ?_) (fun h => ?_)
      · rw [hG1 h]
        repeat (first | refine a_region ?_ | refine r_done ?_ | (refine r_id ?_; first | refine r_ev tab_ok rfl rfl rfl rfl (by first | exact trivial | exact ⟨by omega, by omega⟩ | omega | exact ⟨by omega, by omega, by omega, by omega⟩ | exact Nat.le_of_ble_eq_true rfl) rfl ?_))
        exact ⟨rfl, fits_of rfl (by repeat' first | exact trivial | exact Sub.refl _ | exact rfl | apply And.intro)⟩
      · rw [hG2 h]
        repeat (first | refine awp_skip ?_)
        exact ⟨rfl, fits_of rfl (by repeat' first | exact trivial | exact Sub.refl _ | exact rfl | apply And.intro)⟩
    repeat (first | refine awp_seq ?_ | refine thenA_normal ?_ | refine a_region ?_ | refine r_done ?_ | (refine r_id ?_; first | refine r_ev tab_ok rfl rfl rfl rfl (by first | exact trivial | exact ⟨by omega, by omega⟩ | omega | exact ⟨by omega, by omega, by omega, by omega⟩ | exact Nat.le_of_ble_eq_true rfl) rfl ?_))
    refine awp_cut ⟨[.box 33 [.val (.int .i64 10), .val (.string ⟨#[]⟩), .val (.int .i64 0), .val (.bool false), .val (.bool (decide ((0 : Int) < (k : Int)))), .val (.bool false)]], [(7, .val (.int .i64 k)), (10, .val (.int .i64 V)), (12, .sl 6 (([(⟨10, ⟨#[]⟩, 0, false, decide ((0 : Int) < (k : Int)), false⟩ : Tk)] : List Tk).map tD)), (14, .ptr 0 0), (16, .val (.int .i64 V))]⟩ ?_ ?_
    · refine awp_cond_p rfl (fun h => ?_) (fun h => ?_)
      · repeat (first | refine a_region ?_ | refine r_done ?_ | (refine r_id ?_; first | refine r_ev tab_ok rfl rfl rfl rfl (by first | exact trivial | exact ⟨by omega, by omega⟩ | omega | exact ⟨by omega, by omega, by omega, by omega⟩ | exact Nat.le_of_ble_eq_true rfl) rfl ?_))
        exact ⟨rfl, fits_of rfl (by rw [hV1 h]; exact (by repeat' first | exact trivial | exact Sub.refl _ | exact rfl | apply And.intro))⟩
      · repeat (first | refine awp_skip ?_)
        exact ⟨rfl, fits_of rfl (by rw [hV2 h]; exact (by repeat' first | exact trivial | exact Sub.refl _ | exact rfl | apply And.intro))⟩
    repeat (first | refine awp_seq ?_ | refine a_draw1 mixed_ok (by kernel_rfl) ?_ | (refine r_id ?_; first | refine r_ev tab_ok rfl rfl rfl rfl (by first | exact trivial | exact ⟨by omega, by omega⟩ | omega | exact ⟨by omega, by omega, by omega, by omega⟩ | exact Nat.le_of_ble_eq_true rfl) rfl ?_ | refine r_ld tab_ok rfl rfl rfl rfl rfl ?_ | refine r_idxd tab_ok rfl rfl rfl rfl rfl rfl rfl (by decide) rfl rfl rfl ?_))
    refine r_eqT (c := (⟨10, ⟨#[]⟩, 0, false, decide ((0 : Int) < (k : Int)), false⟩ : Tk)) (d := (⟨10, ⟨#[]⟩, 0, false, decide ((0 : Int) < (k : Int)), false⟩ : Tk)) rfl rfl rfl rfl rfl rfl rfl ?_
    rw [eqT_self]
    repeat (first | (refine r_id ?_; first | refine r_ev tab_ok rfl rfl rfl rfl (by first | exact trivial | exact ⟨by omega, by omega⟩ | omega | exact ⟨by omega, by omega, by omega, by omega⟩ | exact Nat.le_of_ble_eq_true rfl) rfl ?_ | refine r_pick_t rfl rfl rfl rfl rfl rfl rfl ?_ | refine r_ev_on tab_ok rfl rfl rfl rfl rfl rfl (by first | exact trivial | exact ⟨by omega, by omega⟩ | omega) rfl ?_))
    rw [show decide (V = V) = true from decide_eq_true rfl]
    repeat (first | refine r_g rfl rfl rfl ?_)
    refine r_call awake2_ok call12 rfl rfl trivial rfl rfl rfl rfl ?_
    repeat (first | refine thenA_normal ?_ | refine awp_ret ?_ | refine r_done' ?_ | (refine r_id ?_; first | refine r_ev tab_ok rfl rfl rfl rfl (by first | exact trivial | exact ⟨by omega, by omega⟩ | omega | exact ⟨by omega, by omega, by omega, by omega⟩ | exact Nat.le_of_ble_eq_true rfl) rfl ?_ | refine r_pick_t rfl rfl rfl rfl rfl rfl rfl ?_) | refine ret1 (by first | exact .inl rfl | exact .inr rfl) rfl rfl rfl ?_)
    exact Sub.refl _
  · have hc : (⟨(sgB k ++ D).toArray⟩ : ByteArray) ++ (⟨#[101, 51]⟩ : ByteArray) = ⟨(sgB k ++ (D ++ enB 2)).toArray⟩ := by
      rw [show (⟨#[101, 51]⟩ : ByteArray) = ⟨[101, 51].toArray⟩ from rfl, cat_l, List.append_assoc]; rfl
    have hl : (sgB k ++ (D ++ enB 2)).length ≤ 25 := by
      rw [List.length_append, List.length_append]
      show _ + (_ + 2) ≤ 25
      omega
    repeat (first | refine awp_seq ?_ | refine a_region ?_ | refine r_done ?_ | (refine r_id ?_; first | refine r_ev tab_ok rfl rfl rfl rfl (by first | exact trivial | exact ⟨by omega, by omega⟩ | omega | exact ⟨by omega, by omega, by omega, by omega⟩ | exact Nat.le_of_ble_eq_true rfl) rfl ?_ | refine r_idxd tab_ok rfl rfl rfl rfl rfl rfl rfl (by decide) rfl rfl rfl ?_ | refine r_built tab_ok rfl rfl rfl rfl rfl rfl rfl rfl rfl ?_))
    refine r_call (show PCalls Tryd.prog 19 [.val (.string ((⟨(sgB k ++ D).toArray⟩ : ByteArray) ++ (⟨#[101, 51]⟩ : ByteArray)))] (.sl 6 (([(⟨10, ⟨#[]⟩, 0, false, decide ((0 : Int) < (k : Int)), false⟩ : Tk)] : List Tk).map tD)) by
      have := hnt 2 (by decide)
      rw [hc, show [(⟨10, ⟨#[]⟩, 0, false, decide ((0 : Int) < (k : Int)), false⟩ : Tk)] = toks ⟨(sgB k ++ (D ++ enB 2)).toArray⟩ from this.symm]; exact all2_ok _ (by rw [sz_list]; omega)) call19 rfl rfl ⟨Sub.refl _, trivial⟩ rfl rfl rfl rfl ?_
    repeat (first | refine awp_seq ?_ | refine thenA_normal ?_ | refine a_region ?_ | refine awp_skip ?_ | refine r_done ?_ | (refine r_id ?_; first | refine r_len tab_ok rfl rfl rfl rfl rfl rfl rfl ?_ | refine r_ev tab_ok rfl rfl rfl rfl (by first | exact trivial | exact ⟨by omega, by omega⟩ | omega | exact ⟨by omega, by omega, by omega, by omega⟩ | exact Nat.le_of_ble_eq_true rfl) rfl ?_ | refine r_idxd tab_ok rfl rfl rfl rfl rfl rfl rfl (by decide) rfl rfl rfl ?_ | refine r_wr tab_ok rfl rfl rfl rfl rfl ?_ | refine r_st tab_ok rfl rfl rfl rfl ?_ | refine r_pick_t rfl rfl rfl rfl rfl rfl rfl ?_ | refine r_ev_on tab_ok rfl rfl rfl rfl rfl rfl (by first | exact trivial | exact ⟨by omega, by omega⟩ | omega) rfl ?_ | refine r_build tab_ok rfl rfl rfl rfl rfl rfl ?_ | refine r_built tab_ok rfl rfl rfl rfl rfl rfl rfl rfl rfl ?_) | refine awp_cond_f rfl ?_)
    refine r_by (fun _ => astep_conv_int tab_ok rfl rfl rfl rfl) rfl rfl rfl rfl rfl ?_
    repeat (first | refine awp_seq ?_ | refine thenA_normal ?_ | refine a_region ?_ | refine r_done ?_ | (refine r_id ?_; first | refine r_ev tab_ok rfl rfl rfl rfl (by first | exact trivial | exact ⟨by omega, by omega⟩ | omega | exact ⟨by omega, by omega, by omega, by omega⟩ | exact Nat.le_of_ble_eq_true rfl) rfl ?_))
    refine awp_cut ⟨[.box 33 [.val (.int .i64 10), .val (.string ⟨#[]⟩), .val (.int .i64 0), .val (.bool false), .val (.bool (decide ((0 : Int) < (k : Int)))), .val (.bool false)]], [(7, .val (.int .i64 k)), (10, .val (.int .i64 V)), (12, .sl 6 (([(⟨10, ⟨#[]⟩, 0, false, decide ((0 : Int) < (k : Int)), false⟩ : Tk)] : List Tk).map tD)), (14, .ptr 0 0), (15, .val (.int .u64 m))]⟩ ?_ ?_
    · refine awp_cond_p rfl (fun h => ?_) (fun h => ?_)
      · repeat (first | refine a_region ?_ | (refine r_id ?_; first | refine r_ev tab_ok rfl rfl rfl rfl (by first | exact trivial | exact ⟨by omega, by omega⟩ | omega | exact ⟨by omega, by omega, by omega, by omega⟩ | exact Nat.le_of_ble_eq_true rfl) rfl ?_))
        refine r_by (fun _ => astep_neg rfl rfl) rfl rfl rfl rfl rfl ?_
        rw [hw2 h]
        repeat (first | refine r_done ?_ | (refine r_id ?_; first | refine r_ev tab_ok rfl rfl rfl rfl (by first | exact trivial | exact ⟨by omega, by omega⟩ | omega | exact ⟨by omega, by omega, by omega, by omega⟩ | exact Nat.le_of_ble_eq_true rfl) rfl ?_))
        exact ⟨rfl, fits_of rfl (by repeat' first | exact trivial | exact Sub.refl _ | exact rfl | apply And.intro)⟩
      · rw [hw0 h]
        repeat (first | refine awp_skip ?_)
        exact ⟨rfl, fits_of rfl (by repeat' first | exact trivial | exact Sub.refl _ | exact rfl | apply And.intro)⟩
    repeat (first | refine awp_seq ?_ | refine thenA_normal ?_ | refine a_region ?_ | refine r_done ?_ | (refine r_id ?_; first | refine r_ev tab_ok rfl rfl rfl rfl (by first | exact trivial | exact ⟨by omega, by omega⟩ | omega | exact ⟨by omega, by omega, by omega, by omega⟩ | exact Nat.le_of_ble_eq_true rfl) rfl ?_))
    refine awp_cut ⟨[.box 33 [.val (.int .i64 10), .val (.string ⟨#[]⟩), .val (.int .i64 0), .val (.bool false), .val (.bool (decide ((0 : Int) < (k : Int)))), .val (.bool false)]], [(7, .val (.int .i64 k)), (10, .val (.int .i64 V)), (12, .sl 6 (([(⟨10, ⟨#[]⟩, 0, false, decide ((0 : Int) < (k : Int)), false⟩ : Tk)] : List Tk).map tD)), (14, .ptr 0 0), (15, .val (.int .u64 m)), (16, .val (.int .i64 H))]⟩ ?_ ?_
    · refine awp_cond_p rfl (fun h => ?_) (fun h => ?_)
      · rw [hH1 h]
        repeat (first | refine a_region ?_ | refine r_done ?_ | (refine r_id ?_; first | refine r_ev tab_ok rfl rfl rfl rfl (by first | exact trivial | exact ⟨by omega, by omega⟩ | omega | exact ⟨by omega, by omega, by omega, by omega⟩ | exact Nat.le_of_ble_eq_true rfl) rfl ?_))
        exact ⟨rfl, fits_of rfl (by repeat' first | exact trivial | exact Sub.refl _ | exact rfl | apply And.intro)⟩
      · rw [hH2 h]
        repeat (first | refine awp_skip ?_)
        exact ⟨rfl, fits_of rfl (by repeat' first | exact trivial | exact Sub.refl _ | exact rfl | apply And.intro)⟩
    repeat (first | refine awp_seq ?_ | refine thenA_normal ?_ | refine a_region ?_ | refine r_done ?_ | (refine r_id ?_; first | refine r_ev tab_ok rfl rfl rfl rfl (by first | exact trivial | exact ⟨by omega, by omega⟩ | omega | exact ⟨by omega, by omega, by omega, by omega⟩ | exact Nat.le_of_ble_eq_true rfl) rfl ?_))
    refine awp_cut ⟨[.box 33 [.val (.int .i64 10), .val (.string ⟨#[]⟩), .val (.int .i64 0), .val (.bool false), .val (.bool (decide ((0 : Int) < (k : Int)))), .val (.bool false)]], [(7, .val (.int .i64 k)), (10, .val (.int .i64 V)), (12, .sl 6 (([(⟨10, ⟨#[]⟩, 0, false, decide ((0 : Int) < (k : Int)), false⟩ : Tk)] : List Tk).map tD)), (14, .ptr 0 0), (16, .val (.int .i64 G))]⟩ ?_ ?_
    · refine awp_cond_p rfl (fun h => ?_) (fun h => ?_)
      · rw [hG1 h]
        repeat (first | refine a_region ?_ | refine r_done ?_ | (refine r_id ?_; first | refine r_ev tab_ok rfl rfl rfl rfl (by first | exact trivial | exact ⟨by omega, by omega⟩ | omega | exact ⟨by omega, by omega, by omega, by omega⟩ | exact Nat.le_of_ble_eq_true rfl) rfl ?_))
        exact ⟨rfl, fits_of rfl (by repeat' first | exact trivial | exact Sub.refl _ | exact rfl | apply And.intro)⟩
      · rw [hG2 h]
        repeat (first | refine awp_skip ?_)
        exact ⟨rfl, fits_of rfl (by repeat' first | exact trivial | exact Sub.refl _ | exact rfl | apply And.intro)⟩
    repeat (first | refine awp_seq ?_ | refine thenA_normal ?_ | refine a_region ?_ | refine r_done ?_ | (refine r_id ?_; first | refine r_ev tab_ok rfl rfl rfl rfl (by first | exact trivial | exact ⟨by omega, by omega⟩ | omega | exact ⟨by omega, by omega, by omega, by omega⟩ | exact Nat.le_of_ble_eq_true rfl) rfl ?_))
    refine awp_cut ⟨[.box 33 [.val (.int .i64 10), .val (.string ⟨#[]⟩), .val (.int .i64 0), .val (.bool false), .val (.bool (decide ((0 : Int) < (k : Int)))), .val (.bool false)]], [(7, .val (.int .i64 k)), (10, .val (.int .i64 V)), (12, .sl 6 (([(⟨10, ⟨#[]⟩, 0, false, decide ((0 : Int) < (k : Int)), false⟩ : Tk)] : List Tk).map tD)), (14, .ptr 0 0), (16, .val (.int .i64 V))]⟩ ?_ ?_
    · refine awp_cond_p rfl (fun h => ?_) (fun h => ?_)
      · repeat (first | refine a_region ?_ | refine r_done ?_ | (refine r_id ?_; first | refine r_ev tab_ok rfl rfl rfl rfl (by first | exact trivial | exact ⟨by omega, by omega⟩ | omega | exact ⟨by omega, by omega, by omega, by omega⟩ | exact Nat.le_of_ble_eq_true rfl) rfl ?_))
        exact ⟨rfl, fits_of rfl (by rw [hV1 h]; exact (by repeat' first | exact trivial | exact Sub.refl _ | exact rfl | apply And.intro))⟩
      · repeat (first | refine awp_skip ?_)
        exact ⟨rfl, fits_of rfl (by rw [hV2 h]; exact (by repeat' first | exact trivial | exact Sub.refl _ | exact rfl | apply And.intro))⟩
    repeat (first | refine awp_seq ?_ | refine a_draw1 mixed_ok (by kernel_rfl) ?_ | (refine r_id ?_; first | refine r_ev tab_ok rfl rfl rfl rfl (by first | exact trivial | exact ⟨by omega, by omega⟩ | omega | exact ⟨by omega, by omega, by omega, by omega⟩ | exact Nat.le_of_ble_eq_true rfl) rfl ?_ | refine r_ld tab_ok rfl rfl rfl rfl rfl ?_ | refine r_idxd tab_ok rfl rfl rfl rfl rfl rfl rfl (by decide) rfl rfl rfl ?_))
    refine r_eqT (c := (⟨10, ⟨#[]⟩, 0, false, decide ((0 : Int) < (k : Int)), false⟩ : Tk)) (d := (⟨10, ⟨#[]⟩, 0, false, decide ((0 : Int) < (k : Int)), false⟩ : Tk)) rfl rfl rfl rfl rfl rfl rfl ?_
    rw [eqT_self]
    repeat (first | (refine r_id ?_; first | refine r_ev tab_ok rfl rfl rfl rfl (by first | exact trivial | exact ⟨by omega, by omega⟩ | omega | exact ⟨by omega, by omega, by omega, by omega⟩ | exact Nat.le_of_ble_eq_true rfl) rfl ?_ | refine r_pick_t rfl rfl rfl rfl rfl rfl rfl ?_ | refine r_ev_on tab_ok rfl rfl rfl rfl rfl rfl (by first | exact trivial | exact ⟨by omega, by omega⟩ | omega) rfl ?_))
    rw [show decide (V = V) = true from decide_eq_true rfl]
    repeat (first | refine r_g rfl rfl rfl ?_)
    refine r_call awake2_ok call12 rfl rfl trivial rfl rfl rfl rfl ?_
    repeat (first | refine thenA_normal ?_ | refine awp_ret ?_ | refine r_done' ?_ | (refine r_id ?_; first | refine r_ev tab_ok rfl rfl rfl rfl (by first | exact trivial | exact ⟨by omega, by omega⟩ | omega | exact ⟨by omega, by omega, by omega, by omega⟩ | exact Nat.le_of_ble_eq_true rfl) rfl ?_ | refine r_pick_t rfl rfl rfl rfl rfl rfl rfl ?_) | refine ret1 (by first | exact .inl rfl | exact .inr rfl) rfl rfl rfl ?_)
    exact Sub.refl _
  · have hc : (⟨(sgB k ++ D).toArray⟩ : ByteArray) ++ (⟨#[112, 120]⟩ : ByteArray) = ⟨(sgB k ++ (D ++ enB 3)).toArray⟩ := by
      rw [show (⟨#[112, 120]⟩ : ByteArray) = ⟨[112, 120].toArray⟩ from rfl, cat_l, List.append_assoc]; rfl
    have hl : (sgB k ++ (D ++ enB 3)).length ≤ 25 := by
      rw [List.length_append, List.length_append]
      show _ + (_ + 2) ≤ 25
      omega
    repeat (first | refine awp_seq ?_ | refine a_region ?_ | refine r_done ?_ | (refine r_id ?_; first | refine r_ev tab_ok rfl rfl rfl rfl (by first | exact trivial | exact ⟨by omega, by omega⟩ | omega | exact ⟨by omega, by omega, by omega, by omega⟩ | exact Nat.le_of_ble_eq_true rfl) rfl ?_ | refine r_idxd tab_ok rfl rfl rfl rfl rfl rfl rfl (by decide) rfl rfl rfl ?_ | refine r_built tab_ok rfl rfl rfl rfl rfl rfl rfl rfl rfl ?_))
    refine r_call (show PCalls Tryd.prog 19 [.val (.string ((⟨(sgB k ++ D).toArray⟩ : ByteArray) ++ (⟨#[112, 120]⟩ : ByteArray)))] (.sl 6 (([(⟨12, ⟨#[112, 120]⟩, V, true, decide ((0 : Int) < (k : Int)), false⟩ : Tk)] : List Tk).map tD)) by
      have := hnt 3 (by decide)
      rw [hc, show [(⟨12, ⟨#[112, 120]⟩, V, true, decide ((0 : Int) < (k : Int)), false⟩ : Tk)] = toks ⟨(sgB k ++ (D ++ enB 3)).toArray⟩ from this.symm]; exact all2_ok _ (by rw [sz_list]; omega)) call19 rfl rfl ⟨Sub.refl _, trivial⟩ rfl rfl rfl rfl ?_
    repeat (first | refine awp_seq ?_ | refine thenA_normal ?_ | refine a_region ?_ | refine awp_skip ?_ | refine r_done ?_ | (refine r_id ?_; first | refine r_len tab_ok rfl rfl rfl rfl rfl rfl rfl ?_ | refine r_ev tab_ok rfl rfl rfl rfl (by first | exact trivial | exact ⟨by omega, by omega⟩ | omega | exact ⟨by omega, by omega, by omega, by omega⟩ | exact Nat.le_of_ble_eq_true rfl) rfl ?_ | refine r_idxd tab_ok rfl rfl rfl rfl rfl rfl rfl (by decide) rfl rfl rfl ?_ | refine r_wr tab_ok rfl rfl rfl rfl rfl ?_ | refine r_st tab_ok rfl rfl rfl rfl ?_ | refine r_pick_t rfl rfl rfl rfl rfl rfl rfl ?_ | refine r_ev_on tab_ok rfl rfl rfl rfl rfl rfl (by first | exact trivial | exact ⟨by omega, by omega⟩ | omega) rfl ?_ | refine r_build tab_ok rfl rfl rfl rfl rfl rfl ?_ | refine r_built tab_ok rfl rfl rfl rfl rfl rfl rfl rfl rfl ?_) | refine awp_cond_t rfl ?_ | refine awp_cond_f rfl ?_)
    refine r_by (fun _ => astep_conv_int tab_ok rfl rfl rfl rfl) rfl rfl rfl rfl rfl ?_
    repeat (first | refine awp_seq ?_ | refine thenA_normal ?_ | refine a_region ?_ | refine r_done ?_ | (refine r_id ?_; first | refine r_ev tab_ok rfl rfl rfl rfl (by first | exact trivial | exact ⟨by omega, by omega⟩ | omega | exact ⟨by omega, by omega, by omega, by omega⟩ | exact Nat.le_of_ble_eq_true rfl) rfl ?_))
    refine awp_cut ⟨[.box 33 [.val (.int .i64 12), .val (.string ⟨#[112, 120]⟩), .val (.int .i64 V), .val (.bool true), .val (.bool (decide ((0 : Int) < (k : Int)))), .val (.bool false)]], [(7, .val (.int .i64 k)), (10, .val (.int .i64 V)), (12, .sl 6 (([(⟨12, ⟨#[112, 120]⟩, V, true, decide ((0 : Int) < (k : Int)), false⟩ : Tk)] : List Tk).map tD)), (14, .ptr 0 0), (15, .val (.int .u64 m))]⟩ ?_ ?_
    · refine awp_cond_p rfl (fun h => ?_) (fun h => ?_)
      · repeat (first | refine a_region ?_ | (refine r_id ?_; first | refine r_ev tab_ok rfl rfl rfl rfl (by first | exact trivial | exact ⟨by omega, by omega⟩ | omega | exact ⟨by omega, by omega, by omega, by omega⟩ | exact Nat.le_of_ble_eq_true rfl) rfl ?_))
        refine r_by (fun _ => astep_neg rfl rfl) rfl rfl rfl rfl rfl ?_
        rw [hw2 h]
        repeat (first | refine r_done ?_ | (refine r_id ?_; first | refine r_ev tab_ok rfl rfl rfl rfl (by first | exact trivial | exact ⟨by omega, by omega⟩ | omega | exact ⟨by omega, by omega, by omega, by omega⟩ | exact Nat.le_of_ble_eq_true rfl) rfl ?_))
        exact ⟨rfl, fits_of rfl (by repeat' first | exact trivial | exact Sub.refl _ | exact rfl | apply And.intro)⟩
      · rw [hw0 h]
        repeat (first | refine awp_skip ?_)
        exact ⟨rfl, fits_of rfl (by repeat' first | exact trivial | exact Sub.refl _ | exact rfl | apply And.intro)⟩
    repeat (first | refine awp_seq ?_ | refine thenA_normal ?_ | refine a_region ?_ | refine r_done ?_ | (refine r_id ?_; first | refine r_ev tab_ok rfl rfl rfl rfl (by first | exact trivial | exact ⟨by omega, by omega⟩ | omega | exact ⟨by omega, by omega, by omega, by omega⟩ | exact Nat.le_of_ble_eq_true rfl) rfl ?_))
    refine awp_cut ⟨[.box 33 [.val (.int .i64 12), .val (.string ⟨#[112, 120]⟩), .val (.int .i64 V), .val (.bool true), .val (.bool (decide ((0 : Int) < (k : Int)))), .val (.bool false)]], [(7, .val (.int .i64 k)), (10, .val (.int .i64 V)), (12, .sl 6 (([(⟨12, ⟨#[112, 120]⟩, V, true, decide ((0 : Int) < (k : Int)), false⟩ : Tk)] : List Tk).map tD)), (14, .ptr 0 0), (15, .val (.int .u64 m)), (16, .val (.int .i64 H))]⟩ ?_ ?_
    · refine awp_cond_p rfl (fun h => ?_) (fun h => ?_)
      · rw [hH1 h]
        repeat (first | refine a_region ?_ | refine r_done ?_ | (refine r_id ?_; first | refine r_ev tab_ok rfl rfl rfl rfl (by first | exact trivial | exact ⟨by omega, by omega⟩ | omega | exact ⟨by omega, by omega, by omega, by omega⟩ | exact Nat.le_of_ble_eq_true rfl) rfl ?_))
        exact ⟨rfl, fits_of rfl (by repeat' first | exact trivial | exact Sub.refl _ | exact rfl | apply And.intro)⟩
      · rw [hH2 h]
        repeat (first | refine awp_skip ?_)
        exact ⟨rfl, fits_of rfl (by repeat' first | exact trivial | exact Sub.refl _ | exact rfl | apply And.intro)⟩
    repeat (first | refine awp_seq ?_ | refine thenA_normal ?_ | refine a_region ?_ | refine r_done ?_ | (refine r_id ?_; first | refine r_ev tab_ok rfl rfl rfl rfl (by first | exact trivial | exact ⟨by omega, by omega⟩ | omega | exact ⟨by omega, by omega, by omega, by omega⟩ | exact Nat.le_of_ble_eq_true rfl) rfl ?_))
    refine awp_cut ⟨[.box 33 [.val (.int .i64 12), .val (.string ⟨#[112, 120]⟩), .val (.int .i64 V), .val (.bool true), .val (.bool (decide ((0 : Int) < (k : Int)))), .val (.bool false)]], [(7, .val (.int .i64 k)), (10, .val (.int .i64 V)), (12, .sl 6 (([(⟨12, ⟨#[112, 120]⟩, V, true, decide ((0 : Int) < (k : Int)), false⟩ : Tk)] : List Tk).map tD)), (14, .ptr 0 0), (16, .val (.int .i64 G))]⟩ ?_ ?_
    · refine awp_cond_p rfl (fun h => ?_) (fun h => ?_)
      · rw [hG1 h]
        repeat (first | refine a_region ?_ | refine r_done ?_ | (refine r_id ?_; first | refine r_ev tab_ok rfl rfl rfl rfl (by first | exact trivial | exact ⟨by omega, by omega⟩ | omega | exact ⟨by omega, by omega, by omega, by omega⟩ | exact Nat.le_of_ble_eq_true rfl) rfl ?_))
        exact ⟨rfl, fits_of rfl (by repeat' first | exact trivial | exact Sub.refl _ | exact rfl | apply And.intro)⟩
      · rw [hG2 h]
        repeat (first | refine awp_skip ?_)
        exact ⟨rfl, fits_of rfl (by repeat' first | exact trivial | exact Sub.refl _ | exact rfl | apply And.intro)⟩
    repeat (first | refine awp_seq ?_ | refine thenA_normal ?_ | refine a_region ?_ | refine r_done ?_ | (refine r_id ?_; first | refine r_ev tab_ok rfl rfl rfl rfl (by first | exact trivial | exact ⟨by omega, by omega⟩ | omega | exact ⟨by omega, by omega, by omega, by omega⟩ | exact Nat.le_of_ble_eq_true rfl) rfl ?_))
    refine awp_cut ⟨[.box 33 [.val (.int .i64 12), .val (.string ⟨#[112, 120]⟩), .val (.int .i64 V), .val (.bool true), .val (.bool (decide ((0 : Int) < (k : Int)))), .val (.bool false)]], [(7, .val (.int .i64 k)), (10, .val (.int .i64 V)), (12, .sl 6 (([(⟨12, ⟨#[112, 120]⟩, V, true, decide ((0 : Int) < (k : Int)), false⟩ : Tk)] : List Tk).map tD)), (14, .ptr 0 0), (16, .val (.int .i64 V))]⟩ ?_ ?_
    · refine awp_cond_p rfl (fun h => ?_) (fun h => ?_)
      · repeat (first | refine a_region ?_ | refine r_done ?_ | (refine r_id ?_; first | refine r_ev tab_ok rfl rfl rfl rfl (by first | exact trivial | exact ⟨by omega, by omega⟩ | omega | exact ⟨by omega, by omega, by omega, by omega⟩ | exact Nat.le_of_ble_eq_true rfl) rfl ?_))
        exact ⟨rfl, fits_of rfl (by rw [hV1 h]; exact (by repeat' first | exact trivial | exact Sub.refl _ | exact rfl | apply And.intro))⟩
      · repeat (first | refine awp_skip ?_)
        exact ⟨rfl, fits_of rfl (by rw [hV2 h]; exact (by repeat' first | exact trivial | exact Sub.refl _ | exact rfl | apply And.intro))⟩
    repeat (first | refine awp_seq ?_ | refine a_draw1 mixed_ok (by kernel_rfl) ?_ | (refine r_id ?_; first | refine r_ev tab_ok rfl rfl rfl rfl (by first | exact trivial | exact ⟨by omega, by omega⟩ | omega | exact ⟨by omega, by omega, by omega, by omega⟩ | exact Nat.le_of_ble_eq_true rfl) rfl ?_ | refine r_ld tab_ok rfl rfl rfl rfl rfl ?_ | refine r_idxd tab_ok rfl rfl rfl rfl rfl rfl rfl (by decide) rfl rfl rfl ?_))
    refine r_eqT (c := (⟨12, ⟨#[112, 120]⟩, V, true, decide ((0 : Int) < (k : Int)), false⟩ : Tk)) (d := (⟨12, ⟨#[112, 120]⟩, V, true, decide ((0 : Int) < (k : Int)), false⟩ : Tk)) rfl rfl rfl rfl rfl rfl rfl ?_
    rw [eqT_self]
    repeat (first | (refine r_id ?_; first | refine r_ev tab_ok rfl rfl rfl rfl (by first | exact trivial | exact ⟨by omega, by omega⟩ | omega | exact ⟨by omega, by omega, by omega, by omega⟩ | exact Nat.le_of_ble_eq_true rfl) rfl ?_ | refine r_pick_t rfl rfl rfl rfl rfl rfl rfl ?_ | refine r_ev_on tab_ok rfl rfl rfl rfl rfl rfl (by first | exact trivial | exact ⟨by omega, by omega⟩ | omega) rfl ?_))
    rw [show decide (V = V) = true from decide_eq_true rfl]
    repeat (first | refine r_g rfl rfl rfl ?_)
    refine r_call awake2_ok call12 rfl rfl trivial rfl rfl rfl rfl ?_
    repeat (first | refine thenA_normal ?_ | refine awp_ret ?_ | refine r_done' ?_ | (refine r_id ?_; first | refine r_ev tab_ok rfl rfl rfl rfl (by first | exact trivial | exact ⟨by omega, by omega⟩ | omega | exact ⟨by omega, by omega, by omega, by omega⟩ | exact Nat.le_of_ble_eq_true rfl) rfl ?_ | refine r_pick_t rfl rfl rfl rfl rfl rfl rfl ?_) | refine ret1 (by first | exact .inl rfl | exact .inr rfl) rfl rfl rfl ?_)
    exact Sub.refl _
  · have hc : (⟨(sgB k ++ D).toArray⟩ : ByteArray) ++ (⟨#[37]⟩ : ByteArray) = ⟨(sgB k ++ (D ++ enB 4)).toArray⟩ := by
      rw [show (⟨#[37]⟩ : ByteArray) = ⟨[37].toArray⟩ from rfl, cat_l, List.append_assoc]; rfl
    have hl : (sgB k ++ (D ++ enB 4)).length ≤ 25 := by
      rw [List.length_append, List.length_append]
      show _ + (_ + 1) ≤ 25
      omega
    repeat (first | refine awp_seq ?_ | refine a_region ?_ | refine r_done ?_ | (refine r_id ?_; first | refine r_ev tab_ok rfl rfl rfl rfl (by first | exact trivial | exact ⟨by omega, by omega⟩ | omega | exact ⟨by omega, by omega, by omega, by omega⟩ | exact Nat.le_of_ble_eq_true rfl) rfl ?_ | refine r_idxd tab_ok rfl rfl rfl rfl rfl rfl rfl (by decide) rfl rfl rfl ?_ | refine r_built tab_ok rfl rfl rfl rfl rfl rfl rfl rfl rfl ?_))
    refine r_call (show PCalls Tryd.prog 19 [.val (.string ((⟨(sgB k ++ D).toArray⟩ : ByteArray) ++ (⟨#[37]⟩ : ByteArray)))] (.sl 6 (([(⟨11, ⟨#[]⟩, V, true, decide ((0 : Int) < (k : Int)), false⟩ : Tk)] : List Tk).map tD)) by
      have := hnt 4 (by decide)
      rw [hc, show [(⟨11, ⟨#[]⟩, V, true, decide ((0 : Int) < (k : Int)), false⟩ : Tk)] = toks ⟨(sgB k ++ (D ++ enB 4)).toArray⟩ from this.symm]; exact all2_ok _ (by rw [sz_list]; omega)) call19 rfl rfl ⟨Sub.refl _, trivial⟩ rfl rfl rfl rfl ?_
    repeat (first | refine awp_seq ?_ | refine thenA_normal ?_ | refine a_region ?_ | refine awp_skip ?_ | refine r_done ?_ | (refine r_id ?_; first | refine r_len tab_ok rfl rfl rfl rfl rfl rfl rfl ?_ | refine r_ev tab_ok rfl rfl rfl rfl (by first | exact trivial | exact ⟨by omega, by omega⟩ | omega | exact ⟨by omega, by omega, by omega, by omega⟩ | exact Nat.le_of_ble_eq_true rfl) rfl ?_ | refine r_idxd tab_ok rfl rfl rfl rfl rfl rfl rfl (by decide) rfl rfl rfl ?_ | refine r_wr tab_ok rfl rfl rfl rfl rfl ?_ | refine r_st tab_ok rfl rfl rfl rfl ?_ | refine r_pick_t rfl rfl rfl rfl rfl rfl rfl ?_ | refine r_ev_on tab_ok rfl rfl rfl rfl rfl rfl (by first | exact trivial | exact ⟨by omega, by omega⟩ | omega) rfl ?_ | refine r_build tab_ok rfl rfl rfl rfl rfl rfl ?_ | refine r_built tab_ok rfl rfl rfl rfl rfl rfl rfl rfl rfl ?_) | refine awp_cond_t rfl ?_ | refine awp_cond_f rfl ?_)
    refine r_by (fun _ => astep_conv_int tab_ok rfl rfl rfl rfl) rfl rfl rfl rfl rfl ?_
    repeat (first | refine awp_seq ?_ | refine thenA_normal ?_ | refine a_region ?_ | refine r_done ?_ | (refine r_id ?_; first | refine r_ev tab_ok rfl rfl rfl rfl (by first | exact trivial | exact ⟨by omega, by omega⟩ | omega | exact ⟨by omega, by omega, by omega, by omega⟩ | exact Nat.le_of_ble_eq_true rfl) rfl ?_))
    refine awp_cut ⟨[.box 33 [.val (.int .i64 11), .val (.string ⟨#[]⟩), .val (.int .i64 V), .val (.bool true), .val (.bool (decide ((0 : Int) < (k : Int)))), .val (.bool false)]], [(7, .val (.int .i64 k)), (10, .val (.int .i64 V)), (12, .sl 6 (([(⟨11, ⟨#[]⟩, V, true, decide ((0 : Int) < (k : Int)), false⟩ : Tk)] : List Tk).map tD)), (14, .ptr 0 0), (15, .val (.int .u64 m))]⟩ ?_ ?_
    · refine awp_cond_p rfl (fun h => ?_) (fun h => ?_)
      · repeat (first | refine a_region ?_ | (refine r_id ?_; first | refine r_ev tab_ok rfl rfl rfl rfl (by first | exact trivial | exact ⟨by omega, by omega⟩ | omega | exact ⟨by omega, by omega, by omega, by omega⟩ | exact Nat.le_of_ble_eq_true rfl) rfl ?_))
        refine r_by (fun _ => astep_neg rfl rfl) rfl rfl rfl rfl rfl ?_
        rw [hw2 h]
        repeat (first | refine r_done ?_ | (refine r_id ?_; first | refine r_ev tab_ok rfl rfl rfl rfl (by first | exact trivial | exact ⟨by omega, by omega⟩ | omega | exact ⟨by omega, by omega, by omega, by omega⟩ | exact Nat.le_of_ble_eq_true rfl) rfl ?_))
        exact ⟨rfl, fits_of rfl (by repeat' first | exact trivial | exact Sub.refl _ | exact rfl | apply And.intro)⟩
      · rw [hw0 h]
        repeat (first | refine awp_skip ?_)
        exact ⟨rfl, fits_of rfl (by repeat' first | exact trivial | exact Sub.refl _ | exact rfl | apply And.intro)⟩
    repeat (first | refine awp_seq ?_ | refine thenA_normal ?_ | refine a_region ?_ | refine r_done ?_ | (refine r_id ?_; first | refine r_ev tab_ok rfl rfl rfl rfl (by first | exact trivial | exact ⟨by omega, by omega⟩ | omega | exact ⟨by omega, by omega, by omega, by omega⟩ | exact Nat.le_of_ble_eq_true rfl) rfl ?_))
    refine awp_cut ⟨[.box 33 [.val (.int .i64 11), .val (.string ⟨#[]⟩), .val (.int .i64 V), .val (.bool true), .val (.bool (decide ((0 : Int) < (k : Int)))), .val (.bool false)]], [(7, .val (.int .i64 k)), (10, .val (.int .i64 V)), (12, .sl 6 (([(⟨11, ⟨#[]⟩, V, true, decide ((0 : Int) < (k : Int)), false⟩ : Tk)] : List Tk).map tD)), (14, .ptr 0 0), (15, .val (.int .u64 m)), (16, .val (.int .i64 H))]⟩ ?_ ?_
    · refine awp_cond_p rfl (fun h => ?_) (fun h => ?_)
      · rw [hH1 h]
        repeat (first | refine a_region ?_ | refine r_done ?_ | (refine r_id ?_; first | refine r_ev tab_ok rfl rfl rfl rfl (by first | exact trivial | exact ⟨by omega, by omega⟩ | omega | exact ⟨by omega, by omega, by omega, by omega⟩ | exact Nat.le_of_ble_eq_true rfl) rfl ?_))
        exact ⟨rfl, fits_of rfl (by repeat' first | exact trivial | exact Sub.refl _ | exact rfl | apply And.intro)⟩
      · rw [hH2 h]
        repeat (first | refine awp_skip ?_)
        exact ⟨rfl, fits_of rfl (by repeat' first | exact trivial | exact Sub.refl _ | exact rfl | apply And.intro)⟩
    repeat (first | refine awp_seq ?_ | refine thenA_normal ?_ | refine a_region ?_ | refine r_done ?_ | (refine r_id ?_; first | refine r_ev tab_ok rfl rfl rfl rfl (by first | exact trivial | exact ⟨by omega, by omega⟩ | omega | exact ⟨by omega, by omega, by omega, by omega⟩ | exact Nat.le_of_ble_eq_true rfl) rfl ?_))
    refine awp_cut ⟨[.box 33 [.val (.int .i64 11), .val (.string ⟨#[]⟩), .val (.int .i64 V), .val (.bool true), .val (.bool (decide ((0 : Int) < (k : Int)))), .val (.bool false)]], [(7, .val (.int .i64 k)), (10, .val (.int .i64 V)), (12, .sl 6 (([(⟨11, ⟨#[]⟩, V, true, decide ((0 : Int) < (k : Int)), false⟩ : Tk)] : List Tk).map tD)), (14, .ptr 0 0), (16, .val (.int .i64 G))]⟩ ?_ ?_
    · refine awp_cond_p rfl (fun h => ?_) (fun h => ?_)
      · rw [hG1 h]
        repeat (first | refine a_region ?_ | refine r_done ?_ | (refine r_id ?_; first | refine r_ev tab_ok rfl rfl rfl rfl (by first | exact trivial | exact ⟨by omega, by omega⟩ | omega | exact ⟨by omega, by omega, by omega, by omega⟩ | exact Nat.le_of_ble_eq_true rfl) rfl ?_))
        exact ⟨rfl, fits_of rfl (by repeat' first | exact trivial | exact Sub.refl _ | exact rfl | apply And.intro)⟩
      · rw [hG2 h]
        repeat (first | refine awp_skip ?_)
        exact ⟨rfl, fits_of rfl (by repeat' first | exact trivial | exact Sub.refl _ | exact rfl | apply And.intro)⟩
    repeat (first | refine awp_seq ?_ | refine thenA_normal ?_ | refine a_region ?_ | refine r_done ?_ | (refine r_id ?_; first | refine r_ev tab_ok rfl rfl rfl rfl (by first | exact trivial | exact ⟨by omega, by omega⟩ | omega | exact ⟨by omega, by omega, by omega, by omega⟩ | exact Nat.le_of_ble_eq_true rfl) rfl ?_))
    refine awp_cut ⟨[.box 33 [.val (.int .i64 11), .val (.string ⟨#[]⟩), .val (.int .i64 V), .val (.bool true), .val (.bool (decide ((0 : Int) < (k : Int)))), .val (.bool false)]], [(7, .val (.int .i64 k)), (10, .val (.int .i64 V)), (12, .sl 6 (([(⟨11, ⟨#[]⟩, V, true, decide ((0 : Int) < (k : Int)), false⟩ : Tk)] : List Tk).map tD)), (14, .ptr 0 0), (16, .val (.int .i64 V))]⟩ ?_ ?_
    · refine awp_cond_p rfl (fun h => ?_) (fun h => ?_)
      · repeat (first | refine a_region ?_ | refine r_done ?_ | (refine r_id ?_; first | refine r_ev tab_ok rfl rfl rfl rfl (by first | exact trivial | exact ⟨by omega, by omega⟩ | omega | exact ⟨by omega, by omega, by omega, by omega⟩ | exact Nat.le_of_ble_eq_true rfl) rfl ?_))
        exact ⟨rfl, fits_of rfl (by rw [hV1 h]; exact (by repeat' first | exact trivial | exact Sub.refl _ | exact rfl | apply And.intro))⟩
      · repeat (first | refine awp_skip ?_)
        exact ⟨rfl, fits_of rfl (by rw [hV2 h]; exact (by repeat' first | exact trivial | exact Sub.refl _ | exact rfl | apply And.intro))⟩
    repeat (first | refine awp_seq ?_ | refine a_draw1 mixed_ok (by kernel_rfl) ?_ | (refine r_id ?_; first | refine r_ev tab_ok rfl rfl rfl rfl (by first | exact trivial | exact ⟨by omega, by omega⟩ | omega | exact ⟨by omega, by omega, by omega, by omega⟩ | exact Nat.le_of_ble_eq_true rfl) rfl ?_ | refine r_ld tab_ok rfl rfl rfl rfl rfl ?_ | refine r_idxd tab_ok rfl rfl rfl rfl rfl rfl rfl (by decide) rfl rfl rfl ?_))
    refine r_eqT (c := (⟨11, ⟨#[]⟩, V, true, decide ((0 : Int) < (k : Int)), false⟩ : Tk)) (d := (⟨11, ⟨#[]⟩, V, true, decide ((0 : Int) < (k : Int)), false⟩ : Tk)) rfl rfl rfl rfl rfl rfl rfl ?_
    rw [eqT_self]
    repeat (first | (refine r_id ?_; first | refine r_ev tab_ok rfl rfl rfl rfl (by first | exact trivial | exact ⟨by omega, by omega⟩ | omega | exact ⟨by omega, by omega, by omega, by omega⟩ | exact Nat.le_of_ble_eq_true rfl) rfl ?_ | refine r_pick_t rfl rfl rfl rfl rfl rfl rfl ?_ | refine r_ev_on tab_ok rfl rfl rfl rfl rfl rfl (by first | exact trivial | exact ⟨by omega, by omega⟩ | omega) rfl ?_))
    rw [show decide (V = V) = true from decide_eq_true rfl]
    repeat (first | refine r_g rfl rfl rfl ?_)
    refine r_call awake2_ok call12 rfl rfl trivial rfl rfl rfl rfl ?_
    repeat (first | refine thenA_normal ?_ | refine awp_ret ?_ | refine r_done' ?_ | (refine r_id ?_; first | refine r_ev tab_ok rfl rfl rfl rfl (by first | exact trivial | exact ⟨by omega, by omega⟩ | omega | exact ⟨by omega, by omega, by omega, by omega⟩ | exact Nat.le_of_ble_eq_true rfl) rfl ?_ | refine r_pick_t rfl rfl rfl rfl rfl rfl rfl ?_) | refine ret1 (by first | exact .inl rfl | exact .inr rfl) rfl rfl rfl ?_)
    exact Sub.refl _
end Go.Proofs.YtbjinibmkkmhkaaDoor
