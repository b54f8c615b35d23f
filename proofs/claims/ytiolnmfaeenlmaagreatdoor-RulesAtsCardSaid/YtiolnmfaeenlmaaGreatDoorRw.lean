/- RulesAts, walked. -/
import Derived.Test.YtiolnmfaeenlmaaGreatDoorRv
import Derived.Test.YtiolnmfaeenlmaaGreatDoorRl
namespace Go.Proofs.YtiolnmfaeenlmaaGreatDoor
open Go Go.RowKit
set_option maxRecDepth 20000

theorem ax_pa (n : Nat) : (⟨(ppL n).toArray⟩ : ByteArray) ++ (⟨#[32, 112, 40, 59, 123, 125, 41, 32, 91, 59, 93]⟩ : ByteArray) = ⟨(ppL (n + 1)).toArray⟩ := by
  rw [show (⟨#[32, 112, 40, 59, 123, 125, 41, 32, 91, 59, 93]⟩ : ByteArray) = ⟨paL.toArray⟩ from rfl, bytes_cat, ppL]
theorem ax_0 (w : List UInt8) (n : Nat) : (⟨#[64, 88]⟩ : ByteArray) ++ (⟨w.toArray⟩ : ByteArray) ++ (⟨(ppL n).toArray⟩ : ByteArray) ++ (⟨#[59]⟩ : ByteArray) ++ (⟨#[97, 32, 123, 32, 100, 58, 32, 101, 32, 125]⟩ : ByteArray) = ⟨(atX w n 0).toArray⟩ := by
  rw [show (⟨#[64, 88]⟩ : ByteArray) = ⟨([64, 88] : List UInt8).toArray⟩ from rfl, show (⟨#[59]⟩ : ByteArray) = ⟨([59] : List UInt8).toArray⟩ from rfl, show (⟨#[97, 32, 123, 32, 100, 58, 32, 101, 32, 125]⟩ : ByteArray) = ⟨([97, 32, 123, 32, 100, 58, 32, 101, 32, 125] : List UInt8).toArray⟩ from rfl, bytes_cat, bytes_cat, bytes_cat, bytes_cat, atX]
  simp only [List.append_assoc]
  rfl
def f1B : List UInt8 := [32, 123, 32, 99, 111, 108, 111, 114, 58, 32, 114, 101, 100, 59, 32, 64, 121, 32, 123, 32, 122, 58, 32, 119, 32, 125, 32, 98, 58, 32, 99, 32, 125]
theorem ax_1 (w : List UInt8) (n : Nat) : (⟨#[64, 88]⟩ : ByteArray) ++ (⟨w.toArray⟩ : ByteArray) ++ (⟨(ppL n).toArray⟩ : ByteArray) ++ (⟨#[32, 123, 32, 99, 111, 108, 111, 114, 58, 32, 114, 101, 100, 59, 32, 64, 121, 32, 123, 32, 122, 58, 32, 119, 32, 125, 32, 98, 58, 32, 99, 32, 125]⟩ : ByteArray) ++ (⟨#[97, 32, 123, 32, 100, 58, 32, 101, 32, 125]⟩ : ByteArray) = ⟨(atX w n 1).toArray⟩ := by
  rw [show (⟨#[64, 88]⟩ : ByteArray) = ⟨([64, 88] : List UInt8).toArray⟩ from rfl, show (⟨#[32, 123, 32, 99, 111, 108, 111, 114, 58, 32, 114, 101, 100, 59, 32, 64, 121, 32, 123, 32, 122, 58, 32, 119, 32, 125, 32, 98, 58, 32, 99, 32, 125]⟩ : ByteArray) = ⟨f1B.toArray⟩ from rfl, show (⟨#[97, 32, 123, 32, 100, 58, 32, 101, 32, 125]⟩ : ByteArray) = ⟨([97, 32, 123, 32, 100, 58, 32, 101, 32, 125] : List UInt8).toArray⟩ from rfl, bytes_cat, bytes_cat, bytes_cat, bytes_cat, atX]
  simp only [List.append_assoc]
  rfl
theorem ax_2 (w : List UInt8) (n : Nat) : (⟨#[64, 88]⟩ : ByteArray) ++ (⟨w.toArray⟩ : ByteArray) ++ (⟨(ppL n).toArray⟩ : ByteArray) ++ (⟨#[]⟩ : ByteArray) = ⟨(atX w n 2).toArray⟩ := by
  rw [show (⟨#[64, 88]⟩ : ByteArray) = ⟨([64, 88] : List UInt8).toArray⟩ from rfl, show (⟨#[]⟩ : ByteArray) = ⟨([] : List UInt8).toArray⟩ from rfl, bytes_cat, bytes_cat, bytes_cat, atX]
  simp only [List.append_assoc]
  rfl
theorem ax_sz (s B F G : ByteArray) (hs : s.size ≤ 20) (hB : B.size ≤ 110) (hF : F.size ≤ 40) (hG : G.size ≤ 10) : ((⟨#[64, 88]⟩ : ByteArray) ++ s).size ≤ 22 ∧ ((⟨#[64, 88]⟩ : ByteArray) ++ s ++ B).size ≤ 132 ∧ ((⟨#[64, 88]⟩ : ByteArray) ++ s ++ B ++ F).size ≤ 172 ∧ ((⟨#[64, 88]⟩ : ByteArray) ++ s ++ B ++ F ++ G).size ≤ 182 := by
  have h1 : (⟨#[64, 88]⟩ : ByteArray).size = 2 := rfl
  simp only [ByteArray.size_append]
  omega
set_option maxHeartbeats 16000000 in
theorem lawAts (s : ByteArray) (kd nn : Int) (hs : s.size ≤ 9223372036854775807) : PCalls Tryz.prog 7 [.val (.string s), .val (.int .i64 kd), .val (.int .i64 nn)] (.val (.bool true)) := by
  refine p_start Tryz.func7 Tryz.ntmps7 rfl rfl rfl fun S w => ?_
  have hsz := str_size s
  repeat (first | refine awp_seq ?_ | refine thenA_normal ?_ | refine a_region ?_ | refine r_done ?_ | (refine r_id ?_; first | refine r_ev tab_ok rfl rfl rfl rfl byE rfl ?_ | refine r_ev_cnd tab_ok rfl rfl rfl rfl rfl rfl byC (by first | exact fun _ => trivial | (intro h; simp at h; first | exact ⟨by omega, by omega⟩ | omega)) rfl ?_ | refine r_or rfl rfl rfl rfl rfl rfl rfl rfl ?_))
  refine awp_cond rfl (fun h => ?_) (fun h => ?_)
  · repeat (first | refine awp_seq ?_ | refine a_region ?_)
    refine r_call awake4_ok call11 rfl rfl trivial rfl rfl rfl rfl ?_
    repeat (first | refine thenA_normal ?_ | refine awp_ret ?_ | refine thenA_ret ?_ | refine r_done ?_ | (refine r_id ?_; first | refine r_ev tab_ok rfl rfl rfl rfl byE rfl ?_) | refine ret1 byO rfl rfl rfl ?_)
    exact Sub.refl _
  simp only [Bool.or_eq_false_iff, decide_eq_false_iff_not] at h
  have hb : 1 ≤ s.size ∧ s.size ≤ 20 ∧ 0 ≤ nn ∧ nn ≤ 10 := by omega
  clear h
  obtain ⟨hw1, hw2, ht1, ht2⟩ := hb
  obtain ⟨n, rfl⟩ : ∃ n : Nat, nn = n := ⟨nn.toNat, by omega⟩
  have hn11 : n < 11 := by omega
  repeat (first | refine awp_seq ?_ | refine thenA_normal ?_ | refine awp_block ?_ | refine a_region ?_ | refine awp_skip ?_ | refine r_done ?_ | (refine r_id ?_; first | refine r_ev tab_ok rfl rfl rfl rfl byE rfl ?_))
  refine a_loop (σ := {j : Nat // j ≤ s.data.toList.length ∧ (s.data.toList.take j).all ltB = true}) (fun _ => []) (fun x => [(0, .val (.string s)), (1, .val (.int .i64 kd)), (2, .val (.int .i64 n)), (7, .val (.int .i64 x.1))]) (fun x => s.size - x.1) ⟨0, Nat.zero_le _, rfl⟩ (fits_of rfl byK) ?_
  rintro ⟨j, hj, hall⟩
  dsimp only
  repeat (first | refine awp_seq ?_ | refine thenA_normal ?_ | refine a_region ?_ | refine r_done ?_ | (refine r_id ?_; first | refine r_ev tab_ok rfl rfl rfl rfl byE rfl ?_))
  refine awp_cond_p rfl (fun hlt2 => ?_) (fun hge2 => ?_)
  · have hj' : j < s.data.toList.length := by omega
    have hgb : s.data.toList.getD ((j : Nat) : Int).toNat 0 = s.data.toList[j] := by rw [Int.toNat_natCast, getD_byte hj']
    repeat (first | refine awp_seq ?_ | refine thenA_normal ?_ | refine awp_block ?_ | refine a_region ?_ | refine awp_skip ?_ | refine r_done ?_ | (refine r_id ?_; first | refine r_ev tab_ok rfl rfl rfl rfl byE rfl ?_ | refine r_ev_cnd tab_ok rfl rfl rfl rfl rfl rfl byC (by first | exact fun _ => trivial | (intro h; simp at h; first | exact ⟨by omega, by omega⟩ | omega)) rfl ?_ | refine r_or rfl rfl rfl rfl rfl rfl rfl rfl ?_))
    rw [hgb]
    refine awp_cond rfl (fun h3 => ?_) (fun h3 => ?_)
    · repeat (first | refine awp_seq ?_ | refine a_region ?_)
      refine r_call awake4_ok call11 rfl rfl trivial rfl rfl rfl rfl ?_
      repeat (first | refine thenA_normal ?_ | refine awp_ret ?_ | refine thenA_ret ?_ | refine blockA_ret ?_ | refine r_done ?_ | (refine r_id ?_; first | refine r_ev tab_ok rfl rfl rfl rfl byE rfl ?_) | refine ret1 byO rfl rfl rfl ?_)
      exact Sub.refl _
    · have hb : ltB s.data.toList[j] = true := by
        rw [Bool.or_eq_false_iff, decide_eq_false_iff_not, decide_eq_false_iff_not] at h3
        rw [ltB, Bool.and_eq_true, decide_eq_true_eq, decide_eq_true_eq]
        omega
      repeat (first | refine thenA_normal ?_ | refine a_region ?_ | refine awp_skip ?_ | refine r_done ?_ | (refine r_id ?_; first | refine r_ev tab_ok rfl rfl rfl rfl byE rfl ?_))
      exact ⟨⟨j + 1, hj', by
        rw [List.take_add_one, List.getElem?_eq_getElem hj', List.all_append, hall, Bool.true_and]
        show (ltB s.data.toList[j] && true) = true
        rw [hb]; rfl⟩, by dsimp only; omega, fits_of rfl byK⟩
  have hje : j = s.data.toList.length := by omega
  subst hje
  rw [List.take_length] at hall
  have hwdb : wdB s.data.toList = true := by
    rw [wdB, hall, Bool.and_true, Bool.not_eq_true', List.isEmpty_eq_false_iff]
    intro h4
    rw [h4] at hsz
    simp at hsz
    omega
  have hse : s = ⟨s.data.toList.toArray⟩ := rfl
  repeat (first | refine awp_seq ?_ | refine thenA_normal ?_ | refine awp_block ?_ | refine a_region ?_ | refine awp_exit ?_ | refine r_done ?_ | (refine r_id ?_; first | refine r_ev tab_ok rfl rfl rfl rfl byE rfl ?_))
  refine a_loop (σ := {i : Nat // i ≤ n}) (fun _ => []) (fun x => [(0, .val (.string s)), (1, .val (.int .i64 kd)), (2, .val (.int .i64 n)), (8, .val (.string ⟨(ppL x.1).toArray⟩)), (9, .val (.int .i64 x.1))]) (fun x => n - x.1) ⟨0, Nat.zero_le _⟩ (fits_of rfl byK) ?_
  rintro ⟨i, hi⟩
  dsimp only
  have hB : (⟨(ppL i).toArray⟩ : ByteArray).size ≤ 110 := by rw [sz_list, ppL_len]; omega
  have h11 : (⟨#[32, 112, 40, 59, 123, 125, 41, 32, 91, 59, 93]⟩ : ByteArray).size = 11 := rfl
  have hpa := ax_pa i
  repeat (first | refine awp_seq ?_ | refine thenA_normal ?_ | refine a_region ?_ | refine r_done ?_ | (refine r_id ?_; first | refine r_ev tab_ok rfl rfl rfl rfl byE rfl ?_))
  refine awp_cond_p rfl (fun hlt => ?_) (fun hge => ?_)
  · repeat (first | refine awp_seq ?_ | refine thenA_normal ?_ | refine awp_block ?_ | refine a_region ?_ | refine awp_skip ?_ | refine r_done ?_ | (refine r_id ?_; first | refine r_ev tab_ok rfl rfl rfl rfl byE rfl ?_))
    refine ⟨⟨i + 1, by omega⟩, by dsimp only; omega, ?_⟩
    dsimp only
    rw [← hpa]
    exact fits_of rfl byK
  have hie : i = n := by omega
  subst hie
  have hs2 : (⟨#[64, 88]⟩ : ByteArray).size = 2 := rfl
  have hs1 : (⟨#[120]⟩ : ByteArray).size = 1 := rfl
  have hz10 : (⟨#[97, 32, 123, 32, 100, 58, 32, 101, 32, 125]⟩ : ByteArray).size = 10 := rfl
  have hpl : (((preN i).map nF).length : Int) = max (4 * (i : Int) - 1) 0 := by rw [List.length_map]; exact preN_len i
  have hpl2 : ((preN i).length : Int) = max (4 * (i : Int) - 1) 0 := preN_len i
  have hx : ∀ k : Nat, k < 3 → ∀ T : ByteArray, T = ⟨(atX s.data.toList i k).toArray⟩ → PCalls Tryz.prog 12 [.sl 1 (T.data.toList.map bD)] (.tup [.sl 4 ((rlsA i k ((⟨#[120]⟩ : ByteArray) ++ s)).map rlD), .val (.int .i64 0)]) := by
    intro k hk T hT
    rw [hT]
    exact at_ok s.data.toList i k hn11 hk hwdb (by omega)
  repeat (first | refine awp_seq ?_ | refine a_region ?_ | refine awp_exit ?_ | (refine r_id ?_; first | refine r_ev tab_ok rfl rfl rfl rfl byE rfl ?_))
  refine r_call (round_ok kd 3 (by decide) (by decide)) call22 rfl rfl ⟨Sub.refl _, Sub.refl _, trivial⟩ rfl rfl rfl rfl ?_
  have hk3 : kd % 3 = 0 ∨ kd % 3 = 1 ∨ kd % 3 = 2 := by omega
  rcases hk3 with hk | hk | hk
  · rw [hk]
    have hzf : (⟨#[59]⟩ : ByteArray).size = 1 := rfl
    obtain ⟨y1, y2, y3, y4⟩ := ax_sz s (⟨(ppL i).toArray⟩ : ByteArray) (⟨#[59]⟩ : ByteArray) (⟨#[97, 32, 123, 32, 100, 58, 32, 101, 32, 125]⟩ : ByteArray) hw2 hB (by decide) (by decide)
    have hsh := hx 0 (by decide) _ (ax_0 s.data.toList i)
    rw [← hse] at hsh
    clear hx hall hwdb hpa
    repeat (first | refine awp_seq ?_ | refine thenA_normal ?_ | refine a_region ?_ | refine r_done ?_ | (refine r_id ?_; first | refine r_ev tab_ok rfl rfl rfl rfl byE rfl ?_ | refine r_idxd tab_ok rfl rfl rfl rfl rfl rfl rfl (by decide) rfl rfl rfl ?_ | refine r_built tab_ok rfl rfl rfl rfl rfl rfl rfl rfl rfl ?_ | refine r_strd tab_ok rfl rfl rfl rfl rfl rfl (by omega) rfl rfl rfl ?_) | refine awp_cond_t rfl ?_)
    refine r_call hsh call12 rfl rfl ⟨Sub.refl _, trivial⟩ rfl rfl rfl rfl ?_
    repeat (first | refine awp_seq ?_ | refine thenA_normal ?_ | refine a_region ?_ | refine awp_skip ?_ | refine r_done ?_ | (refine r_id ?_; first | refine r_ev tab_ok rfl rfl rfl rfl byE rfl ?_ | refine r_idxd tab_ok rfl rfl rfl rfl rfl rfl rfl (by decide) rfl rfl rfl ?_ | refine r_pick_f rfl rfl rfl rfl rfl rfl rfl ?_ | refine r_len_on tab_ok rfl rfl rfl rfl rfl rfl rfl rfl rfl ?_ | refine r_ev_on tab_ok rfl rfl rfl rfl rfl rfl (by first | exact trivial | exact ⟨by omega, by omega⟩ | omega) rfl ?_) | refine awp_cond_f rfl ?_ | refine r_g rfl rfl rfl ?_ | refine r_g rfl rfl (congrArg (fun b => AV.val (.bool b)) (bnot_t rfl)) ?_ | refine r_pick_f rfl rfl (congrArg (fun b => AV.val (.bool b)) (bnot_t rfl)) rfl rfl rfl rfl ?_)
    refine awp_cond_n rfl (fun hne => absurd (by omega) hne) (fun _ => ?_)
    repeat (first | refine awp_seq ?_ | refine thenA_normal ?_ | refine a_region ?_ | refine awp_skip ?_ | refine r_done ?_ | (refine r_id ?_; first | refine r_ev tab_ok rfl rfl rfl rfl byE rfl ?_ | refine r_idxd tab_ok rfl rfl rfl rfl rfl rfl rfl (by decide) rfl rfl rfl ?_ | refine r_pick_t rfl rfl rfl rfl rfl rfl rfl ?_ | refine r_pick_f rfl rfl rfl rfl rfl rfl rfl ?_ | refine r_off rfl rfl rfl rfl rfl rfl ?_ | refine r_len_on tab_ok rfl rfl rfl rfl rfl rfl rfl rfl rfl ?_ | refine r_ev_on tab_ok rfl rfl rfl rfl rfl rfl (by first | exact trivial | exact ⟨by omega, by omega⟩ | omega) rfl ?_) | refine awp_cond_f rfl ?_ | refine r_g rfl rfl rfl ?_ | refine r_offu rfl rfl rfl rfl rfl rfl ?_)
    refine r_call awake4_ok call11 rfl rfl trivial rfl rfl rfl rfl ?_
    repeat (first | refine thenA_normal ?_ | refine awp_ret ?_ | refine r_done ?_ | (refine r_id ?_; first | refine r_ev tab_ok rfl rfl rfl rfl byE rfl ?_ | refine r_pick_t rfl rfl rfl rfl rfl rfl rfl ?_) | refine ret1 byO rfl rfl rfl ?_)
    exact Sub.refl _
  · rw [hk]
    have hzf : (⟨#[32, 123, 32, 99, 111, 108, 111, 114, 58, 32, 114, 101, 100, 59, 32, 64, 121, 32, 123, 32, 122, 58, 32, 119, 32, 125, 32, 98, 58, 32, 99, 32, 125]⟩ : ByteArray).size = 33 := rfl
    obtain ⟨y1, y2, y3, y4⟩ := ax_sz s (⟨(ppL i).toArray⟩ : ByteArray) (⟨#[32, 123, 32, 99, 111, 108, 111, 114, 58, 32, 114, 101, 100, 59, 32, 64, 121, 32, 123, 32, 122, 58, 32, 119, 32, 125, 32, 98, 58, 32, 99, 32, 125]⟩ : ByteArray) (⟨#[97, 32, 123, 32, 100, 58, 32, 101, 32, 125]⟩ : ByteArray) hw2 hB (by decide) (by decide)
    have hsh := hx 1 (by decide) _ (ax_1 s.data.toList i)
    rw [← hse] at hsh
    clear hx hall hwdb hpa
    repeat (first | refine awp_seq ?_ | refine a_region ?_ | refine r_done ?_ | (refine r_id ?_; first | refine r_ev tab_ok rfl rfl rfl rfl byE rfl ?_ | refine r_idxd tab_ok rfl rfl rfl rfl rfl rfl rfl (by decide) rfl rfl rfl ?_ | refine r_built tab_ok rfl rfl rfl rfl rfl rfl rfl rfl rfl ?_))
    refine r_ev tab_ok rfl rfl rfl rfl (Nat.le_trans (Nat.add_le_add y2 (Nat.le_of_eq hzf)) (by decide)) rfl ?_
    repeat (first | refine awp_seq ?_ | refine thenA_normal ?_ | refine a_region ?_ | refine r_done ?_ | (refine r_id ?_; first | refine r_ev tab_ok rfl rfl rfl rfl byE rfl ?_) | refine awp_cond_t rfl ?_)
    refine r_ev tab_ok rfl rfl rfl rfl (Nat.le_trans (Nat.add_le_add y3 (Nat.le_of_eq hz10)) (by decide)) rfl ?_
    repeat (first | refine awp_seq ?_ | refine a_region ?_ | refine r_done ?_ | (refine r_id ?_; first | refine r_ev tab_ok rfl rfl rfl rfl byE rfl ?_))
    refine r_strd tab_ok rfl rfl rfl rfl rfl rfl (Nat.le_trans y4 (by decide)) rfl rfl rfl ?_
    refine r_call hsh call12 rfl rfl ⟨Sub.refl _, trivial⟩ rfl rfl rfl rfl ?_
    repeat (first | refine awp_seq ?_ | refine thenA_normal ?_ | refine a_region ?_ | refine awp_skip ?_ | refine r_done ?_ | (refine r_id ?_; first | refine r_ev tab_ok rfl rfl rfl rfl byE rfl ?_ | refine r_idxd tab_ok rfl rfl rfl rfl rfl rfl rfl (by decide) rfl rfl rfl ?_ | refine r_pick_f rfl rfl rfl rfl rfl rfl rfl ?_ | refine r_len_on tab_ok rfl rfl rfl rfl rfl rfl rfl rfl rfl ?_ | refine r_ev_on tab_ok rfl rfl rfl rfl rfl rfl (by first | exact trivial | exact ⟨by omega, by omega⟩ | omega) rfl ?_) | refine awp_cond_f rfl ?_ | refine r_g rfl rfl rfl ?_ | refine r_g rfl rfl (congrArg (fun b => AV.val (.bool b)) (bnot_t rfl)) ?_ | refine r_pick_f rfl rfl (congrArg (fun b => AV.val (.bool b)) (bnot_t rfl)) rfl rfl rfl rfl ?_)
    refine awp_cond_n rfl (fun hne => absurd (by omega) hne) (fun _ => ?_)
    repeat (first | refine awp_seq ?_ | refine thenA_normal ?_ | refine a_region ?_ | refine awp_skip ?_ | refine r_done ?_ | (refine r_id ?_; first | refine r_ev tab_ok rfl rfl rfl rfl byE rfl ?_ | refine r_idxd tab_ok rfl rfl rfl rfl rfl rfl rfl (by decide) rfl rfl rfl ?_ | refine r_pick_t rfl rfl rfl rfl rfl rfl rfl ?_ | refine r_pick_f rfl rfl rfl rfl rfl rfl rfl ?_ | refine r_len_on tab_ok rfl rfl rfl rfl rfl rfl rfl rfl rfl ?_ | refine r_ev_on tab_ok rfl rfl rfl rfl rfl rfl (by first | exact trivial | exact ⟨by omega, by omega⟩ | omega) rfl ?_) | refine awp_cond_f rfl ?_ | refine r_g rfl rfl rfl ?_)
    refine r_call awake4_ok call11 rfl rfl trivial rfl rfl rfl rfl ?_
    repeat (first | refine thenA_normal ?_ | refine awp_ret ?_ | refine r_done ?_ | (refine r_id ?_; first | refine r_ev tab_ok rfl rfl rfl rfl byE rfl ?_ | refine r_pick_t rfl rfl rfl rfl rfl rfl rfl ?_) | refine ret1 byO rfl rfl rfl ?_)
    exact Sub.refl _
  · rw [hk]
    have hzf : (⟨#[]⟩ : ByteArray).size = 0 := rfl
    obtain ⟨y1, y2, y3, y4⟩ := ax_sz s (⟨(ppL i).toArray⟩ : ByteArray) (⟨#[]⟩ : ByteArray) (⟨#[]⟩ : ByteArray) hw2 hB (by decide) (by decide)
    have hsh := hx 2 (by decide) _ (ax_2 s.data.toList i)
    rw [← hse] at hsh
    clear hx hall hwdb hpa
    repeat (first | refine awp_seq ?_ | refine thenA_normal ?_ | refine a_region ?_ | refine awp_skip ?_ | refine r_done ?_ | (refine r_id ?_; first | refine r_ev tab_ok rfl rfl rfl rfl byE rfl ?_ | refine r_idxd tab_ok rfl rfl rfl rfl rfl rfl rfl (by decide) rfl rfl rfl ?_ | refine r_built tab_ok rfl rfl rfl rfl rfl rfl rfl rfl rfl ?_ | refine r_strd tab_ok rfl rfl rfl rfl rfl rfl (by omega) rfl rfl rfl ?_) | refine awp_cond_f rfl ?_)
    refine r_call hsh call12 rfl rfl ⟨Sub.refl _, trivial⟩ rfl rfl rfl rfl ?_
    repeat (first | refine awp_seq ?_ | refine thenA_normal ?_ | refine a_region ?_ | refine r_done ?_ | (refine r_id ?_; first | refine r_ev tab_ok rfl rfl rfl rfl byE rfl ?_ | refine r_idxd tab_ok rfl rfl rfl rfl rfl rfl rfl (by decide) rfl rfl rfl ?_ | refine r_pick_f rfl rfl rfl rfl rfl rfl rfl ?_ | refine r_len_on tab_ok rfl rfl rfl rfl rfl rfl rfl rfl rfl ?_ | refine r_ev_on tab_ok rfl rfl rfl rfl rfl rfl (by first | exact trivial | exact ⟨by omega, by omega⟩ | omega) rfl ?_) | refine awp_cond_t rfl ?_ | refine r_g rfl rfl rfl ?_ | refine r_g rfl rfl (congrArg (fun b => AV.val (.bool b)) (bnot_t rfl)) ?_ | refine r_pick_f rfl rfl (congrArg (fun b => AV.val (.bool b)) (bnot_t rfl)) rfl rfl rfl rfl ?_)
    refine awp_cond_n rfl (fun hne => absurd (by omega) hne) (fun _ => ?_)
    repeat (first | refine awp_seq ?_ | refine thenA_normal ?_ | refine a_region ?_ | refine awp_skip ?_ | refine r_done ?_ | (refine r_id ?_; first | refine r_ev tab_ok rfl rfl rfl rfl byE rfl ?_ | refine r_pick_t rfl rfl rfl rfl rfl rfl rfl ?_ | refine r_pick_f rfl rfl rfl rfl rfl rfl rfl ?_ | refine r_off rfl rfl rfl rfl rfl rfl ?_) | refine awp_cond_f rfl ?_ | refine r_g rfl rfl rfl ?_ | refine r_offu rfl rfl rfl rfl rfl rfl ?_)
    refine r_call awake4_ok call11 rfl rfl trivial rfl rfl rfl rfl ?_
    repeat (first | refine thenA_normal ?_ | refine awp_ret ?_ | refine r_done ?_ | (refine r_id ?_; first | refine r_ev tab_ok rfl rfl rfl rfl byE rfl ?_ | refine r_pick_t rfl rfl rfl rfl rfl rfl rfl ?_) | refine ret1 byO rfl rfl rfl ?_)
    exact Sub.refl _
end Go.Proofs.YtiolnmfaeenlmaaGreatDoor
