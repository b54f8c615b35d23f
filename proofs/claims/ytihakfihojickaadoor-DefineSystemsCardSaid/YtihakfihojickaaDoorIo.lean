/- DefineSystems, walked. -/
import Derived.Test.YtihakfihojickaaDoorIn
import Derived.Test.YtihakfihojickaaDoorIa
namespace Go.Proofs.YtihakfihojickaaDoor
open Go Go.RowKit
set_option maxRecDepth 20000

theorem syB_len : ∀ n, (syB n).length = 2 * n
  | 0 => rfl
  | n + 1 => by rw [syB, List.length_append, syB_len n]; simp only [List.length_cons, List.length_nil]; omega
theorem pcL_len (j : Nat) : (pcL j).length ≤ 25 := by
  have := bd_len (nmB j)
  rw [pcL]
  simp only [List.length_cons, List.length_append, List.length_nil]
  omega
theorem adB_len : ∀ k, (adB k).length ≤ 26 * k
  | 0 => Nat.le_refl _
  | k + 1 => by
    have h1 := adB_len k
    have h2 := pcL_len k
    have h3 : (if k = 0 then ([] : List UInt8) else [44]).length ≤ 1 := by split <;> decide
    rw [adB]
    simp only [List.length_append]
    omega
def tx1 (i j : Nat) : List UInt8 := shL i ++ (([115, 121, 109, 98, 111, 108, 115, 58] : List UInt8) ++ syB j)
def tx2 (i n j : Nat) : List UInt8 := shL i ++ (syL n ++ (([97, 100, 100, 105, 116, 105, 118, 101, 45, 115, 121, 109, 98, 111, 108, 115, 58] : List UInt8) ++ adB j))
def tx3 (i n a : Nat) : List UInt8 := shL i ++ (syL n ++ adL a)
theorem tx1_0 (i : Nat) : (⟨(shL i).toArray⟩ : ByteArray) ++ (⟨#[115, 121, 109, 98, 111, 108, 115, 58]⟩ : ByteArray) = ⟨(tx1 i 0).toArray⟩ := by
  rw [show (⟨#[115, 121, 109, 98, 111, 108, 115, 58]⟩ : ByteArray) = ⟨([115, 121, 109, 98, 111, 108, 115, 58] : List UInt8).toArray⟩ from rfl, bytes_cat, tx1, syB, List.append_nil]
theorem tx1_s (i j : Nat) : (⟨(tx1 i j).toArray⟩ : ByteArray) ++ (⟨#[32, 115]⟩ : ByteArray) = ⟨(tx1 i (j + 1)).toArray⟩ := by
  rw [show (⟨#[32, 115]⟩ : ByteArray) = ⟨([32, 115] : List UInt8).toArray⟩ from rfl, bytes_cat, tx1, tx1, syB]
  simp only [List.append_assoc]
theorem tx1_e (i n : Nat) (hn : n ≠ 0) : (⟨(tx1 i n).toArray⟩ : ByteArray) ++ (⟨#[59]⟩ : ByteArray) = ⟨(shL i ++ syL n).toArray⟩ := by
  rw [show (⟨#[59]⟩ : ByteArray) = ⟨([59] : List UInt8).toArray⟩ from rfl, bytes_cat, tx1, syL, if_neg hn]
  simp only [List.append_assoc]
theorem tx2_0 (i n : Nat) : (⟨(shL i ++ syL n).toArray⟩ : ByteArray) ++ (⟨#[97, 100, 100, 105, 116, 105, 118, 101, 45, 115, 121, 109, 98, 111, 108, 115, 58]⟩ : ByteArray) = ⟨(tx2 i n 0).toArray⟩ := by
  rw [show (⟨#[97, 100, 100, 105, 116, 105, 118, 101, 45, 115, 121, 109, 98, 111, 108, 115, 58]⟩ : ByteArray) = ⟨([97, 100, 100, 105, 116, 105, 118, 101, 45, 115, 121, 109, 98, 111, 108, 115, 58] : List UInt8).toArray⟩ from rfl, bytes_cat, tx2, adB, List.append_nil, List.append_assoc]
theorem tx2_s0 (i n : Nat) : (⟨(tx2 i n 0).toArray⟩ : ByteArray) ++ (⟨#[32]⟩ : ByteArray) ++ (⟨(nmB 0).L.toArray⟩ : ByteArray) ++ (⟨#[32, 116]⟩ : ByteArray) = ⟨(tx2 i n 1).toArray⟩ := by
  rw [show (⟨#[32]⟩ : ByteArray) = ⟨([32] : List UInt8).toArray⟩ from rfl, show (⟨#[32, 116]⟩ : ByteArray) = ⟨([32, 116] : List UInt8).toArray⟩ from rfl, bytes_cat, bytes_cat, bytes_cat, tx2, tx2, show adB 1 = [] ++ [] ++ pcL 0 from rfl, show adB 0 = [] from rfl, pcL]
  simp only [List.append_assoc, List.nil_append, List.append_nil, List.cons_append]
theorem tx2_s (i n j : Nat) (hj : j ≠ 0) : (⟨(tx2 i n j).toArray⟩ : ByteArray) ++ (⟨#[44]⟩ : ByteArray) ++ (⟨#[32]⟩ : ByteArray) ++ (⟨(nmB j).L.toArray⟩ : ByteArray) ++ (⟨#[32, 116]⟩ : ByteArray) = ⟨(tx2 i n (j + 1)).toArray⟩ := by
  rw [show (⟨#[44]⟩ : ByteArray) = ⟨([44] : List UInt8).toArray⟩ from rfl, show (⟨#[32]⟩ : ByteArray) = ⟨([32] : List UInt8).toArray⟩ from rfl, show (⟨#[32, 116]⟩ : ByteArray) = ⟨([32, 116] : List UInt8).toArray⟩ from rfl, bytes_cat, bytes_cat, bytes_cat, bytes_cat, tx2, tx2, adB, if_neg hj, pcL]
  simp only [List.append_assoc, List.nil_append, List.cons_append]
theorem tx2_e (i n a : Nat) (ha : a ≠ 0) : (⟨(tx2 i n a).toArray⟩ : ByteArray) ++ (⟨#[59]⟩ : ByteArray) = ⟨(tx3 i n a).toArray⟩ := by
  rw [show (⟨#[59]⟩ : ByteArray) = ⟨([59] : List UInt8).toArray⟩ from rfl, bytes_cat, tx2, tx3, adL, if_neg ha]
  simp only [List.append_assoc]
theorem tx3_e (i n a : Nat) : (⟨(tx3 i n a).toArray⟩ : ByteArray) ++ (⟨#[125]⟩ : ByteArray) = ⟨(syX i n a).toArray⟩ := by
  rw [show (⟨#[125]⟩ : ByteArray) = ⟨([125] : List UInt8).toArray⟩ from rfl, bytes_cat, tx3, syX]
  simp only [List.append_assoc]
theorem tx1_z (i j : Nat) (hi : i < 7) (hj : j ≤ 70) : (⟨(tx1 i j).toArray⟩ : ByteArray).size ≤ 300 := by
  have h1 := sh_len i hi
  have h2 := syB_len j
  have h3 : ([115, 121, 109, 98, 111, 108, 115, 58] : List UInt8).length = 8 := rfl
  rw [sz_list, tx1, List.length_append, List.length_append]
  omega
theorem tx2_z (i n j : Nat) (hi : i < 7) (hn : n < 71) (hj : j ≤ 70) : (⟨(tx2 i n j).toArray⟩ : ByteArray).size ≤ 2400 := by
  have h1 := sh_len i hi
  have h2 := sy_len n hn
  have h3 := adB_len j
  have h4 : ([97, 100, 100, 105, 116, 105, 118, 101, 45, 115, 121, 109, 98, 111, 108, 115, 58] : List UInt8).length = 17 := rfl
  rw [sz_list, tx2, List.length_append, List.length_append, List.length_append]
  omega
theorem tx3_z (i n a : Nat) (hi : i < 7) (hn : n < 71) (ha : a < 71) : (⟨(tx3 i n a).toArray⟩ : ByteArray).size ≤ 2400 := by
  have h1 := sh_len i hi
  have h2 := sy_len n hn
  have h3 := ad_len a ha
  rw [sz_list, tx3, List.length_append, List.length_append]
  omega
theorem nmL_sz (j : Nat) : (⟨(nmB j).L.toArray⟩ : ByteArray).size ≤ 22 := by rw [sz_list]; exact bd_len _
theorem cat5 (T D : ByteArray) (hT : T.size ≤ 2400) (hD : D.size ≤ 22) : (T ++ (⟨#[32]⟩ : ByteArray)).size ≤ 2401 ∧ (T ++ (⟨#[32]⟩ : ByteArray) ++ D).size ≤ 2423 ∧ (T ++ (⟨#[44]⟩ : ByteArray)).size ≤ 2401 ∧ (T ++ (⟨#[44]⟩ : ByteArray) ++ (⟨#[32]⟩ : ByteArray)).size ≤ 2402 ∧ (T ++ (⟨#[44]⟩ : ByteArray) ++ (⟨#[32]⟩ : ByteArray) ++ D).size ≤ 2424 := by
  have h1 : (⟨#[32]⟩ : ByteArray).size = 1 := rfl
  have h2 : (⟨#[44]⟩ : ByteArray).size = 1 := rfl
  simp only [ByteArray.size_append]
  omega
theorem dec_nm (j : Nat) (hj : j < 70) : PCalls Tryd.prog 9 [.val (.int .i64 (100 - (j : Int)))] (.val (.string ⟨(nmB j).L.toArray⟩)) := by
  have e : decI (100 - (j : Int)) = ⟨(nmB j).L.toArray⟩ := by
    rw [nmB, decI, Bd.L, decN_L, if_neg (by omega), if_neg (by omega)]; rfl
  rw [← e]
  exact dec_all _ ⟨by omega, by omega⟩
def wnS (i n a : Nat) : Nat := if i = 5 then a else n
theorem en_sym (i n a : Nat) : (enS i n a).symbols.length = wnS i n a := by
  rw [enS, wnS]
  split
  · exact List.length_replicate
  · exact List.length_replicate
theorem en_wts (i n a : Nat) : (enS i n a).weights.length = if i = 5 then a else 0 := by
  rw [enS]
  split
  · show (wtL a).length = a
    rw [wtL, List.length_map, List.length_range]
  · show (adS a (syS n (shS i))).weights.length = 0
    rw [adS, syS]
    repeat' split
    all_goals rfl
theorem en_rng (i n a : Nat) : (enS i n a).range.length = 0 := by
  rw [enS]
  split
  all_goals show (adS _ (syS _ (shS _))).range.length = 0
  all_goals rw [adS, syS]
  all_goals repeat' split
  all_goals rfl
theorem en_may {i n a : Nat} (hi : i < 7) (hn : n < 71) (ha : a < 71) (h : gdS i n a = true) : mayD (enS i n a) = true := by
  have h1 := sx_end hi hn ha
  rw [h, if_pos rfl, endP] at h1
  split at h1
  · exact absurd (show (2 : Int) = 0 from congrArg Prod.snd h1) (by decide)
  · split at h1
    · rename_i h2
      have e : endP1 (adS a (syS n (shS i))) = enS i n a := congrArg Prod.fst h1
      rw [← e]; exact h2
    · exact absurd (show (2 : Int) = 0 from congrArg Prod.snd h1) (by decide)
set_option maxHeartbeats 16000000 in
theorem lawSystems (k n a : Int) : PCalls Tryd.prog 4 [.val (.int .i64 k), .val (.int .i64 n), .val (.int .i64 a)] (.val (.bool true)) := by
  refine p_start Tryd.func4 Tryd.ntmps4 rfl rfl rfl fun S w => ?_
  repeat (first
    | refine awp_seq ?_
    | refine thenA_normal ?_
    | refine a_region ?_
    | refine r_done ?_
    | (refine r_id ?_; first
      | refine r_ev tab_ok rfl rfl rfl rfl (by first | exact trivial | exact ⟨by omega, by omega⟩ | omega | exact ⟨by omega, by omega, by omega, by omega⟩ | exact Nat.le_of_ble_eq_true rfl) rfl ?_
      | refine r_ev_cnd tab_ok rfl rfl rfl rfl rfl rfl (by first | exact fun _ => rfl | exact cs1 | exact cs2 | exact cs3) (by first | exact fun _ => trivial | (intro h; simp at h; first | exact ⟨by omega, by omega⟩ | omega)) rfl ?_
      | refine r_or rfl rfl rfl rfl rfl rfl rfl rfl ?_))
  refine awp_cond rfl (fun h => ?_) (fun h => ?_)
  · repeat (first
      | refine awp_seq ?_
      | refine a_region ?_)
    refine r_call awake10_ok call6 rfl rfl trivial rfl rfl rfl rfl ?_
    repeat (first
      | refine thenA_normal ?_
      | refine awp_ret ?_
      | refine thenA_ret ?_
      | refine r_done ?_
      | (refine r_id ?_; first
        | refine r_ev tab_ok rfl rfl rfl rfl (by first | exact trivial | exact ⟨by omega, by omega⟩ | omega | exact ⟨by omega, by omega, by omega, by omega⟩ | exact Nat.le_of_ble_eq_true rfl) rfl ?_)
      | refine ret1 (by first | exact .inl rfl | exact .inr rfl) rfl rfl rfl ?_)
    exact Sub.refl _
  simp only [Bool.or_eq_false_iff, decide_eq_false_iff_not] at h
  obtain ⟨n, rfl⟩ := Int.eq_ofNat_of_zero_le (show 0 ≤ n by omega)
  obtain ⟨a, rfl⟩ := Int.eq_ofNat_of_zero_le (show 0 ≤ a by omega)
  have hn : n < 71 := by omega
  have ha : a < 71 := by omega
  clear h
  repeat (first
    | refine awp_seq ?_
    | refine a_region ?_
    | refine awp_skip ?_
    | refine r_done ?_
    | (refine r_id ?_; first
      | refine r_ev tab_ok rfl rfl rfl rfl (by first | exact trivial | exact ⟨by omega, by omega⟩ | omega | exact ⟨by omega, by omega, by omega, by omega⟩ | exact Nat.le_of_ble_eq_true rfl) rfl ?_
      | refine r_built tab_ok rfl rfl rfl rfl rfl rfl rfl rfl rfl ?_))
  refine r_call (round_ok k 7 (by decide) (by decide)) call7 rfl rfl ⟨Sub.refl _, Sub.refl _, trivial⟩ rfl rfl rfl rfl ?_
  obtain ⟨i, hki⟩ : ∃ i : Nat, k % 7 = i := ⟨(k % 7).toNat, by omega⟩
  have hi : i < 7 := by omega
  rw [hki]
  repeat (first
    | refine awp_seq ?_
    | refine r_done ?_
    | (refine r_id ?_; first
      | refine r_ev tab_ok rfl rfl rfl rfl (by first | exact trivial | exact ⟨by omega, by omega⟩ | omega | exact ⟨by omega, by omega, by omega, by omega⟩ | exact Nat.le_of_ble_eq_true rfl) rfl ?_))
  refine awp_cutv ⟨[], [(1, .val (.int .i64 (n : Nat))), (2, .val (.int .i64 (a : Nat))), (8, .val (.int .i64 (i : Nat))), (9, .val (.string ⟨(shL i).toArray⟩))]⟩ ?_ ?_
  · have h7 : i = 0 ∨ i = 1 ∨ i = 2 ∨ i = 3 ∨ i = 4 ∨ i = 5 ∨ i = 6 := by omega
    clear hki
    rcases h7 with rfl | rfl | rfl | rfl | rfl | rfl | rfl
    · have e : (⟨#[64, 99, 111, 117, 110, 116, 101, 114, 45, 115, 116, 121, 108, 101, 32, 107, 32, 123, 32, 115, 121, 115, 116, 101, 109, 58, 32]⟩ : ByteArray) ++ (⟨#[99, 121, 99, 108, 105, 99]⟩ : ByteArray) ++ (⟨#[59]⟩ : ByteArray) = ⟨(shL 0).toArray⟩ := by kernel_rfl
      repeat (first
        | refine a_region ?_
        | refine r_done ?_
        | (refine r_id ?_; first
          | refine r_ev tab_ok rfl rfl rfl rfl (by first | exact trivial | exact ⟨by omega, by omega⟩ | omega | exact ⟨by omega, by omega, by omega, by omega⟩ | exact Nat.le_of_ble_eq_true rfl) rfl ?_
          | refine r_idxd tab_ok rfl rfl rfl rfl rfl rfl rfl (by decide) rfl rfl rfl ?_))
      rw [← e]
      exact ⟨rfl, fits_of rfl (by repeat' first | exact trivial | exact Sub.refl _ | exact rfl | apply And.intro)⟩
    · have e : (⟨#[64, 99, 111, 117, 110, 116, 101, 114, 45, 115, 116, 121, 108, 101, 32, 107, 32, 123, 32, 115, 121, 115, 116, 101, 109, 58, 32]⟩ : ByteArray) ++ (⟨#[102, 105, 120, 101, 100]⟩ : ByteArray) ++ (⟨#[59]⟩ : ByteArray) = ⟨(shL 1).toArray⟩ := by kernel_rfl
      repeat (first
        | refine a_region ?_
        | refine r_done ?_
        | (refine r_id ?_; first
          | refine r_ev tab_ok rfl rfl rfl rfl (by first | exact trivial | exact ⟨by omega, by omega⟩ | omega | exact ⟨by omega, by omega, by omega, by omega⟩ | exact Nat.le_of_ble_eq_true rfl) rfl ?_
          | refine r_idxd tab_ok rfl rfl rfl rfl rfl rfl rfl (by decide) rfl rfl rfl ?_))
      rw [← e]
      exact ⟨rfl, fits_of rfl (by repeat' first | exact trivial | exact Sub.refl _ | exact rfl | apply And.intro)⟩
    · have e : (⟨#[64, 99, 111, 117, 110, 116, 101, 114, 45, 115, 116, 121, 108, 101, 32, 107, 32, 123, 32, 115, 121, 115, 116, 101, 109, 58, 32]⟩ : ByteArray) ++ (⟨#[115, 121, 109, 98, 111, 108, 105, 99]⟩ : ByteArray) ++ (⟨#[59]⟩ : ByteArray) = ⟨(shL 2).toArray⟩ := by kernel_rfl
      repeat (first
        | refine a_region ?_
        | refine r_done ?_
        | (refine r_id ?_; first
          | refine r_ev tab_ok rfl rfl rfl rfl (by first | exact trivial | exact ⟨by omega, by omega⟩ | omega | exact ⟨by omega, by omega, by omega, by omega⟩ | exact Nat.le_of_ble_eq_true rfl) rfl ?_
          | refine r_idxd tab_ok rfl rfl rfl rfl rfl rfl rfl (by decide) rfl rfl rfl ?_))
      rw [← e]
      exact ⟨rfl, fits_of rfl (by repeat' first | exact trivial | exact Sub.refl _ | exact rfl | apply And.intro)⟩
    · have e : (⟨#[64, 99, 111, 117, 110, 116, 101, 114, 45, 115, 116, 121, 108, 101, 32, 107, 32, 123, 32, 115, 121, 115, 116, 101, 109, 58, 32]⟩ : ByteArray) ++ (⟨#[97, 108, 112, 104, 97, 98, 101, 116, 105, 99]⟩ : ByteArray) ++ (⟨#[59]⟩ : ByteArray) = ⟨(shL 3).toArray⟩ := by kernel_rfl
      repeat (first
        | refine a_region ?_
        | refine r_done ?_
        | (refine r_id ?_; first
          | refine r_ev tab_ok rfl rfl rfl rfl (by first | exact trivial | exact ⟨by omega, by omega⟩ | omega | exact ⟨by omega, by omega, by omega, by omega⟩ | exact Nat.le_of_ble_eq_true rfl) rfl ?_
          | refine r_idxd tab_ok rfl rfl rfl rfl rfl rfl rfl (by decide) rfl rfl rfl ?_))
      rw [← e]
      exact ⟨rfl, fits_of rfl (by repeat' first | exact trivial | exact Sub.refl _ | exact rfl | apply And.intro)⟩
    · have e : (⟨#[64, 99, 111, 117, 110, 116, 101, 114, 45, 115, 116, 121, 108, 101, 32, 107, 32, 123, 32, 115, 121, 115, 116, 101, 109, 58, 32]⟩ : ByteArray) ++ (⟨#[110, 117, 109, 101, 114, 105, 99]⟩ : ByteArray) ++ (⟨#[59]⟩ : ByteArray) = ⟨(shL 4).toArray⟩ := by kernel_rfl
      repeat (first
        | refine a_region ?_
        | refine r_done ?_
        | (refine r_id ?_; first
          | refine r_ev tab_ok rfl rfl rfl rfl (by first | exact trivial | exact ⟨by omega, by omega⟩ | omega | exact ⟨by omega, by omega, by omega, by omega⟩ | exact Nat.le_of_ble_eq_true rfl) rfl ?_
          | refine r_idxd tab_ok rfl rfl rfl rfl rfl rfl rfl (by decide) rfl rfl rfl ?_))
      rw [← e]
      exact ⟨rfl, fits_of rfl (by repeat' first | exact trivial | exact Sub.refl _ | exact rfl | apply And.intro)⟩
    · have e : (⟨#[64, 99, 111, 117, 110, 116, 101, 114, 45, 115, 116, 121, 108, 101, 32, 107, 32, 123, 32, 115, 121, 115, 116, 101, 109, 58, 32]⟩ : ByteArray) ++ (⟨#[97, 100, 100, 105, 116, 105, 118, 101]⟩ : ByteArray) ++ (⟨#[59]⟩ : ByteArray) = ⟨(shL 5).toArray⟩ := by kernel_rfl
      repeat (first
        | refine a_region ?_
        | refine r_done ?_
        | (refine r_id ?_; first
          | refine r_ev tab_ok rfl rfl rfl rfl (by first | exact trivial | exact ⟨by omega, by omega⟩ | omega | exact ⟨by omega, by omega, by omega, by omega⟩ | exact Nat.le_of_ble_eq_true rfl) rfl ?_
          | refine r_idxd tab_ok rfl rfl rfl rfl rfl rfl rfl (by decide) rfl rfl rfl ?_))
      rw [← e]
      exact ⟨rfl, fits_of rfl (by repeat' first | exact trivial | exact Sub.refl _ | exact rfl | apply And.intro)⟩
    · have e : (⟨#[64, 99, 111, 117, 110, 116, 101, 114, 45, 115, 116, 121, 108, 101, 32, 107, 32, 123, 32, 115, 121, 115, 116, 101, 109, 58, 32]⟩ : ByteArray) ++ (⟨#[101, 120, 116, 101, 110, 100, 115, 32, 100, 105, 115, 99]⟩ : ByteArray) ++ (⟨#[59]⟩ : ByteArray) = ⟨(shL 6).toArray⟩ := by kernel_rfl
      repeat (first
        | refine a_region ?_
        | refine r_done ?_
        | (refine r_id ?_; first
          | refine r_ev tab_ok rfl rfl rfl rfl (by first | exact trivial | exact ⟨by omega, by omega⟩ | omega | exact ⟨by omega, by omega, by omega, by omega⟩ | exact Nat.le_of_ble_eq_true rfl) rfl ?_
          | refine r_idxd tab_ok rfl rfl rfl rfl rfl rfl rfl (by decide) rfl rfl rfl ?_))
      rw [← e]
      exact ⟨rfl, fits_of rfl (by repeat' first | exact trivial | exact Sub.refl _ | exact rfl | apply And.intro)⟩
  clear hki
  repeat (first
    | refine awp_seq ?_
    | refine thenA_normal ?_
    | refine a_region ?_
    | refine r_done ?_
    | (refine r_id ?_; first
      | refine r_ev tab_ok rfl rfl rfl rfl (by first | exact trivial | exact ⟨by omega, by omega⟩ | omega | exact ⟨by omega, by omega, by omega, by omega⟩ | exact Nat.le_of_ble_eq_true rfl) rfl ?_))
  refine awp_cutv ⟨[], [(1, .val (.int .i64 (n : Nat))), (2, .val (.int .i64 (a : Nat))), (8, .val (.int .i64 (i : Nat))), (9, .val (.string ⟨(shL i ++ syL n).toArray⟩))]⟩ ?_ ?_
  · have hz0 : (⟨(shL i).toArray⟩ : ByteArray).size ≤ 300 := by have := sh_len i hi; rw [sz_list]; omega
    refine awp_cond_p rfl (fun hy => ?_) (fun hno => ?_)
    · have hn0 : n ≠ 0 := by omega
      have l0 : (⟨#[115, 121, 109, 98, 111, 108, 115, 58]⟩ : ByteArray).size = 8 := rfl
      repeat (first
        | refine awp_seq ?_
        | refine thenA_normal ?_
        | refine awp_block ?_
        | refine a_region ?_
        | refine r_done ?_
        | (refine r_id ?_; first
          | refine r_ev tab_ok rfl rfl rfl rfl (by first | exact trivial | exact ⟨by omega, by omega⟩ | omega | exact ⟨by omega, by omega, by omega, by omega⟩ | exact Nat.le_of_ble_eq_true rfl) rfl ?_))
      rw [tx1_0]
      refine a_loop (σ := {j : Nat // j ≤ n}) (fun _ => []) (fun x => [(1, .val (.int .i64 (n : Nat))), (2, .val (.int .i64 (a : Nat))), (8, .val (.int .i64 (i : Nat))), (9, .val (.string ⟨(tx1 i x.1).toArray⟩)), (10, .val (.int .i64 x.1))]) (fun x => n - x.1) ⟨0, Nat.zero_le _⟩ (fits_of rfl (by repeat' first | exact trivial | exact Sub.refl _ | exact rfl | apply And.intro)) ?_
      rintro ⟨j, hj⟩
      dsimp only
      have hz := tx1_z i j hi (by omega)
      have hs := tx1_s i j
      have he := tx1_e i j
      generalize (⟨(tx1 i j).toArray⟩ : ByteArray) = T at hz hs he ⊢
      have l1 : (⟨#[32, 115]⟩ : ByteArray).size = 2 := rfl
      repeat (first
        | refine awp_seq ?_
        | refine thenA_normal ?_
        | refine a_region ?_
        | refine r_done ?_
        | (refine r_id ?_; first
          | refine r_ev tab_ok rfl rfl rfl rfl (by first | exact trivial | exact ⟨by omega, by omega⟩ | omega | exact ⟨by omega, by omega, by omega, by omega⟩ | exact Nat.le_of_ble_eq_true rfl) rfl ?_))
      refine awp_cond_p rfl (fun hlt => ?_) (fun hge => ?_)
      · repeat (first
          | refine awp_seq ?_
          | refine thenA_normal ?_
          | refine awp_block ?_
          | refine a_region ?_
          | refine awp_skip ?_
          | refine r_done ?_
          | (refine r_id ?_; first
            | refine r_ev tab_ok rfl rfl rfl rfl (by first | exact trivial | exact ⟨by omega, by omega⟩ | omega | exact ⟨by omega, by omega, by omega, by omega⟩ | exact Nat.le_of_ble_eq_true rfl) rfl ?_))
        refine ⟨⟨j + 1, by omega⟩, by dsimp only; omega, ?_⟩
        dsimp only
        rw [← hs]
        exact fits_of rfl (by repeat' first | exact trivial | exact Sub.refl _ | exact rfl | apply And.intro)
      · obtain rfl : j = n := by omega
        have l2 : (⟨#[59]⟩ : ByteArray).size = 1 := rfl
        repeat (first
          | refine a_region ?_
          | refine awp_exit ?_
          | refine r_done ?_
          | (refine r_id ?_; first
            | refine r_ev tab_ok rfl rfl rfl rfl (by first | exact trivial | exact ⟨by omega, by omega⟩ | omega | exact ⟨by omega, by omega, by omega, by omega⟩ | exact Nat.le_of_ble_eq_true rfl) rfl ?_))
        rw [he hn0]
        exact ⟨rfl, fits_of rfl (by repeat' first | exact trivial | exact Sub.refl _ | exact rfl | apply And.intro)⟩
    · obtain rfl : n = 0 := by omega
      rw [show shL i ++ syL 0 = shL i from List.append_nil _]
      repeat (first
        | refine awp_skip ?_)
      exact ⟨rfl, fits_of rfl (by repeat' first | exact trivial | exact Sub.refl _ | exact rfl | apply And.intro)⟩
  repeat (first
    | refine awp_seq ?_
    | refine thenA_normal ?_
    | refine a_region ?_
    | refine r_done ?_
    | (refine r_id ?_; first
      | refine r_ev tab_ok rfl rfl rfl rfl (by first | exact trivial | exact ⟨by omega, by omega⟩ | omega | exact ⟨by omega, by omega, by omega, by omega⟩ | exact Nat.le_of_ble_eq_true rfl) rfl ?_))
  refine awp_cutv ⟨[], [(1, .val (.int .i64 (n : Nat))), (2, .val (.int .i64 (a : Nat))), (8, .val (.int .i64 (i : Nat))), (9, .val (.string ⟨(tx3 i n a).toArray⟩))]⟩ ?_ ?_
  · have hz0 : (⟨(shL i ++ syL n).toArray⟩ : ByteArray).size ≤ 400 := by
      have h1 := sh_len i hi
      have h2 := sy_len n hn
      rw [sz_list, List.length_append]; omega
    refine awp_cond_p rfl (fun hy => ?_) (fun hno => ?_)
    · have ha0 : a ≠ 0 := by omega
      have l0 : (⟨#[97, 100, 100, 105, 116, 105, 118, 101, 45, 115, 121, 109, 98, 111, 108, 115, 58]⟩ : ByteArray).size = 17 := rfl
      repeat (first
        | refine awp_seq ?_
        | refine thenA_normal ?_
        | refine awp_block ?_
        | refine a_region ?_
        | refine r_done ?_
        | (refine r_id ?_; first
          | refine r_ev tab_ok rfl rfl rfl rfl (by first | exact trivial | exact ⟨by omega, by omega⟩ | omega | exact ⟨by omega, by omega, by omega, by omega⟩ | exact Nat.le_of_ble_eq_true rfl) rfl ?_))
      rw [tx2_0]
      refine a_loop (σ := {j : Nat // j ≤ a}) (fun _ => []) (fun x => [(1, .val (.int .i64 (n : Nat))), (2, .val (.int .i64 (a : Nat))), (8, .val (.int .i64 (i : Nat))), (9, .val (.string ⟨(tx2 i n x.1).toArray⟩)), (11, .val (.int .i64 x.1))]) (fun x => a - x.1) ⟨0, Nat.zero_le _⟩ (fits_of rfl (by repeat' first | exact trivial | exact Sub.refl _ | exact rfl | apply And.intro)) ?_
      rintro ⟨j, hj⟩
      dsimp only
      have hz := tx2_z i n j hi hn (by omega)
      have h0 : j = 0 → (⟨(tx2 i n j).toArray⟩ : ByteArray) ++ (⟨#[32]⟩ : ByteArray) ++ (⟨(nmB j).L.toArray⟩ : ByteArray) ++ (⟨#[32, 116]⟩ : ByteArray) = ⟨(tx2 i n (j + 1)).toArray⟩ := fun h => by subst h; exact tx2_s0 i n
      have hs := tx2_s i n j
      have he := tx2_e i n j
      obtain ⟨y1, y2, y3, y4, y5⟩ := cat5 (⟨(tx2 i n j).toArray⟩ : ByteArray) (⟨(nmB j).L.toArray⟩ : ByteArray) hz (nmL_sz j)
      have hD := nmL_sz j
      generalize (⟨(tx2 i n j).toArray⟩ : ByteArray) = T at hz h0 hs he y1 y2 y3 y4 y5 ⊢
      have l1 : (⟨#[32, 116]⟩ : ByteArray).size = 2 := rfl
      have l2 : (⟨#[44]⟩ : ByteArray).size = 1 := rfl
      have l3 : (⟨#[32]⟩ : ByteArray).size = 1 := rfl
      repeat (first
        | refine awp_seq ?_
        | refine thenA_normal ?_
        | refine a_region ?_
        | refine r_done ?_
        | (refine r_id ?_; first
          | refine r_ev tab_ok rfl rfl rfl rfl (by first | exact trivial | exact ⟨by omega, by omega⟩ | omega | exact ⟨by omega, by omega, by omega, by omega⟩ | exact Nat.le_of_ble_eq_true rfl) rfl ?_))
      refine awp_cond_p rfl (fun hlt => ?_) (fun hge => ?_)
      · have hj70 : j < 70 := by omega
        by_cases hj0 : j = 0
        · have e0 := h0 hj0
          repeat (first
            | refine awp_seq ?_
            | refine thenA_normal ?_
            | refine awp_block ?_
            | refine a_region ?_
            | refine awp_skip ?_
            | refine r_done ?_
            | (refine r_id ?_; first
              | refine r_ev tab_ok rfl rfl rfl rfl (by first | exact trivial | exact ⟨by omega, by omega⟩ | omega | exact ⟨by omega, by omega, by omega, by omega⟩ | exact Nat.le_of_ble_eq_true rfl) rfl ?_))
          refine awp_cond_p rfl (fun h => absurd h (by omega)) (fun _ => ?_)
          repeat (first
            | refine thenA_normal ?_
            | refine a_region ?_
            | refine awp_skip ?_
            | (refine r_id ?_; first
              | refine r_ev tab_ok rfl rfl rfl rfl (by first | exact trivial | exact ⟨by omega, by omega⟩ | omega | exact ⟨by omega, by omega, by omega, by omega⟩ | exact Nat.le_of_ble_eq_true rfl) rfl ?_))
          refine r_call (dec_nm j hj70) call9 rfl rfl ⟨Sub.refl _, trivial⟩ rfl rfl rfl rfl ?_
          repeat (first
            | refine thenA_normal ?_
            | refine a_region ?_
            | refine r_done ?_
            | (refine r_id ?_; first
              | refine r_ev tab_ok rfl rfl rfl rfl (by first | exact trivial | exact ⟨by omega, by omega⟩ | omega | exact ⟨by omega, by omega, by omega, by omega⟩ | exact Nat.le_of_ble_eq_true rfl) rfl ?_))
          refine ⟨⟨j + 1, by omega⟩, by dsimp only; omega, ?_⟩
          dsimp only
          rw [← e0]
          exact fits_of rfl (by repeat' first | exact trivial | exact Sub.refl _ | exact rfl | apply And.intro)
        · have e0 := hs hj0
          repeat (first
            | refine awp_seq ?_
            | refine thenA_normal ?_
            | refine awp_block ?_
            | refine a_region ?_
            | refine awp_skip ?_
            | refine r_done ?_
            | (refine r_id ?_; first
              | refine r_ev tab_ok rfl rfl rfl rfl (by first | exact trivial | exact ⟨by omega, by omega⟩ | omega | exact ⟨by omega, by omega, by omega, by omega⟩ | exact Nat.le_of_ble_eq_true rfl) rfl ?_))
          refine awp_cond_p rfl (fun _ => ?_) (fun h => (h (by omega)).elim)
          repeat (first
            | refine thenA_normal ?_
            | refine a_region ?_
            | refine r_done ?_
            | (refine r_id ?_; first
              | refine r_ev tab_ok rfl rfl rfl rfl (by first | exact trivial | exact ⟨by omega, by omega⟩ | omega | exact ⟨by omega, by omega, by omega, by omega⟩ | exact Nat.le_of_ble_eq_true rfl) rfl ?_))
          refine r_call (dec_nm j hj70) call9 rfl rfl ⟨Sub.refl _, trivial⟩ rfl rfl rfl rfl ?_
          repeat (first
            | refine thenA_normal ?_
            | refine a_region ?_
            | refine r_done ?_
            | (refine r_id ?_; first
              | refine r_ev tab_ok rfl rfl rfl rfl (by first | exact trivial | exact ⟨by omega, by omega⟩ | omega | exact ⟨by omega, by omega, by omega, by omega⟩ | exact Nat.le_of_ble_eq_true rfl) rfl ?_))
          refine ⟨⟨j + 1, by omega⟩, by dsimp only; omega, ?_⟩
          dsimp only
          rw [← e0]
          exact fits_of rfl (by repeat' first | exact trivial | exact Sub.refl _ | exact rfl | apply And.intro)
      · obtain rfl : j = a := by omega
        have l4 : (⟨#[59]⟩ : ByteArray).size = 1 := rfl
        repeat (first
          | refine a_region ?_
          | refine awp_exit ?_
          | refine r_done ?_
          | (refine r_id ?_; first
            | refine r_ev tab_ok rfl rfl rfl rfl (by first | exact trivial | exact ⟨by omega, by omega⟩ | omega | exact ⟨by omega, by omega, by omega, by omega⟩ | exact Nat.le_of_ble_eq_true rfl) rfl ?_))
        rw [he ha0]
        exact ⟨rfl, fits_of rfl (by repeat' first | exact trivial | exact Sub.refl _ | exact rfl | apply And.intro)⟩
    · obtain rfl : a = 0 := by omega
      rw [show tx3 i n 0 = shL i ++ syL n by rw [tx3, show adL 0 = [] from rfl, List.append_nil]]
      repeat (first
        | refine awp_skip ?_)
      exact ⟨rfl, fits_of rfl (by repeat' first | exact trivial | exact Sub.refl _ | exact rfl | apply And.intro)⟩
  have hz3 := tx3_z i n a hi hn ha
  have l5 : (⟨#[125]⟩ : ByteArray).size = 1 := rfl
  have hsx := sx_at hi hn ha
  have hen := en_may hi hn ha
  have hes := en_sym i n a
  have hew := en_wts i n a
  have her := en_rng i n a
  have h7 : i = 0 ∨ i = 1 ∨ i = 2 ∨ i = 3 ∨ i = 4 ∨ i = 5 ∨ i = 6 := by omega
  cases hg : gdS i n a with
  | false =>
    rw [hg, if_neg Bool.false_ne_true] at hsx
    repeat (first
      | refine awp_seq ?_
      | refine a_region ?_
      | (refine r_id ?_; first
        | refine r_ev tab_ok rfl rfl rfl rfl (by first | exact trivial | exact ⟨by omega, by omega⟩ | omega | exact ⟨by omega, by omega, by omega, by omega⟩ | exact Nat.le_of_ble_eq_true rfl) rfl ?_))
    rw [tx3_e]
    refine r_call (one10_at hsx) call8 rfl rfl ⟨Sub.refl _, trivial⟩ rfl rfl rfl rfl ?_
    clear hsx hen hes hew her hz3 l5
    repeat (first
      | refine awp_seq ?_
      | refine thenA_normal ?_
      | refine awp_block ?_
      | refine a_region ?_
      | refine r_done ?_
      | (refine r_id ?_; first
        | refine r_ev tab_ok rfl rfl rfl rfl (by first | exact trivial | exact ⟨by omega, by omega⟩ | omega | exact ⟨by omega, by omega, by omega, by omega⟩ | exact Nat.le_of_ble_eq_true rfl) rfl ?_
        | refine r_wr tab_ok rfl rfl rfl rfl rfl ?_
        | refine r_st tab_ok rfl rfl rfl rfl ?_
        | refine r_ev_cnd tab_ok rfl rfl rfl rfl rfl rfl (by first | exact fun _ => rfl | exact cs1 | exact cs2 | exact cs3) (by first | exact fun _ => trivial | (intro h; simp at h; first | exact ⟨by omega, by omega⟩ | omega)) rfl ?_
        | refine r_and rfl rfl rfl rfl rfl rfl rfl rfl ?_))
    rcases h7 with rfl | rfl | rfl | rfl | rfl | rfl | rfl
    all_goals have hg' := hg
    all_goals simp [gdS] at hg'
    all_goals clear hg
    · repeat (first
        | refine awp_seq ?_
        | refine thenA_normal ?_
        | refine a_region ?_
        | refine awp_skip ?_
        | refine r_done ?_
        | (refine r_id ?_; first
          | refine r_ev tab_ok rfl rfl rfl rfl (by first | exact trivial | exact ⟨by omega, by omega⟩ | omega | exact ⟨by omega, by omega, by omega, by omega⟩ | exact Nat.le_of_ble_eq_true rfl) rfl ?_)
        | refine awp_cond_f rfl ?_)
      refine awp_cond rfl (fun h => ?_) (fun h => ?_)
      · repeat (first
          | refine awp_seq ?_
          | refine a_region ?_
          | (refine r_id ?_; first
            | refine r_ev tab_ok rfl rfl rfl rfl (by first | exact trivial | exact ⟨by omega, by omega⟩ | omega | exact ⟨by omega, by omega, by omega, by omega⟩ | exact Nat.le_of_ble_eq_true rfl) rfl ?_
            | refine r_pick_t rfl rfl rfl rfl rfl rfl rfl ?_
            | refine r_ev_on tab_ok rfl rfl rfl rfl rfl rfl (by first | exact trivial | exact ⟨by omega, by omega⟩ | omega) rfl ?_
            | refine r_ld_on tab_ok rfl rfl rfl rfl rfl rfl rfl ?_)
          | refine r_g rfl rfl rfl ?_)
        refine r_call awake10_ok call6 rfl rfl trivial rfl rfl rfl rfl ?_
        repeat (first
          | refine thenA_normal ?_
          | refine awp_ret ?_
          | refine thenA_ret ?_
          | refine r_done ?_
          | (refine r_id ?_; first
            | refine r_ev tab_ok rfl rfl rfl rfl (by first | exact trivial | exact ⟨by omega, by omega⟩ | omega | exact ⟨by omega, by omega, by omega, by omega⟩ | exact Nat.le_of_ble_eq_true rfl) rfl ?_
            | refine r_pick_t rfl rfl rfl rfl rfl rfl rfl ?_)
          | refine ret1 (by first | exact .inl rfl | exact .inr rfl) rfl rfl rfl ?_)
        exact Sub.refl _
      · exfalso
        simp at h
        omega
    · repeat (first
        | refine awp_seq ?_
        | refine thenA_normal ?_
        | refine a_region ?_
        | refine awp_skip ?_
        | refine r_done ?_
        | (refine r_id ?_; first
          | refine r_ev tab_ok rfl rfl rfl rfl (by first | exact trivial | exact ⟨by omega, by omega⟩ | omega | exact ⟨by omega, by omega, by omega, by omega⟩ | exact Nat.le_of_ble_eq_true rfl) rfl ?_)
        | refine awp_cond_f rfl ?_)
      refine awp_cond rfl (fun h => ?_) (fun h => ?_)
      · repeat (first
          | refine awp_seq ?_
          | refine a_region ?_
          | (refine r_id ?_; first
            | refine r_ev tab_ok rfl rfl rfl rfl (by first | exact trivial | exact ⟨by omega, by omega⟩ | omega | exact ⟨by omega, by omega, by omega, by omega⟩ | exact Nat.le_of_ble_eq_true rfl) rfl ?_
            | refine r_pick_t rfl rfl rfl rfl rfl rfl rfl ?_
            | refine r_ev_on tab_ok rfl rfl rfl rfl rfl rfl (by first | exact trivial | exact ⟨by omega, by omega⟩ | omega) rfl ?_
            | refine r_ld_on tab_ok rfl rfl rfl rfl rfl rfl rfl ?_)
          | refine r_g rfl rfl rfl ?_)
        refine r_call awake10_ok call6 rfl rfl trivial rfl rfl rfl rfl ?_
        repeat (first
          | refine thenA_normal ?_
          | refine awp_ret ?_
          | refine thenA_ret ?_
          | refine r_done ?_
          | (refine r_id ?_; first
            | refine r_ev tab_ok rfl rfl rfl rfl (by first | exact trivial | exact ⟨by omega, by omega⟩ | omega | exact ⟨by omega, by omega, by omega, by omega⟩ | exact Nat.le_of_ble_eq_true rfl) rfl ?_
            | refine r_pick_t rfl rfl rfl rfl rfl rfl rfl ?_)
          | refine ret1 (by first | exact .inl rfl | exact .inr rfl) rfl rfl rfl ?_)
        exact Sub.refl _
      · exfalso
        simp at h
        omega
    · repeat (first
        | refine awp_seq ?_
        | refine thenA_normal ?_
        | refine a_region ?_
        | refine awp_skip ?_
        | refine r_done ?_
        | (refine r_id ?_; first
          | refine r_ev tab_ok rfl rfl rfl rfl (by first | exact trivial | exact ⟨by omega, by omega⟩ | omega | exact ⟨by omega, by omega, by omega, by omega⟩ | exact Nat.le_of_ble_eq_true rfl) rfl ?_)
        | refine awp_cond_f rfl ?_)
      refine awp_cond rfl (fun h => ?_) (fun h => ?_)
      · repeat (first
          | refine awp_seq ?_
          | refine a_region ?_
          | (refine r_id ?_; first
            | refine r_ev tab_ok rfl rfl rfl rfl (by first | exact trivial | exact ⟨by omega, by omega⟩ | omega | exact ⟨by omega, by omega, by omega, by omega⟩ | exact Nat.le_of_ble_eq_true rfl) rfl ?_
            | refine r_pick_t rfl rfl rfl rfl rfl rfl rfl ?_
            | refine r_ev_on tab_ok rfl rfl rfl rfl rfl rfl (by first | exact trivial | exact ⟨by omega, by omega⟩ | omega) rfl ?_
            | refine r_ld_on tab_ok rfl rfl rfl rfl rfl rfl rfl ?_)
          | refine r_g rfl rfl rfl ?_)
        refine r_call awake10_ok call6 rfl rfl trivial rfl rfl rfl rfl ?_
        repeat (first
          | refine thenA_normal ?_
          | refine awp_ret ?_
          | refine thenA_ret ?_
          | refine r_done ?_
          | (refine r_id ?_; first
            | refine r_ev tab_ok rfl rfl rfl rfl (by first | exact trivial | exact ⟨by omega, by omega⟩ | omega | exact ⟨by omega, by omega, by omega, by omega⟩ | exact Nat.le_of_ble_eq_true rfl) rfl ?_
            | refine r_pick_t rfl rfl rfl rfl rfl rfl rfl ?_)
          | refine ret1 (by first | exact .inl rfl | exact .inr rfl) rfl rfl rfl ?_)
        exact Sub.refl _
      · exfalso
        simp at h
        omega
    · repeat (first
        | refine awp_seq ?_
        | refine thenA_normal ?_
        | refine a_region ?_
        | refine awp_skip ?_
        | refine r_done ?_
        | (refine r_id ?_; first
          | refine r_ev tab_ok rfl rfl rfl rfl (by first | exact trivial | exact ⟨by omega, by omega⟩ | omega | exact ⟨by omega, by omega, by omega, by omega⟩ | exact Nat.le_of_ble_eq_true rfl) rfl ?_
          | refine r_ev_cnd tab_ok rfl rfl rfl rfl rfl rfl (by first | exact fun _ => rfl | exact cs1 | exact cs2 | exact cs3) (by first | exact fun _ => trivial | (intro h; simp at h; first | exact ⟨by omega, by omega⟩ | omega)) rfl ?_
          | refine r_and rfl rfl rfl rfl rfl rfl rfl rfl ?_)
        | refine awp_cond_t rfl ?_)
      refine awp_cond rfl (fun h => ?_) (fun h => ?_)
      · repeat (first
          | refine awp_seq ?_
          | refine a_region ?_
          | (refine r_id ?_; first
            | refine r_ev tab_ok rfl rfl rfl rfl (by first | exact trivial | exact ⟨by omega, by omega⟩ | omega | exact ⟨by omega, by omega, by omega, by omega⟩ | exact Nat.le_of_ble_eq_true rfl) rfl ?_
            | refine r_pick_t rfl rfl rfl rfl rfl rfl rfl ?_
            | refine r_ev_on tab_ok rfl rfl rfl rfl rfl rfl (by first | exact trivial | exact ⟨by omega, by omega⟩ | omega) rfl ?_
            | refine r_ld_on tab_ok rfl rfl rfl rfl rfl rfl rfl ?_)
          | refine r_g rfl rfl rfl ?_)
        refine r_call awake10_ok call6 rfl rfl trivial rfl rfl rfl rfl ?_
        repeat (first
          | refine thenA_normal ?_
          | refine awp_ret ?_
          | refine thenA_ret ?_
          | refine r_done ?_
          | (refine r_id ?_; first
            | refine r_ev tab_ok rfl rfl rfl rfl (by first | exact trivial | exact ⟨by omega, by omega⟩ | omega | exact ⟨by omega, by omega, by omega, by omega⟩ | exact Nat.le_of_ble_eq_true rfl) rfl ?_
            | refine r_pick_t rfl rfl rfl rfl rfl rfl rfl ?_)
          | refine ret1 (by first | exact .inl rfl | exact .inr rfl) rfl rfl rfl ?_)
        exact Sub.refl _
      · exfalso
        simp at h
        omega
    · repeat (first
        | refine awp_seq ?_
        | refine thenA_normal ?_
        | refine a_region ?_
        | refine r_done ?_
        | (refine r_id ?_; first
          | refine r_ev tab_ok rfl rfl rfl rfl (by first | exact trivial | exact ⟨by omega, by omega⟩ | omega | exact ⟨by omega, by omega, by omega, by omega⟩ | exact Nat.le_of_ble_eq_true rfl) rfl ?_
          | refine r_ev_cnd tab_ok rfl rfl rfl rfl rfl rfl (by first | exact fun _ => rfl | exact cs1 | exact cs2 | exact cs3) (by first | exact fun _ => trivial | (intro h; simp at h; first | exact ⟨by omega, by omega⟩ | omega)) rfl ?_
          | refine r_and rfl rfl rfl rfl rfl rfl rfl rfl ?_)
        | refine awp_cond_t rfl ?_
        | refine awp_cond_f rfl ?_)
      refine awp_cond rfl (fun h => ?_) (fun h => ?_)
      · repeat (first
          | refine awp_seq ?_
          | refine a_region ?_
          | (refine r_id ?_; first
            | refine r_ev tab_ok rfl rfl rfl rfl (by first | exact trivial | exact ⟨by omega, by omega⟩ | omega | exact ⟨by omega, by omega, by omega, by omega⟩ | exact Nat.le_of_ble_eq_true rfl) rfl ?_
            | refine r_pick_t rfl rfl rfl rfl rfl rfl rfl ?_
            | refine r_ev_on tab_ok rfl rfl rfl rfl rfl rfl (by first | exact trivial | exact ⟨by omega, by omega⟩ | omega) rfl ?_
            | refine r_ld_on tab_ok rfl rfl rfl rfl rfl rfl rfl ?_)
          | refine r_g rfl rfl rfl ?_)
        refine r_call awake10_ok call6 rfl rfl trivial rfl rfl rfl rfl ?_
        repeat (first
          | refine thenA_normal ?_
          | refine awp_ret ?_
          | refine thenA_ret ?_
          | refine r_done ?_
          | (refine r_id ?_; first
            | refine r_ev tab_ok rfl rfl rfl rfl (by first | exact trivial | exact ⟨by omega, by omega⟩ | omega | exact ⟨by omega, by omega, by omega, by omega⟩ | exact Nat.le_of_ble_eq_true rfl) rfl ?_
            | refine r_pick_t rfl rfl rfl rfl rfl rfl rfl ?_)
          | refine ret1 (by first | exact .inl rfl | exact .inr rfl) rfl rfl rfl ?_)
        exact Sub.refl _
      · exfalso
        simp at h
        omega
    · repeat (first
        | refine awp_seq ?_
        | refine thenA_normal ?_
        | refine a_region ?_
        | refine r_done ?_
        | (refine r_id ?_; first
          | refine r_ev tab_ok rfl rfl rfl rfl (by first | exact trivial | exact ⟨by omega, by omega⟩ | omega | exact ⟨by omega, by omega, by omega, by omega⟩ | exact Nat.le_of_ble_eq_true rfl) rfl ?_
          | refine r_ev_cnd tab_ok rfl rfl rfl rfl rfl rfl (by first | exact fun _ => rfl | exact cs1 | exact cs2 | exact cs3) (by first | exact fun _ => trivial | (intro h; simp at h; first | exact ⟨by omega, by omega⟩ | omega)) rfl ?_
          | refine r_and rfl rfl rfl rfl rfl rfl rfl rfl ?_)
        | refine awp_cond_t rfl ?_
        | refine awp_cond_f rfl ?_)
      refine awp_cond rfl (fun h => ?_) (fun h => ?_)
      · repeat (first
          | refine awp_seq ?_
          | refine a_region ?_
          | (refine r_id ?_; first
            | refine r_ev tab_ok rfl rfl rfl rfl (by first | exact trivial | exact ⟨by omega, by omega⟩ | omega | exact ⟨by omega, by omega, by omega, by omega⟩ | exact Nat.le_of_ble_eq_true rfl) rfl ?_
            | refine r_pick_t rfl rfl rfl rfl rfl rfl rfl ?_
            | refine r_ev_on tab_ok rfl rfl rfl rfl rfl rfl (by first | exact trivial | exact ⟨by omega, by omega⟩ | omega) rfl ?_
            | refine r_ld_on tab_ok rfl rfl rfl rfl rfl rfl rfl ?_)
          | refine r_g rfl rfl rfl ?_)
        refine r_call awake10_ok call6 rfl rfl trivial rfl rfl rfl rfl ?_
        repeat (first
          | refine thenA_normal ?_
          | refine awp_ret ?_
          | refine thenA_ret ?_
          | refine r_done ?_
          | (refine r_id ?_; first
            | refine r_ev tab_ok rfl rfl rfl rfl (by first | exact trivial | exact ⟨by omega, by omega⟩ | omega | exact ⟨by omega, by omega, by omega, by omega⟩ | exact Nat.le_of_ble_eq_true rfl) rfl ?_
            | refine r_pick_t rfl rfl rfl rfl rfl rfl rfl ?_)
          | refine ret1 (by first | exact .inl rfl | exact .inr rfl) rfl rfl rfl ?_)
        exact Sub.refl _
      · exfalso
        simp at h
        omega
    · repeat (first
        | refine awp_seq ?_
        | refine thenA_normal ?_
        | refine a_region ?_
        | refine r_done ?_
        | (refine r_id ?_; first
          | refine r_ev tab_ok rfl rfl rfl rfl (by first | exact trivial | exact ⟨by omega, by omega⟩ | omega | exact ⟨by omega, by omega, by omega, by omega⟩ | exact Nat.le_of_ble_eq_true rfl) rfl ?_
          | refine r_ev_cnd tab_ok rfl rfl rfl rfl rfl rfl (by first | exact fun _ => rfl | exact cs1 | exact cs2 | exact cs3) (by first | exact fun _ => trivial | (intro h; simp at h; first | exact ⟨by omega, by omega⟩ | omega)) rfl ?_
          | refine r_and rfl rfl rfl rfl rfl rfl rfl rfl ?_)
        | refine awp_cond_t rfl ?_
        | refine awp_cond_f rfl ?_)
      refine awp_cond rfl (fun h => ?_) (fun h => ?_)
      · repeat (first
          | refine awp_seq ?_
          | refine a_region ?_
          | (refine r_id ?_; first
            | refine r_ev tab_ok rfl rfl rfl rfl (by first | exact trivial | exact ⟨by omega, by omega⟩ | omega | exact ⟨by omega, by omega, by omega, by omega⟩ | exact Nat.le_of_ble_eq_true rfl) rfl ?_
            | refine r_pick_t rfl rfl rfl rfl rfl rfl rfl ?_
            | refine r_ev_on tab_ok rfl rfl rfl rfl rfl rfl (by first | exact trivial | exact ⟨by omega, by omega⟩ | omega) rfl ?_
            | refine r_ld_on tab_ok rfl rfl rfl rfl rfl rfl rfl ?_)
          | refine r_g rfl rfl rfl ?_)
        refine r_call awake10_ok call6 rfl rfl trivial rfl rfl rfl rfl ?_
        repeat (first
          | refine thenA_normal ?_
          | refine awp_ret ?_
          | refine thenA_ret ?_
          | refine r_done ?_
          | (refine r_id ?_; first
            | refine r_ev tab_ok rfl rfl rfl rfl (by first | exact trivial | exact ⟨by omega, by omega⟩ | omega | exact ⟨by omega, by omega, by omega, by omega⟩ | exact Nat.le_of_ble_eq_true rfl) rfl ?_
            | refine r_pick_t rfl rfl rfl rfl rfl rfl rfl ?_)
          | refine ret1 (by first | exact .inl rfl | exact .inr rfl) rfl rfl rfl ?_)
        exact Sub.refl _
      · exfalso
        simp at h
        omega
  | true =>
    rw [hg, if_pos rfl] at hsx
    repeat (first
      | refine awp_seq ?_
      | refine a_region ?_
      | (refine r_id ?_; first
        | refine r_ev tab_ok rfl rfl rfl rfl (by first | exact trivial | exact ⟨by omega, by omega⟩ | omega | exact ⟨by omega, by omega, by omega, by omega⟩ | exact Nat.le_of_ble_eq_true rfl) rfl ?_))
    rw [tx3_e]
    refine r_call (one10_at hsx) call8 rfl rfl ⟨Sub.refl _, trivial⟩ rfl rfl rfl rfl ?_
    have hm := hen hg
    clear hsx hz3 l5 hen
    generalize enS i n a = E at hm hes hew her ⊢
    have hwz : E.weights.length ≤ 70 := by rw [hew]; split <;> omega
    have hsl : (E.symbols.map sF).length = E.symbols.length := List.length_map _
    have hwl : (E.weights.map wtD).length = E.weights.length := List.length_map _
    repeat (first
      | refine awp_seq ?_
      | refine thenA_normal ?_
      | refine awp_block ?_
      | refine a_region ?_
      | refine r_done ?_
      | (refine r_id ?_; first
        | refine r_ev tab_ok rfl rfl rfl rfl (by first | exact trivial | exact ⟨by omega, by omega⟩ | omega | exact ⟨by omega, by omega, by omega, by omega⟩ | exact Nat.le_of_ble_eq_true rfl) rfl ?_
        | refine r_wr tab_ok rfl rfl rfl rfl rfl ?_
        | refine r_st tab_ok rfl rfl rfl rfl ?_
        | refine r_ev_cnd tab_ok rfl rfl rfl rfl rfl rfl (by first | exact fun _ => rfl | exact cs1 | exact cs2 | exact cs3) (by first | exact fun _ => trivial | (intro h; simp at h; first | exact ⟨by omega, by omega⟩ | omega)) rfl ?_
        | refine r_and rfl rfl rfl rfl rfl rfl rfl rfl ?_))
    rcases h7 with rfl | rfl | rfl | rfl | rfl | rfl | rfl
    all_goals have hg' := hg
    all_goals simp [gdS] at hg'
    all_goals simp [wnS] at hes hew
    all_goals clear hg
    · have hb : (decide (((0 : Nat) : Int) = 5) == decide (0 < (E.weights.length : Int))) = true := by simp [hew]
      repeat (first
        | refine awp_seq ?_
        | refine thenA_normal ?_
        | refine a_region ?_
        | refine awp_skip ?_
        | refine r_done ?_
        | (refine r_id ?_; first
          | refine r_ev tab_ok rfl rfl rfl rfl (by first | exact trivial | exact ⟨by omega, by omega⟩ | omega | exact ⟨by omega, by omega, by omega, by omega⟩ | exact Nat.le_of_ble_eq_true rfl) rfl ?_)
        | refine awp_cond_f rfl ?_)
      refine awp_cond rfl (fun h => ?_) (fun h => ?_)
      · exfalso
        simp at h
        omega
      · repeat (first
          | refine awp_seq ?_
          | refine a_region ?_
          | refine awp_skip ?_
          | (refine r_id ?_; first
            | refine r_len tab_ok rfl rfl rfl rfl rfl rfl rfl ?_
            | refine r_ev tab_ok rfl rfl rfl rfl (by first | exact trivial | exact ⟨by omega, by omega⟩ | omega | exact ⟨by omega, by omega, by omega, by omega⟩ | exact Nat.le_of_ble_eq_true rfl) rfl ?_
            | refine r_ld tab_ok rfl rfl rfl rfl rfl ?_
            | refine r_pick_t rfl rfl rfl rfl rfl rfl rfl ?_
            | refine r_len_on tab_ok rfl rfl rfl rfl rfl rfl rfl rfl rfl ?_
            | refine r_ev_on tab_ok rfl rfl rfl rfl rfl rfl (by first | exact trivial | exact ⟨by omega, by omega⟩ | omega) rfl ?_
            | refine r_ld_on tab_ok rfl rfl rfl rfl rfl rfl rfl ?_)
          | refine r_g rfl rfl (congrArg (fun b => AV.val (.bool b)) (decide_eq_true (by omega))) ?_
          | refine r_pick_t rfl rfl (congrArg (fun b => AV.val (.bool b)) (decide_eq_true (by omega))) rfl rfl rfl rfl ?_)
        simp only [hb]
        repeat (first
          | (refine r_id ?_; first
            | refine r_ld_on tab_ok rfl rfl rfl rfl rfl rfl rfl ?_)
          | refine r_g rfl rfl rfl ?_)
        refine r_call (smay_ok E (by omega) (by omega) (by omega)) call10 rfl rfl ⟨Sub.refl _, trivial⟩ rfl rfl rfl rfl ?_
        simp only [hm]
        repeat (first
          | (refine r_id ?_; first
            | refine r_ev tab_ok rfl rfl rfl rfl (by first | exact trivial | exact ⟨by omega, by omega⟩ | omega | exact ⟨by omega, by omega, by omega, by omega⟩ | exact Nat.le_of_ble_eq_true rfl) rfl ?_
            | refine r_pick_t rfl rfl rfl rfl rfl rfl rfl ?_)
          | refine r_g rfl rfl rfl ?_)
        refine r_call awake10_ok call6 rfl rfl trivial rfl rfl rfl rfl ?_
        repeat (first
          | refine thenA_normal ?_
          | refine awp_ret ?_
          | refine r_done ?_
          | (refine r_id ?_; first
            | refine r_ev tab_ok rfl rfl rfl rfl (by first | exact trivial | exact ⟨by omega, by omega⟩ | omega | exact ⟨by omega, by omega, by omega, by omega⟩ | exact Nat.le_of_ble_eq_true rfl) rfl ?_
            | refine r_pick_t rfl rfl rfl rfl rfl rfl rfl ?_)
          | refine ret1 (by first | exact .inl rfl | exact .inr rfl) rfl rfl rfl ?_)
        exact Sub.refl _
    · have hb : (decide (((1 : Nat) : Int) = 5) == decide (0 < (E.weights.length : Int))) = true := by simp [hew]
      repeat (first
        | refine awp_seq ?_
        | refine thenA_normal ?_
        | refine a_region ?_
        | refine awp_skip ?_
        | refine r_done ?_
        | (refine r_id ?_; first
          | refine r_ev tab_ok rfl rfl rfl rfl (by first | exact trivial | exact ⟨by omega, by omega⟩ | omega | exact ⟨by omega, by omega, by omega, by omega⟩ | exact Nat.le_of_ble_eq_true rfl) rfl ?_)
        | refine awp_cond_f rfl ?_)
      refine awp_cond rfl (fun h => ?_) (fun h => ?_)
      · exfalso
        simp at h
        omega
      · repeat (first
          | refine awp_seq ?_
          | refine a_region ?_
          | refine awp_skip ?_
          | (refine r_id ?_; first
            | refine r_len tab_ok rfl rfl rfl rfl rfl rfl rfl ?_
            | refine r_ev tab_ok rfl rfl rfl rfl (by first | exact trivial | exact ⟨by omega, by omega⟩ | omega | exact ⟨by omega, by omega, by omega, by omega⟩ | exact Nat.le_of_ble_eq_true rfl) rfl ?_
            | refine r_ld tab_ok rfl rfl rfl rfl rfl ?_
            | refine r_pick_t rfl rfl rfl rfl rfl rfl rfl ?_
            | refine r_len_on tab_ok rfl rfl rfl rfl rfl rfl rfl rfl rfl ?_
            | refine r_ev_on tab_ok rfl rfl rfl rfl rfl rfl (by first | exact trivial | exact ⟨by omega, by omega⟩ | omega) rfl ?_
            | refine r_ld_on tab_ok rfl rfl rfl rfl rfl rfl rfl ?_)
          | refine r_g rfl rfl (congrArg (fun b => AV.val (.bool b)) (decide_eq_true (by omega))) ?_
          | refine r_pick_t rfl rfl (congrArg (fun b => AV.val (.bool b)) (decide_eq_true (by omega))) rfl rfl rfl rfl ?_)
        simp only [hb]
        repeat (first
          | (refine r_id ?_; first
            | refine r_ld_on tab_ok rfl rfl rfl rfl rfl rfl rfl ?_)
          | refine r_g rfl rfl rfl ?_)
        refine r_call (smay_ok E (by omega) (by omega) (by omega)) call10 rfl rfl ⟨Sub.refl _, trivial⟩ rfl rfl rfl rfl ?_
        simp only [hm]
        repeat (first
          | (refine r_id ?_; first
            | refine r_ev tab_ok rfl rfl rfl rfl (by first | exact trivial | exact ⟨by omega, by omega⟩ | omega | exact ⟨by omega, by omega, by omega, by omega⟩ | exact Nat.le_of_ble_eq_true rfl) rfl ?_
            | refine r_pick_t rfl rfl rfl rfl rfl rfl rfl ?_)
          | refine r_g rfl rfl rfl ?_)
        refine r_call awake10_ok call6 rfl rfl trivial rfl rfl rfl rfl ?_
        repeat (first
          | refine thenA_normal ?_
          | refine awp_ret ?_
          | refine r_done ?_
          | (refine r_id ?_; first
            | refine r_ev tab_ok rfl rfl rfl rfl (by first | exact trivial | exact ⟨by omega, by omega⟩ | omega | exact ⟨by omega, by omega, by omega, by omega⟩ | exact Nat.le_of_ble_eq_true rfl) rfl ?_
            | refine r_pick_t rfl rfl rfl rfl rfl rfl rfl ?_)
          | refine ret1 (by first | exact .inl rfl | exact .inr rfl) rfl rfl rfl ?_)
        exact Sub.refl _
    · have hb : (decide (((2 : Nat) : Int) = 5) == decide (0 < (E.weights.length : Int))) = true := by simp [hew]
      repeat (first
        | refine awp_seq ?_
        | refine thenA_normal ?_
        | refine a_region ?_
        | refine awp_skip ?_
        | refine r_done ?_
        | (refine r_id ?_; first
          | refine r_ev tab_ok rfl rfl rfl rfl (by first | exact trivial | exact ⟨by omega, by omega⟩ | omega | exact ⟨by omega, by omega, by omega, by omega⟩ | exact Nat.le_of_ble_eq_true rfl) rfl ?_)
        | refine awp_cond_f rfl ?_)
      refine awp_cond rfl (fun h => ?_) (fun h => ?_)
      · exfalso
        simp at h
        omega
      · repeat (first
          | refine awp_seq ?_
          | refine a_region ?_
          | refine awp_skip ?_
          | (refine r_id ?_; first
            | refine r_len tab_ok rfl rfl rfl rfl rfl rfl rfl ?_
            | refine r_ev tab_ok rfl rfl rfl rfl (by first | exact trivial | exact ⟨by omega, by omega⟩ | omega | exact ⟨by omega, by omega, by omega, by omega⟩ | exact Nat.le_of_ble_eq_true rfl) rfl ?_
            | refine r_ld tab_ok rfl rfl rfl rfl rfl ?_
            | refine r_pick_t rfl rfl rfl rfl rfl rfl rfl ?_
            | refine r_len_on tab_ok rfl rfl rfl rfl rfl rfl rfl rfl rfl ?_
            | refine r_ev_on tab_ok rfl rfl rfl rfl rfl rfl (by first | exact trivial | exact ⟨by omega, by omega⟩ | omega) rfl ?_
            | refine r_ld_on tab_ok rfl rfl rfl rfl rfl rfl rfl ?_)
          | refine r_g rfl rfl (congrArg (fun b => AV.val (.bool b)) (decide_eq_true (by omega))) ?_
          | refine r_pick_t rfl rfl (congrArg (fun b => AV.val (.bool b)) (decide_eq_true (by omega))) rfl rfl rfl rfl ?_)
        simp only [hb]
        repeat (first
          | (refine r_id ?_; first
            | refine r_ld_on tab_ok rfl rfl rfl rfl rfl rfl rfl ?_)
          | refine r_g rfl rfl rfl ?_)
        refine r_call (smay_ok E (by omega) (by omega) (by omega)) call10 rfl rfl ⟨Sub.refl _, trivial⟩ rfl rfl rfl rfl ?_
        simp only [hm]
        repeat (first
          | (refine r_id ?_; first
            | refine r_ev tab_ok rfl rfl rfl rfl (by first | exact trivial | exact ⟨by omega, by omega⟩ | omega | exact ⟨by omega, by omega, by omega, by omega⟩ | exact Nat.le_of_ble_eq_true rfl) rfl ?_
            | refine r_pick_t rfl rfl rfl rfl rfl rfl rfl ?_)
          | refine r_g rfl rfl rfl ?_)
        refine r_call awake10_ok call6 rfl rfl trivial rfl rfl rfl rfl ?_
        repeat (first
          | refine thenA_normal ?_
          | refine awp_ret ?_
          | refine r_done ?_
          | (refine r_id ?_; first
            | refine r_ev tab_ok rfl rfl rfl rfl (by first | exact trivial | exact ⟨by omega, by omega⟩ | omega | exact ⟨by omega, by omega, by omega, by omega⟩ | exact Nat.le_of_ble_eq_true rfl) rfl ?_
            | refine r_pick_t rfl rfl rfl rfl rfl rfl rfl ?_)
          | refine ret1 (by first | exact .inl rfl | exact .inr rfl) rfl rfl rfl ?_)
        exact Sub.refl _
    · have hb : (decide (((3 : Nat) : Int) = 5) == decide (0 < (E.weights.length : Int))) = true := by simp [hew]
      repeat (first
        | refine awp_seq ?_
        | refine thenA_normal ?_
        | refine a_region ?_
        | refine awp_skip ?_
        | refine r_done ?_
        | (refine r_id ?_; first
          | refine r_ev tab_ok rfl rfl rfl rfl (by first | exact trivial | exact ⟨by omega, by omega⟩ | omega | exact ⟨by omega, by omega, by omega, by omega⟩ | exact Nat.le_of_ble_eq_true rfl) rfl ?_
          | refine r_ev_cnd tab_ok rfl rfl rfl rfl rfl rfl (by first | exact fun _ => rfl | exact cs1 | exact cs2 | exact cs3) (by first | exact fun _ => trivial | (intro h; simp at h; first | exact ⟨by omega, by omega⟩ | omega)) rfl ?_
          | refine r_and rfl rfl rfl rfl rfl rfl rfl rfl ?_)
        | refine awp_cond_t rfl ?_)
      refine awp_cond rfl (fun h => ?_) (fun h => ?_)
      · exfalso
        simp at h
        omega
      · repeat (first
          | refine awp_seq ?_
          | refine a_region ?_
          | refine awp_skip ?_
          | (refine r_id ?_; first
            | refine r_len tab_ok rfl rfl rfl rfl rfl rfl rfl ?_
            | refine r_ev tab_ok rfl rfl rfl rfl (by first | exact trivial | exact ⟨by omega, by omega⟩ | omega | exact ⟨by omega, by omega, by omega, by omega⟩ | exact Nat.le_of_ble_eq_true rfl) rfl ?_
            | refine r_ld tab_ok rfl rfl rfl rfl rfl ?_
            | refine r_pick_t rfl rfl rfl rfl rfl rfl rfl ?_
            | refine r_len_on tab_ok rfl rfl rfl rfl rfl rfl rfl rfl rfl ?_
            | refine r_ev_on tab_ok rfl rfl rfl rfl rfl rfl (by first | exact trivial | exact ⟨by omega, by omega⟩ | omega) rfl ?_
            | refine r_ld_on tab_ok rfl rfl rfl rfl rfl rfl rfl ?_)
          | refine r_g rfl rfl (congrArg (fun b => AV.val (.bool b)) (decide_eq_true (by omega))) ?_
          | refine r_pick_t rfl rfl (congrArg (fun b => AV.val (.bool b)) (decide_eq_true (by omega))) rfl rfl rfl rfl ?_)
        simp only [hb]
        repeat (first
          | (refine r_id ?_; first
            | refine r_ld_on tab_ok rfl rfl rfl rfl rfl rfl rfl ?_)
          | refine r_g rfl rfl rfl ?_)
        refine r_call (smay_ok E (by omega) (by omega) (by omega)) call10 rfl rfl ⟨Sub.refl _, trivial⟩ rfl rfl rfl rfl ?_
        simp only [hm]
        repeat (first
          | (refine r_id ?_; first
            | refine r_ev tab_ok rfl rfl rfl rfl (by first | exact trivial | exact ⟨by omega, by omega⟩ | omega | exact ⟨by omega, by omega, by omega, by omega⟩ | exact Nat.le_of_ble_eq_true rfl) rfl ?_
            | refine r_pick_t rfl rfl rfl rfl rfl rfl rfl ?_)
          | refine r_g rfl rfl rfl ?_)
        refine r_call awake10_ok call6 rfl rfl trivial rfl rfl rfl rfl ?_
        repeat (first
          | refine thenA_normal ?_
          | refine awp_ret ?_
          | refine r_done ?_
          | (refine r_id ?_; first
            | refine r_ev tab_ok rfl rfl rfl rfl (by first | exact trivial | exact ⟨by omega, by omega⟩ | omega | exact ⟨by omega, by omega, by omega, by omega⟩ | exact Nat.le_of_ble_eq_true rfl) rfl ?_
            | refine r_pick_t rfl rfl rfl rfl rfl rfl rfl ?_)
          | refine ret1 (by first | exact .inl rfl | exact .inr rfl) rfl rfl rfl ?_)
        exact Sub.refl _
    · have hb : (decide (((4 : Nat) : Int) = 5) == decide (0 < (E.weights.length : Int))) = true := by simp [hew]
      repeat (first
        | refine awp_seq ?_
        | refine thenA_normal ?_
        | refine a_region ?_
        | refine r_done ?_
        | (refine r_id ?_; first
          | refine r_ev tab_ok rfl rfl rfl rfl (by first | exact trivial | exact ⟨by omega, by omega⟩ | omega | exact ⟨by omega, by omega, by omega, by omega⟩ | exact Nat.le_of_ble_eq_true rfl) rfl ?_
          | refine r_ev_cnd tab_ok rfl rfl rfl rfl rfl rfl (by first | exact fun _ => rfl | exact cs1 | exact cs2 | exact cs3) (by first | exact fun _ => trivial | (intro h; simp at h; first | exact ⟨by omega, by omega⟩ | omega)) rfl ?_
          | refine r_and rfl rfl rfl rfl rfl rfl rfl rfl ?_)
        | refine awp_cond_t rfl ?_
        | refine awp_cond_f rfl ?_)
      refine awp_cond rfl (fun h => ?_) (fun h => ?_)
      · exfalso
        simp at h
        omega
      · repeat (first
          | refine awp_seq ?_
          | refine a_region ?_
          | refine awp_skip ?_
          | (refine r_id ?_; first
            | refine r_len tab_ok rfl rfl rfl rfl rfl rfl rfl ?_
            | refine r_ev tab_ok rfl rfl rfl rfl (by first | exact trivial | exact ⟨by omega, by omega⟩ | omega | exact ⟨by omega, by omega, by omega, by omega⟩ | exact Nat.le_of_ble_eq_true rfl) rfl ?_
            | refine r_ld tab_ok rfl rfl rfl rfl rfl ?_
            | refine r_pick_t rfl rfl rfl rfl rfl rfl rfl ?_
            | refine r_len_on tab_ok rfl rfl rfl rfl rfl rfl rfl rfl rfl ?_
            | refine r_ev_on tab_ok rfl rfl rfl rfl rfl rfl (by first | exact trivial | exact ⟨by omega, by omega⟩ | omega) rfl ?_
            | refine r_ld_on tab_ok rfl rfl rfl rfl rfl rfl rfl ?_)
          | refine r_g rfl rfl (congrArg (fun b => AV.val (.bool b)) (decide_eq_true (by omega))) ?_
          | refine r_pick_t rfl rfl (congrArg (fun b => AV.val (.bool b)) (decide_eq_true (by omega))) rfl rfl rfl rfl ?_)
        simp only [hb]
        repeat (first
          | (refine r_id ?_; first
            | refine r_ld_on tab_ok rfl rfl rfl rfl rfl rfl rfl ?_)
          | refine r_g rfl rfl rfl ?_)
        refine r_call (smay_ok E (by omega) (by omega) (by omega)) call10 rfl rfl ⟨Sub.refl _, trivial⟩ rfl rfl rfl rfl ?_
        simp only [hm]
        repeat (first
          | (refine r_id ?_; first
            | refine r_ev tab_ok rfl rfl rfl rfl (by first | exact trivial | exact ⟨by omega, by omega⟩ | omega | exact ⟨by omega, by omega, by omega, by omega⟩ | exact Nat.le_of_ble_eq_true rfl) rfl ?_
            | refine r_pick_t rfl rfl rfl rfl rfl rfl rfl ?_)
          | refine r_g rfl rfl rfl ?_)
        refine r_call awake10_ok call6 rfl rfl trivial rfl rfl rfl rfl ?_
        repeat (first
          | refine thenA_normal ?_
          | refine awp_ret ?_
          | refine r_done ?_
          | (refine r_id ?_; first
            | refine r_ev tab_ok rfl rfl rfl rfl (by first | exact trivial | exact ⟨by omega, by omega⟩ | omega | exact ⟨by omega, by omega, by omega, by omega⟩ | exact Nat.le_of_ble_eq_true rfl) rfl ?_
            | refine r_pick_t rfl rfl rfl rfl rfl rfl rfl ?_)
          | refine ret1 (by first | exact .inl rfl | exact .inr rfl) rfl rfl rfl ?_)
        exact Sub.refl _
    · have hb : (decide (((5 : Nat) : Int) = 5) == decide (0 < (E.weights.length : Int))) = true := by simp [hew]; omega
      repeat (first
        | refine awp_seq ?_
        | refine thenA_normal ?_
        | refine a_region ?_
        | refine r_done ?_
        | (refine r_id ?_; first
          | refine r_ev tab_ok rfl rfl rfl rfl (by first | exact trivial | exact ⟨by omega, by omega⟩ | omega | exact ⟨by omega, by omega, by omega, by omega⟩ | exact Nat.le_of_ble_eq_true rfl) rfl ?_
          | refine r_ev_cnd tab_ok rfl rfl rfl rfl rfl rfl (by first | exact fun _ => rfl | exact cs1 | exact cs2 | exact cs3) (by first | exact fun _ => trivial | (intro h; simp at h; first | exact ⟨by omega, by omega⟩ | omega)) rfl ?_
          | refine r_and rfl rfl rfl rfl rfl rfl rfl rfl ?_)
        | refine awp_cond_t rfl ?_
        | refine awp_cond_f rfl ?_)
      refine awp_cond rfl (fun h => ?_) (fun h => ?_)
      · exfalso
        simp at h
        omega
      · repeat (first
          | refine awp_seq ?_
          | refine a_region ?_
          | refine awp_skip ?_
          | (refine r_id ?_; first
            | refine r_len tab_ok rfl rfl rfl rfl rfl rfl rfl ?_
            | refine r_ev tab_ok rfl rfl rfl rfl (by first | exact trivial | exact ⟨by omega, by omega⟩ | omega | exact ⟨by omega, by omega, by omega, by omega⟩ | exact Nat.le_of_ble_eq_true rfl) rfl ?_
            | refine r_ld tab_ok rfl rfl rfl rfl rfl ?_
            | refine r_pick_t rfl rfl rfl rfl rfl rfl rfl ?_
            | refine r_len_on tab_ok rfl rfl rfl rfl rfl rfl rfl rfl rfl ?_
            | refine r_ev_on tab_ok rfl rfl rfl rfl rfl rfl (by first | exact trivial | exact ⟨by omega, by omega⟩ | omega) rfl ?_
            | refine r_ld_on tab_ok rfl rfl rfl rfl rfl rfl rfl ?_)
          | refine r_g rfl rfl (congrArg (fun b => AV.val (.bool b)) (decide_eq_true (by omega))) ?_
          | refine r_pick_t rfl rfl (congrArg (fun b => AV.val (.bool b)) (decide_eq_true (by omega))) rfl rfl rfl rfl ?_)
        simp only [hb]
        repeat (first
          | (refine r_id ?_; first
            | refine r_ld_on tab_ok rfl rfl rfl rfl rfl rfl rfl ?_)
          | refine r_g rfl rfl rfl ?_)
        refine r_call (smay_ok E (by omega) (by omega) (by omega)) call10 rfl rfl ⟨Sub.refl _, trivial⟩ rfl rfl rfl rfl ?_
        simp only [hm]
        repeat (first
          | (refine r_id ?_; first
            | refine r_ev tab_ok rfl rfl rfl rfl (by first | exact trivial | exact ⟨by omega, by omega⟩ | omega | exact ⟨by omega, by omega, by omega, by omega⟩ | exact Nat.le_of_ble_eq_true rfl) rfl ?_
            | refine r_pick_t rfl rfl rfl rfl rfl rfl rfl ?_)
          | refine r_g rfl rfl rfl ?_)
        refine r_call awake10_ok call6 rfl rfl trivial rfl rfl rfl rfl ?_
        repeat (first
          | refine thenA_normal ?_
          | refine awp_ret ?_
          | refine r_done ?_
          | (refine r_id ?_; first
            | refine r_ev tab_ok rfl rfl rfl rfl (by first | exact trivial | exact ⟨by omega, by omega⟩ | omega | exact ⟨by omega, by omega, by omega, by omega⟩ | exact Nat.le_of_ble_eq_true rfl) rfl ?_
            | refine r_pick_t rfl rfl rfl rfl rfl rfl rfl ?_)
          | refine ret1 (by first | exact .inl rfl | exact .inr rfl) rfl rfl rfl ?_)
        exact Sub.refl _
    · have hb : (decide (((6 : Nat) : Int) = 5) == decide (0 < (E.weights.length : Int))) = true := by simp [hew]
      repeat (first
        | refine awp_seq ?_
        | refine thenA_normal ?_
        | refine a_region ?_
        | refine r_done ?_
        | (refine r_id ?_; first
          | refine r_ev tab_ok rfl rfl rfl rfl (by first | exact trivial | exact ⟨by omega, by omega⟩ | omega | exact ⟨by omega, by omega, by omega, by omega⟩ | exact Nat.le_of_ble_eq_true rfl) rfl ?_
          | refine r_ev_cnd tab_ok rfl rfl rfl rfl rfl rfl (by first | exact fun _ => rfl | exact cs1 | exact cs2 | exact cs3) (by first | exact fun _ => trivial | (intro h; simp at h; first | exact ⟨by omega, by omega⟩ | omega)) rfl ?_
          | refine r_and rfl rfl rfl rfl rfl rfl rfl rfl ?_)
        | refine awp_cond_t rfl ?_
        | refine awp_cond_f rfl ?_)
      refine awp_cond rfl (fun h => ?_) (fun h => ?_)
      · exfalso
        simp at h
        omega
      · repeat (first
          | refine awp_seq ?_
          | refine a_region ?_
          | refine awp_skip ?_
          | (refine r_id ?_; first
            | refine r_len tab_ok rfl rfl rfl rfl rfl rfl rfl ?_
            | refine r_ev tab_ok rfl rfl rfl rfl (by first | exact trivial | exact ⟨by omega, by omega⟩ | omega | exact ⟨by omega, by omega, by omega, by omega⟩ | exact Nat.le_of_ble_eq_true rfl) rfl ?_
            | refine r_ld tab_ok rfl rfl rfl rfl rfl ?_
            | refine r_pick_t rfl rfl rfl rfl rfl rfl rfl ?_
            | refine r_len_on tab_ok rfl rfl rfl rfl rfl rfl rfl rfl rfl ?_
            | refine r_ev_on tab_ok rfl rfl rfl rfl rfl rfl (by first | exact trivial | exact ⟨by omega, by omega⟩ | omega) rfl ?_
            | refine r_ld_on tab_ok rfl rfl rfl rfl rfl rfl rfl ?_)
          | refine r_g rfl rfl (congrArg (fun b => AV.val (.bool b)) (decide_eq_true (by omega))) ?_
          | refine r_pick_t rfl rfl (congrArg (fun b => AV.val (.bool b)) (decide_eq_true (by omega))) rfl rfl rfl rfl ?_)
        simp only [hb]
        repeat (first
          | (refine r_id ?_; first
            | refine r_ld_on tab_ok rfl rfl rfl rfl rfl rfl rfl ?_)
          | refine r_g rfl rfl rfl ?_)
        refine r_call (smay_ok E (by omega) (by omega) (by omega)) call10 rfl rfl ⟨Sub.refl _, trivial⟩ rfl rfl rfl rfl ?_
        simp only [hm]
        repeat (first
          | (refine r_id ?_; first
            | refine r_ev tab_ok rfl rfl rfl rfl (by first | exact trivial | exact ⟨by omega, by omega⟩ | omega | exact ⟨by omega, by omega, by omega, by omega⟩ | exact Nat.le_of_ble_eq_true rfl) rfl ?_
            | refine r_pick_t rfl rfl rfl rfl rfl rfl rfl ?_)
          | refine r_g rfl rfl rfl ?_)
        refine r_call awake10_ok call6 rfl rfl trivial rfl rfl rfl rfl ?_
        repeat (first
          | refine thenA_normal ?_
          | refine awp_ret ?_
          | refine r_done ?_
          | (refine r_id ?_; first
            | refine r_ev tab_ok rfl rfl rfl rfl (by first | exact trivial | exact ⟨by omega, by omega⟩ | omega | exact ⟨by omega, by omega, by omega, by omega⟩ | exact Nat.le_of_ble_eq_true rfl) rfl ?_
            | refine r_pick_t rfl rfl rfl rfl rfl rfl rfl ?_)
          | refine ret1 (by first | exact .inl rfl | exact .inr rfl) rfl rfl rfl ?_)
        exact Sub.refl _
end Go.Proofs.YtihakfihojickaaDoor
