/- RulesEach, walked. -/
import Derived.Test.YtiolnmfaeenlmaaGreatDoorR2
import Derived.Test.YtiolnmfaeenlmaaGreatDoorRl
import Derived.Test.YtiolnmfaeenlmaaGreatDoorRo
namespace Go.Proofs.YtiolnmfaeenlmaaGreatDoor
open Go Go.RowKit
set_option maxRecDepth 20000

def ciD' (n : Int) : D := .val (.int .i64 n)
/-- The middle's number at a place. -/
def bdK (bad : List Int) (i : Nat) : Nat := if i < bad.length then (bad.getD i 0 % 8).toNat else 0
def qAt (nm bad : List Int) (i : Nat) : Qe := ((nm.getD i 0 % 9).toNat, bdK bad i, i)
def qsF (nm bad : List Int) (n : Nat) : List Qe := (List.range n).map (qAt nm bad)
theorem bdK_lt (bad : List Int) (i : Nat) : bdK bad i < 8 := by unfold bdK; split <;> omega
theorem qs_ok (nm bad : List Int) (n : Nat) (hn : n ≤ 30) : ∀ q ∈ qsF nm bad n, okQ q := by
  intro q hq
  obtain ⟨i, hi, rfl⟩ := List.mem_map.1 hq
  have := List.mem_range.1 hi
  exact ⟨show (nm.getD i 0 % 9).toNat < 9 by omega, bdK_lt _ _, show i < 30 by omega⟩
theorem qs_len (nm bad : List Int) (n : Nat) : (qsF nm bad n).length = n := by rw [qsF, List.length_map, List.length_range]
theorem es_snoc (nm bad : List Int) (n : Nat) : esL (qsF nm bad (n + 1)) = esL (qsF nm bad n) ++ qL (qAt nm bad n) := by
  rw [qsF, qsF, List.range_succ, List.map_append, esL, esL, List.map_append, List.flatten_append]; simp
theorem getD_atI {l : List Int} {k : Nat} (h : k < l.length) : l.getD k 0 = l[k] := by rw [List.getD_eq_getElem?_getD, List.getElem?_eq_getElem h]; rfl
theorem ea_cat (A : List UInt8) (a k i : Nat) : (⟨A.toArray⟩ : ByteArray) ++ (⟨#[114]⟩ : ByteArray) ++ (⟨(dgs a).toArray⟩ : ByteArray) ++ (⟨#[32, 123]⟩ : ByteArray) ++ (⟨(odL k).toArray⟩ : ByteArray) ++ (⟨#[99, 111, 108, 111, 114, 58, 32, 99]⟩ : ByteArray) ++ (⟨(dgs i).toArray⟩ : ByteArray) ++ (⟨#[125, 10]⟩ : ByteArray) = ⟨(A ++ qL (a, k, i)).toArray⟩ := by
  rw [show (⟨#[114]⟩ : ByteArray) = ⟨([114] : List UInt8).toArray⟩ from rfl, show (⟨#[32, 123]⟩ : ByteArray) = ⟨([32, 123] : List UInt8).toArray⟩ from rfl, show (⟨#[99, 111, 108, 111, 114, 58, 32, 99]⟩ : ByteArray) = ⟨([99, 111, 108, 111, 114, 58, 32, 99] : List UInt8).toArray⟩ from rfl, show (⟨#[125, 10]⟩ : ByteArray) = ⟨([125, 10] : List UInt8).toArray⟩ from rfl]
  simp only [bytes_cat, qL, List.append_assoc]
theorem ea_sz (A X O Y : ByteArray) (hA : A.size ≤ 800) (hX : X.size ≤ 2) (hO : O.size ≤ 9) (hY : Y.size ≤ 2) :
    (A ++ (⟨#[114]⟩ : ByteArray)).size ≤ 801 ∧ (A ++ (⟨#[114]⟩ : ByteArray) ++ X).size ≤ 803 ∧ (A ++ (⟨#[114]⟩ : ByteArray) ++ X ++ (⟨#[32, 123]⟩ : ByteArray)).size ≤ 805 ∧ (A ++ (⟨#[114]⟩ : ByteArray) ++ X ++ (⟨#[32, 123]⟩ : ByteArray) ++ O).size ≤ 814 ∧ (A ++ (⟨#[114]⟩ : ByteArray) ++ X ++ (⟨#[32, 123]⟩ : ByteArray) ++ O ++ (⟨#[99, 111, 108, 111, 114, 58, 32, 99]⟩ : ByteArray)).size ≤ 822 ∧ (A ++ (⟨#[114]⟩ : ByteArray) ++ X ++ (⟨#[32, 123]⟩ : ByteArray) ++ O ++ (⟨#[99, 111, 108, 111, 114, 58, 32, 99]⟩ : ByteArray) ++ Y).size ≤ 824 := by
  have h1 : (⟨#[114]⟩ : ByteArray).size = 1 := rfl
  have h2 : (⟨#[32, 123]⟩ : ByteArray).size = 2 := rfl
  have h3 : (⟨#[99, 111, 108, 111, 114, 58, 32, 99]⟩ : ByteArray).size = 8 := rfl
  simp only [ByteArray.size_append]
  omega
theorem dc30 (a : Nat) (ha : a < 30) : PCalls Tryz.prog 23 [.val (.int .i64 (a : Nat))] (.val (.string ⟨(dgs a).toArray⟩)) := by
  have := decimal_ok a (by omega)
  rwa [dec30 a ha] at this
theorem dcE_ne : ∀ k, k < 8 → k ≠ 3 → ∀ W, dcE k W = [⟨⟨#[99, 111, 108, 111, 114]⟩, [.mk (idT W) []], false⟩]
  | 0, _, _, W => rfl
  | 1, _, _, W => rfl
  | 2, _, _, W => rfl
  | 3, _, h, W => absurd rfl h
  | 4, _, _, W => rfl
  | 5, _, _, W => rfl
  | 6, _, _, W => rfl
  | 7, _, _, W => rfl
  | k + 8, h, _, _ => absurd h (by omega)
set_option maxHeartbeats 16000000 in
theorem lawEach (nm bad : List Int) (hn : nm.length ≤ 9223372036854775807) (hb : bad.length ≤ 9223372036854775807) : PCalls Tryz.prog 4 [.sl 1 (nm.map ciD'), .sl 1 (bad.map ciD')] (.val (.bool true)) := by
  refine p_start Tryz.func4 Tryz.ntmps4 rfl rfl rfl fun S w => ?_
  have hnm : (nm.map ciD').length = nm.length := List.length_map _
  have hbm : (bad.map ciD').length = bad.length := List.length_map _
  repeat (first
    | refine awp_seq ?_
    | refine thenA_normal ?_
    | refine a_region ?_
    | refine r_done ?_
    | (refine r_id ?_; first
      | refine r_len tab_ok rfl rfl rfl rfl rfl rfl rfl ?_
      | refine r_ev tab_ok rfl rfl rfl rfl (by first | exact trivial | exact ⟨by omega, by omega⟩ | omega | exact ⟨by omega, by omega, by omega, by omega⟩ | exact Nat.le_of_ble_eq_true rfl) rfl ?_
      | refine r_len_cnd tab_ok rfl rfl rfl rfl rfl rfl (by first | exact fun _ => rfl | exact cs1) rfl rfl rfl ?_
      | refine r_ev_cnd tab_ok rfl rfl rfl rfl rfl rfl (by first | exact fun _ => rfl | exact cs1 | exact cs2 | exact cs3) (by first | exact fun _ => trivial | (intro h; simp at h; first | exact ⟨by omega, by omega⟩ | omega)) rfl ?_
      | refine r_or rfl rfl rfl rfl rfl rfl rfl rfl ?_))
  refine awp_cond rfl (fun h => ?_) (fun h => ?_)
  · repeat (first
      | refine awp_seq ?_
      | refine a_region ?_)
    refine r_call awake4_ok call11 rfl rfl trivial rfl rfl rfl rfl ?_
    repeat (first
      | refine thenA_normal ?_
      | refine awp_ret ?_
      | refine thenA_ret ?_
      | refine r_done ?_
      | (refine r_id ?_; first
        | refine r_ev tab_ok rfl rfl rfl rfl (by first | exact trivial | exact ⟨by omega, by omega⟩ | omega | exact ⟨by omega, by omega, by omega, by omega⟩ | exact Nat.le_of_ble_eq_true rfl) rfl ?_)
      | refine ret1 (by first | exact .inl rfl | exact .inr rfl) rfl rfl rfl ?_)
    exact Sub.refl _
  simp only [Bool.or_eq_false_iff, decide_eq_false_iff_not] at h
  have h30 : nm.length ≤ 30 ∧ bad.length ≤ 40 := by omega
  clear h
  repeat (first
    | refine awp_seq ?_
    | refine thenA_normal ?_
    | refine awp_block ?_
    | refine a_region ?_
    | refine awp_skip ?_
    | refine r_done ?_
    | (refine r_id ?_; first
      | refine r_ev tab_ok rfl rfl rfl rfl (by first | exact trivial | exact ⟨by omega, by omega⟩ | omega | exact ⟨by omega, by omega, by omega, by omega⟩ | exact Nat.le_of_ble_eq_true rfl) rfl ?_
      | refine r_built tab_ok rfl rfl rfl rfl rfl rfl rfl rfl rfl ?_))
  refine a_loop (σ := {i : Nat // i ≤ nm.length}) (fun _ => []) (fun x => [(0, .sl 1 (nm.map ciD')), (1, .sl 1 (bad.map ciD')), (5, .sl 1 ((List.range 8).map fun k => sF ⟨(odL k).toArray⟩)), (6, .val (.string ⟨(esL (qsF nm bad x.1)).toArray⟩)), (7, .val (.int .i64 x.1))]) (fun x => nm.length - x.1) ⟨0, Nat.zero_le _⟩ (fits_of rfl (by repeat' first | exact trivial | exact Sub.refl _ | exact rfl | apply And.intro)) ?_
  rintro ⟨i, hi⟩
  dsimp only
  have hqok := qs_ok nm bad i (by omega)
  have hA : (⟨(esL (qsF nm bad i)).toArray⟩ : ByteArray).size ≤ 800 := by
    have := es_len (qsF nm bad i) hqok
    rw [qs_len] at this
    rw [sz_list]; omega
  repeat (first
    | refine awp_seq ?_
    | refine thenA_normal ?_
    | refine a_region ?_
    | refine r_done ?_
    | (refine r_id ?_; first
      | refine r_len tab_ok rfl rfl rfl rfl rfl rfl rfl ?_
      | refine r_ev tab_ok rfl rfl rfl rfl (by first | exact trivial | exact ⟨by omega, by omega⟩ | omega | exact ⟨by omega, by omega, by omega, by omega⟩ | exact Nat.le_of_ble_eq_true rfl) rfl ?_))
  refine awp_cond_p rfl (fun hlt => ?_) (fun hge => ?_)
  · have hi' : i < nm.length := by omega
    have ei : ((i : Nat) : Int).toNat = i := Int.toNat_natCast i
    have hsn := es_snoc nm bad i
    have hq : qAt nm bad i = ((nm[i] % 9).toNat, bdK bad i, i) := by rw [qAt, getD_atI hi']
    rw [hq] at hsn
    have hk8 := bdK_lt bad i
    obtain ⟨a, ha⟩ : ∃ a : Nat, nm[i] % 9 = a := ⟨(nm[i] % 9).toNat, by omega⟩
    have ha9 : a < 9 := by omega
    rw [ha, Int.toNat_natCast] at hsn
    have hra := round_ok nm[i] 9 (by decide) (by decide)
    rw [ha] at hra
    obtain ⟨A, hAe⟩ : ∃ A, esL (qsF nm bad i) = A := ⟨_, rfl⟩
    rw [hAe] at hsn hA ⊢
    obtain ⟨_, _, da3, _⟩ := dgs_ok a (by omega)
    obtain ⟨_, _, di3, _⟩ := dgs_ok i (by omega)
    obtain ⟨_, mk2, _⟩ := md_ok (bdK bad i) hk8
    have sX : (⟨(dgs a).toArray⟩ : ByteArray).size ≤ 2 := by rw [sz_list]; exact da3
    have sY : (⟨(dgs i).toArray⟩ : ByteArray).size ≤ 2 := by rw [sz_list]; exact di3
    have sO : (⟨(odL (bdK bad i)).toArray⟩ : ByteArray).size ≤ 9 := by rw [sz_list]; exact mk2
    obtain ⟨y1, y2, y3, y4, y5, y6⟩ := ea_sz (⟨A.toArray⟩ : ByteArray) (⟨(dgs a).toArray⟩ : ByteArray) (⟨(odL (bdK bad i)).toArray⟩ : ByteArray) (⟨(dgs i).toArray⟩ : ByteArray) hA sX sO sY
    have l1 : (⟨#[114]⟩ : ByteArray).size = 1 := rfl
    have l2 : (⟨#[32, 123]⟩ : ByteArray).size = 2 := rfl
    have l3 : (⟨#[99, 111, 108, 111, 114, 58, 32, 99]⟩ : ByteArray).size = 8 := rfl
    have l4 : (⟨#[125, 10]⟩ : ByteArray).size = 2 := rfl
    have hcat := ea_cat A a (bdK bad i) i
    have hkk : (i < bad.length ∧ ∃ z : Int, bad.getD i 0 = z ∧ z % 8 = (bdK bad i : Int)) ∨ (¬ i < bad.length ∧ bdK bad i = 0) := by
      by_cases hib : i < bad.length
      · exact .inl ⟨hib, _, rfl, by rw [bdK, if_pos hib]; omega⟩
      · exact .inr ⟨hib, by rw [bdK, if_neg hib]⟩
    generalize bdK bad i = k at hsn hk8 sO y4 y5 y6 hcat hkk mk2
    have ek : ((k : Nat) : Int).toNat = k := Int.toNat_natCast k
    rcases hkk with ⟨hib, z, hz, hzk⟩ | ⟨hib, hk0⟩
    · rw [getD_atI hib] at hz
      have hrb := round_ok z 8 (by decide) (by decide)
      rw [hzk] at hrb
      repeat (first
        | refine awp_seq ?_
        | refine thenA_normal ?_
        | refine awp_block ?_
        | refine a_region ?_
        | refine awp_skip ?_
        | refine r_done ?_
        | (refine r_id ?_; first
          | refine r_len tab_ok rfl rfl rfl rfl rfl rfl rfl ?_
          | refine r_ev tab_ok rfl rfl rfl rfl (by first | exact trivial | exact ⟨by omega, by omega⟩ | omega | exact ⟨by omega, by omega, by omega, by omega⟩ | exact Nat.le_of_ble_eq_true rfl) rfl ?_))
      refine awp_cond_p rfl (fun _ => ?_) (fun h => (h (by omega)).elim)
      repeat (first
        | refine a_region ?_
        | (refine r_id ?_; first
          | refine r_ev tab_ok rfl rfl rfl rfl (by first | exact trivial | exact ⟨by omega, by omega⟩ | omega | exact ⟨by omega, by omega, by omega, by omega⟩ | exact Nat.le_of_ble_eq_true rfl) rfl ?_
          | refine r_idx tab_ok rfl rfl rfl rfl rfl rfl rfl (by first | exact ⟨by omega, by omega⟩ | (simp; omega)) rfl rfl ?_))
      simp only [ei, hz]
      refine r_call hrb call22 rfl rfl ⟨Sub.refl _, Sub.refl _, trivial⟩ rfl rfl rfl rfl ?_
      repeat (first
        | refine thenA_normal ?_
        | refine a_draw1 mixed_ok (by kernel_rfl) ?_
        | refine r_done ?_
        | (refine r_id ?_; first
          | refine r_ev tab_ok rfl rfl rfl rfl (by first | exact trivial | exact ⟨by omega, by omega⟩ | omega | exact ⟨by omega, by omega, by omega, by omega⟩ | exact Nat.le_of_ble_eq_true rfl) rfl ?_
          | refine r_idx tab_ok rfl rfl rfl rfl rfl rfl rfl (by first | exact ⟨by omega, by omega⟩ | (simp; omega)) rfl rfl ?_))
      simp only [ei]
      refine r_call hra call22 rfl rfl ⟨Sub.refl _, Sub.refl _, trivial⟩ rfl rfl rfl rfl ?_
      refine r_call (dc30 a (by omega)) call23 rfl rfl ⟨Sub.refl _, trivial⟩ rfl rfl rfl rfl ?_
      repeat (first
        | (refine r_id ?_; first
          | refine r_ev tab_ok rfl rfl rfl rfl (by first | exact trivial | exact ⟨by omega, by omega⟩ | omega | exact ⟨by omega, by omega, by omega, by omega⟩ | exact Nat.le_of_ble_eq_true rfl) rfl ?_
          | refine r_idx tab_ok rfl rfl rfl rfl rfl rfl rfl (by first | exact ⟨by omega, by omega⟩ | (simp; omega)) rfl rfl ?_))
      try simp only [ek, List.getElem_map, List.getElem_range]
      repeat (first
        | (refine r_id ?_; first
          | refine r_ev tab_ok rfl rfl rfl rfl (by first | exact trivial | exact ⟨by omega, by omega⟩ | omega | exact ⟨by omega, by omega, by omega, by omega⟩ | exact Nat.le_of_ble_eq_true rfl) rfl ?_))
      try simp only [ek, List.getElem_map, List.getElem_range]
      refine r_call (dc30 i (by omega)) call23 rfl rfl ⟨Sub.refl _, trivial⟩ rfl rfl rfl rfl ?_
      repeat (first
        | refine thenA_normal ?_
        | refine a_region ?_
        | refine r_done ?_
        | refine r_done' ?_
        | (refine r_id ?_; first
          | refine r_ev tab_ok rfl rfl rfl rfl (by first | exact trivial | exact ⟨by omega, by omega⟩ | omega | exact ⟨by omega, by omega, by omega, by omega⟩ | exact Nat.le_of_ble_eq_true rfl) rfl ?_))
      refine ⟨⟨i + 1, hi'⟩, by dsimp only; omega, ?_⟩
      dsimp only
      rw [hsn, ← hcat]
      exact fits_of rfl (by repeat' first | exact trivial | exact Sub.refl _ | exact rfl | apply And.intro)
    · subst hk0
      repeat (first
        | refine awp_seq ?_
        | refine thenA_normal ?_
        | refine awp_block ?_
        | refine a_region ?_
        | refine awp_skip ?_
        | refine r_done ?_
        | (refine r_id ?_; first
          | refine r_len tab_ok rfl rfl rfl rfl rfl rfl rfl ?_
          | refine r_ev tab_ok rfl rfl rfl rfl (by first | exact trivial | exact ⟨by omega, by omega⟩ | omega | exact ⟨by omega, by omega, by omega, by omega⟩ | exact Nat.le_of_ble_eq_true rfl) rfl ?_))
      refine awp_cond_p rfl (fun h => (hib (by omega)).elim) (fun _ => ?_)
      repeat (first
        | refine thenA_normal ?_
        | refine a_draw1 mixed_ok (by kernel_rfl) ?_
        | refine awp_skip ?_
        | (refine r_id ?_; first
          | refine r_ev tab_ok rfl rfl rfl rfl (by first | exact trivial | exact ⟨by omega, by omega⟩ | omega | exact ⟨by omega, by omega, by omega, by omega⟩ | exact Nat.le_of_ble_eq_true rfl) rfl ?_
          | refine r_idx tab_ok rfl rfl rfl rfl rfl rfl rfl (by first | exact ⟨by omega, by omega⟩ | (simp; omega)) rfl rfl ?_))
      simp only [ei]
      refine r_call hra call22 rfl rfl ⟨Sub.refl _, Sub.refl _, trivial⟩ rfl rfl rfl rfl ?_
      refine r_call (dc30 a (by omega)) call23 rfl rfl ⟨Sub.refl _, trivial⟩ rfl rfl rfl rfl ?_
      repeat (first
        | (refine r_id ?_; first
          | refine r_ev tab_ok rfl rfl rfl rfl (by first | exact trivial | exact ⟨by omega, by omega⟩ | omega | exact ⟨by omega, by omega, by omega, by omega⟩ | exact Nat.le_of_ble_eq_true rfl) rfl ?_
          | refine r_idxd tab_ok rfl rfl rfl rfl rfl rfl rfl (by decide) rfl rfl rfl ?_))
      try simp only [ek, List.getElem_map, List.getElem_range]
      repeat (first
        | (refine r_id ?_; first
          | refine r_ev tab_ok rfl rfl rfl rfl (by first | exact trivial | exact ⟨by omega, by omega⟩ | omega | exact ⟨by omega, by omega, by omega, by omega⟩ | exact Nat.le_of_ble_eq_true rfl) rfl ?_))
      try simp only [ek, List.getElem_map, List.getElem_range]
      refine r_call (dc30 i (by omega)) call23 rfl rfl ⟨Sub.refl _, trivial⟩ rfl rfl rfl rfl ?_
      repeat (first
        | refine thenA_normal ?_
        | refine a_region ?_
        | refine r_done ?_
        | refine r_done' ?_
        | (refine r_id ?_; first
          | refine r_ev tab_ok rfl rfl rfl rfl (by first | exact trivial | exact ⟨by omega, by omega⟩ | omega | exact ⟨by omega, by omega, by omega, by omega⟩ | exact Nat.le_of_ble_eq_true rfl) rfl ?_))
      refine ⟨⟨i + 1, hi'⟩, by dsimp only; omega, ?_⟩
      dsimp only
      rw [hsn, ← hcat]
      exact fits_of rfl (by repeat' first | exact trivial | exact Sub.refl _ | exact rfl | apply And.intro)
  have hie : i = nm.length := by omega
  subst hie
  have hes := es_ok (qsF nm bad nm.length) hqok (by rw [qs_len]; omega)
  have hRl : (esR (qsF nm bad nm.length)).length = nm.length := by rw [esR, List.length_map, qs_len]
  have hRm : ((esR (qsF nm bad nm.length)).map rlD).length = nm.length := by rw [List.length_map, hRl]
  obtain ⟨RR, hRR⟩ : ∃ RR, esR (qsF nm bad nm.length) = RR := ⟨_, rfl⟩
  have hRat : ∀ j (h : j < RR.length), RR[j] = ruR (bdK bad j) (qV (qAt nm bad j)) (qW (qAt nm bad j)) := by
    intro j h
    subst hRR
    simp only [esR, qsF, List.getElem_map, List.getElem_range]
    rfl
  rw [hRR] at hes hRl hRm
  have hes2 : PCalls Tryz.prog 12 [.sl 1 ((⟨(esL (qsF nm bad nm.length)).toArray⟩ : ByteArray).data.toList.map bD)] (.tup [.sl 4 (RR.map rlD), .val (.int .i64 0)]) := hes
  repeat (first
    | refine awp_seq ?_
    | refine a_region ?_
    | refine awp_exit ?_
    | (refine r_id ?_; first
      | refine r_ev tab_ok rfl rfl rfl rfl (by first | exact trivial | exact ⟨by omega, by omega⟩ | omega | exact ⟨by omega, by omega, by omega, by omega⟩ | exact Nat.le_of_ble_eq_true rfl) rfl ?_
      | refine r_strd tab_ok rfl rfl rfl rfl rfl rfl (by omega) rfl rfl rfl ?_))
  refine r_call hes2 call12 rfl rfl ⟨Sub.refl _, trivial⟩ rfl rfl rfl rfl ?_
  repeat (first
    | refine awp_seq ?_
    | refine thenA_normal ?_
    | refine a_region ?_
    | refine r_done ?_
    | (refine r_id ?_; first
      | refine r_ev tab_ok rfl rfl rfl rfl (by first | exact trivial | exact ⟨by omega, by omega⟩ | omega | exact ⟨by omega, by omega, by omega, by omega⟩ | exact Nat.le_of_ble_eq_true rfl) rfl ?_
      | refine r_pick_f rfl rfl rfl rfl rfl rfl rfl ?_
      | refine r_len_on tab_ok rfl rfl rfl rfl rfl rfl rfl rfl rfl ?_
      | refine r_ev_on tab_ok rfl rfl rfl rfl rfl rfl (by first | exact trivial | exact ⟨by omega, by omega⟩ | omega) rfl ?_))
  refine awp_cond_n rfl (fun hne => absurd (by omega) hne) (fun _ => ?_)
  repeat (first
    | refine awp_seq ?_
    | refine thenA_normal ?_
    | refine awp_block ?_
    | refine a_region ?_
    | refine awp_skip ?_
    | refine r_done ?_
    | (refine r_id ?_; first
      | refine r_ev tab_ok rfl rfl rfl rfl (by first | exact trivial | exact ⟨by omega, by omega⟩ | omega | exact ⟨by omega, by omega, by omega, by omega⟩ | exact Nat.le_of_ble_eq_true rfl) rfl ?_))
  refine a_loop (σ := {j : Nat // j ≤ nm.length}) (fun _ => []) (fun x => [(0, .sl 1 (nm.map ciD')), (1, .sl 1 (bad.map ciD')), (9, .sl 4 (RR.map rlD)), (11, .val (.int .i64 x.1))]) (fun x => nm.length - x.1) ⟨0, Nat.zero_le _⟩ (fits_of rfl (by repeat' first | exact trivial | exact Sub.refl _ | exact rfl | apply And.intro)) ?_
  rintro ⟨j, hj⟩
  dsimp only
  repeat (first
    | refine awp_seq ?_
    | refine thenA_normal ?_
    | refine a_region ?_
    | refine r_done ?_
    | (refine r_id ?_; first
      | refine r_len tab_ok rfl rfl rfl rfl rfl rfl rfl ?_
      | refine r_ev tab_ok rfl rfl rfl rfl (by first | exact trivial | exact ⟨by omega, by omega⟩ | omega | exact ⟨by omega, by omega, by omega, by omega⟩ | exact Nat.le_of_ble_eq_true rfl) rfl ?_))
  refine awp_cond_p rfl (fun hlt => ?_) (fun hge2 => ?_)
  rotate_left
  · repeat (first
      | refine awp_seq ?_
      | refine a_region ?_
      | refine awp_exit ?_)
    refine r_call awake4_ok call11 rfl rfl trivial rfl rfl rfl rfl ?_
    repeat (first
      | refine thenA_normal ?_
      | refine awp_ret ?_
      | refine r_done ?_
      | (refine r_id ?_; first
        | refine r_ev tab_ok rfl rfl rfl rfl (by first | exact trivial | exact ⟨by omega, by omega⟩ | omega | exact ⟨by omega, by omega, by omega, by omega⟩ | exact Nat.le_of_ble_eq_true rfl) rfl ?_)
      | refine ret1 (by first | exact .inl rfl | exact .inr rfl) rfl rfl rfl ?_)
    exact Sub.refl _
  have hjl : j < nm.length := by omega
  have hjR : j < RR.length := by omega
  have ej : ((j : Nat) : Int).toNat = j := Int.toNat_natCast j
  have hR0 := hRat j hjR
  have hq : qAt nm bad j = ((nm[j] % 9).toNat, bdK bad j, j) := by rw [qAt, getD_atI hjl]
  have hk8 := bdK_lt bad j
  obtain ⟨a, ha⟩ : ∃ a : Nat, nm[j] % 9 = a := ⟨(nm[j] % 9).toNat, by omega⟩
  have ha9 : a < 9 := by omega
  obtain ⟨x0, hnj⟩ : ∃ x0, nm[j] = x0 := ⟨_, rfl⟩
  have hra := round_ok nm[j] 9 (by decide) (by decide)
  rw [ha, hnj] at hra
  rw [ha, Int.toNat_natCast] at hq
  have hV0 : qV (qAt nm bad j) = (⟨#[114]⟩ : ByteArray) ++ ⟨(dgs a).toArray⟩ := by rw [hq, show (⟨#[114]⟩ : ByteArray) = ⟨([114] : List UInt8).toArray⟩ from rfl, bytes_cat]; rfl
  have hW0 : qW (qAt nm bad j) = (⟨#[99]⟩ : ByteArray) ++ ⟨(dgs j).toArray⟩ := by rw [hq, show (⟨#[99]⟩ : ByteArray) = ⟨([99] : List UInt8).toArray⟩ from rfl, bytes_cat]; rfl
  generalize qV (qAt nm bad j) = V at hR0 hV0
  generalize qW (qAt nm bad j) = W at hR0 hW0
  obtain ⟨_, _, da3, _⟩ := dgs_ok a (by omega)
  obtain ⟨_, _, dj3, _⟩ := dgs_ok j (by omega)
  have sX : (⟨(dgs a).toArray⟩ : ByteArray).size ≤ 2 := by rw [sz_list]; exact da3
  have sY : (⟨(dgs j).toArray⟩ : ByteArray).size ≤ 2 := by rw [sz_list]; exact dj3
  have l1 : (⟨#[114]⟩ : ByteArray).size = 1 := rfl
  have l2 : (⟨#[99]⟩ : ByteArray).size = 1 := rfl
  have hkk : (j < bad.length ∧ ∃ z : Int, bad.getD j 0 = z ∧ z % 8 = (bdK bad j : Int)) ∨ (¬ j < bad.length ∧ bdK bad j = 0) := by
    by_cases hib : j < bad.length
    · exact .inl ⟨hib, _, rfl, by rw [bdK, if_pos hib]; omega⟩
    · exact .inr ⟨hib, by rw [bdK, if_neg hib]⟩
  generalize bdK bad j = k at hR0 hk8 hkk
  have hV1 : (Nd.mk (idT V) []).tok.text = (⟨#[114]⟩ : ByteArray) ++ ⟨(dgs a).toArray⟩ := hV0
  have hW1 : (Nd.mk (idT W) []).tok.text = (⟨#[99]⟩ : ByteArray) ++ ⟨(dgs j).toArray⟩ := hW0
  clear hes hes2 hRat hRm hA hqok hq ha
  rcases hkk with ⟨hib, z, hz, hzk⟩ | ⟨hib, hk0⟩
  · rw [getD_atI hib] at hz
    have hrb := round_ok z 8 (by decide) (by decide)
    rw [hzk] at hrb
    clear hzk
    by_cases hk3 : k = 3
    · subst hk3
      have hdc : dcE 3 W = [⟨⟨#[98]⟩, [.mk ⟨1, ⟨#[99]⟩, 0, false, false, false⟩ []], false⟩, ⟨⟨#[99, 111, 108, 111, 114]⟩, [.mk (idT W) []], false⟩] := rfl
      have hl1 : ([⟨⟨#[98]⟩, [.mk ⟨1, ⟨#[99]⟩, 0, false, false, false⟩ []], false⟩, ⟨⟨#[99, 111, 108, 111, 114]⟩, [.mk (idT W) []], false⟩] : List Dc).length = 2 := rfl
      have el1 : ((([⟨⟨#[98]⟩, [.mk ⟨1, ⟨#[99]⟩, 0, false, false, false⟩ []], false⟩, ⟨⟨#[99, 111, 108, 111, 114]⟩, [.mk (idT W) []], false⟩] : List Dc).length : Int) - 1).toNat = 1 := rfl
      have hRj : RR[j]'hjR = ⟨⟨#[]⟩, [.mk (idT V) []], true, [⟨⟨#[98]⟩, [.mk ⟨1, ⟨#[99]⟩, 0, false, false, false⟩ []], false⟩, ⟨⟨#[99, 111, 108, 111, 114]⟩, [.mk (idT W) []], false⟩]⟩ := by rw [hR0, ruR, hdc]
      repeat (first
        | refine awp_seq ?_
        | refine awp_block ?_
        | refine a_draw1 mixed_ok (by kernel_rfl) ?_
        | refine awp_skip ?_
        | (refine r_id ?_; first
          | refine r_ev tab_ok rfl rfl rfl rfl (by first | exact trivial | exact ⟨by omega, by omega⟩ | omega | exact ⟨by omega, by omega, by omega, by omega⟩ | exact Nat.le_of_ble_eq_true rfl) rfl ?_
          | refine r_idx tab_ok rfl rfl rfl rfl rfl rfl rfl (by first | exact ⟨by omega, by omega⟩ | (simp; omega)) rfl rfl ?_))
      try simp only [ej, hRj, hnj, el1]
      repeat (first
        | (refine r_id ?_; first
          | refine r_ev tab_ok rfl rfl rfl rfl (by first | exact trivial | exact ⟨by omega, by omega⟩ | omega | exact ⟨by omega, by omega, by omega, by omega⟩ | exact Nat.le_of_ble_eq_true rfl) rfl ?_
          | refine r_idx tab_ok rfl rfl rfl rfl rfl rfl rfl (by first | exact ⟨by omega, by omega⟩ | (simp; omega)) rfl rfl ?_
          | refine r_pick_f rfl rfl rfl rfl rfl rfl rfl ?_
          | refine r_ev_on tab_ok rfl rfl rfl rfl rfl rfl (by first | exact trivial | exact ⟨by omega, by omega⟩ | omega) rfl ?_)
        | refine r_g rfl rfl rfl ?_)
      try simp only [ej, hRj, hnj, el1]
      repeat (first
        | (refine r_id ?_; first
          | refine r_ev tab_ok rfl rfl rfl rfl (by first | exact trivial | exact ⟨by omega, by omega⟩ | omega | exact ⟨by omega, by omega, by omega, by omega⟩ | exact Nat.le_of_ble_eq_true rfl) rfl ?_
          | refine r_idx tab_ok rfl rfl rfl rfl rfl rfl rfl (by first | exact ⟨by omega, by omega⟩ | (simp; omega)) rfl rfl ?_
          | refine r_pick_f rfl rfl rfl rfl rfl rfl rfl ?_
          | refine r_len_on tab_ok rfl rfl rfl rfl rfl rfl rfl rfl rfl ?_
          | refine r_ev_on tab_ok rfl rfl rfl rfl rfl rfl (by first | exact trivial | exact ⟨by omega, by omega⟩ | omega) rfl ?_)
        | refine r_g rfl rfl rfl ?_)
      try simp only [ej, hRj, hnj, el1]
      repeat (first
        | (refine r_id ?_; first
          | refine r_idx tab_ok rfl rfl rfl rfl rfl rfl rfl (by first | exact ⟨by omega, by omega⟩ | (simp; omega)) rfl rfl ?_
          | refine r_ev_on tab_ok rfl rfl rfl rfl rfl rfl (by first | exact trivial | exact ⟨by omega, by omega⟩ | omega) rfl ?_)
        | refine r_g rfl rfl rfl ?_)
      try simp only [ej, hRj, hnj, el1]
      repeat (first
        | (refine r_id ?_; first
          | refine r_idx tab_ok rfl rfl rfl rfl rfl rfl rfl (by first | exact ⟨by omega, by omega⟩ | (simp; omega)) rfl rfl ?_
          | refine r_idxd tab_ok rfl rfl rfl rfl rfl rfl rfl (by decide) rfl rfl rfl ?_
          | refine r_ev_on tab_ok rfl rfl rfl rfl rfl rfl (by first | exact trivial | exact ⟨by omega, by omega⟩ | omega) rfl ?_)
        | refine r_g rfl rfl rfl ?_)
      try simp only [ej, hRj, hnj, el1]
      try simp only [ej, hRj, hnj, el1]
      refine r_call hra call22 rfl rfl ⟨Sub.refl _, Sub.refl _, trivial⟩ rfl rfl rfl rfl ?_
      repeat (first
        | refine r_g rfl rfl rfl ?_)
      refine r_call (dc30 a (by omega)) call23 rfl rfl ⟨Sub.refl _, trivial⟩ rfl rfl rfl rfl ?_
      repeat (first
        | refine thenA_normal ?_
        | refine r_done' ?_
        | (refine r_id ?_; first
          | refine r_pick_f rfl rfl rfl rfl rfl rfl rfl ?_
          | refine r_ev_on tab_ok rfl rfl rfl rfl rfl rfl (by first | exact trivial | exact ⟨by omega, by omega⟩ | omega) rfl ?_))
      try simp only [ej, hRj, hnj, el1]
      try simp only [ej, hRj, hnj, el1]
      refine awp_cond_n rfl (fun h => absurd hV1 h) (fun _ => ?_)
      repeat (first
        | refine awp_seq ?_
        | refine thenA_normal ?_
        | refine a_region ?_
        | refine awp_skip ?_
        | refine r_done ?_
        | (refine r_id ?_; first
          | refine r_len tab_ok rfl rfl rfl rfl rfl rfl rfl ?_
          | refine r_ev tab_ok rfl rfl rfl rfl (by first | exact trivial | exact ⟨by omega, by omega⟩ | omega | exact ⟨by omega, by omega, by omega, by omega⟩ | exact Nat.le_of_ble_eq_true rfl) rfl ?_
          | refine r_idx tab_ok rfl rfl rfl rfl rfl rfl rfl (by first | exact ⟨by omega, by omega⟩ | (simp; omega)) rfl rfl ?_))
      try simp only [ej, hRj, hnj, el1]
      refine awp_cond_p rfl (fun _ => ?_) (fun h => (h (by omega)).elim)
      repeat (first
        | refine a_region ?_
        | (refine r_id ?_; first
          | refine r_ev tab_ok rfl rfl rfl rfl (by first | exact trivial | exact ⟨by omega, by omega⟩ | omega | exact ⟨by omega, by omega, by omega, by omega⟩ | exact Nat.le_of_ble_eq_true rfl) rfl ?_
          | refine r_idx tab_ok rfl rfl rfl rfl rfl rfl rfl (by first | exact ⟨by omega, by omega⟩ | (simp; omega)) rfl rfl ?_))
      simp only [ej, hz]
      refine r_call hrb call22 rfl rfl ⟨Sub.refl _, Sub.refl _, trivial⟩ rfl rfl rfl rfl ?_
      repeat (first
        | refine awp_seq ?_
        | refine thenA_normal ?_
        | refine a_region ?_
        | refine a_draw1 mixed_ok (by kernel_rfl) ?_
        | refine r_done ?_
        | (refine r_id ?_; first
          | refine r_ev tab_ok rfl rfl rfl rfl (by first | exact trivial | exact ⟨by omega, by omega⟩ | omega | exact ⟨by omega, by omega, by omega, by omega⟩ | exact Nat.le_of_ble_eq_true rfl) rfl ?_
          | refine r_idx tab_ok rfl rfl rfl rfl rfl rfl rfl (by first | exact ⟨by omega, by omega⟩ | (simp; omega)) rfl rfl ?_
          | refine r_ev_on tab_ok rfl rfl rfl rfl rfl rfl (by first | exact trivial | exact ⟨by omega, by omega⟩ | omega) rfl ?_)
        | refine awp_cond_t rfl ?_
        | refine r_g rfl rfl rfl ?_)
      try simp only [ej, hRj, hnj, el1]
      repeat (first
        | (refine r_id ?_; first
          | refine r_ev tab_ok rfl rfl rfl rfl (by first | exact trivial | exact ⟨by omega, by omega⟩ | omega | exact ⟨by omega, by omega, by omega, by omega⟩ | exact Nat.le_of_ble_eq_true rfl) rfl ?_
          | refine r_idx tab_ok rfl rfl rfl rfl rfl rfl rfl (by first | exact ⟨by omega, by omega⟩ | (simp; omega)) rfl rfl ?_
          | refine r_pick_f rfl rfl rfl rfl rfl rfl rfl ?_
          | refine r_ev_on tab_ok rfl rfl rfl rfl rfl rfl (by first | exact trivial | exact ⟨by omega, by omega⟩ | omega) rfl ?_)
        | refine r_g rfl rfl rfl ?_)
      try simp only [ej, hRj, hnj, el1]
      repeat (first
        | (refine r_id ?_; first
          | refine r_ev tab_ok rfl rfl rfl rfl (by first | exact trivial | exact ⟨by omega, by omega⟩ | omega | exact ⟨by omega, by omega, by omega, by omega⟩ | exact Nat.le_of_ble_eq_true rfl) rfl ?_
          | refine r_idx tab_ok rfl rfl rfl rfl rfl rfl rfl (by first | exact ⟨by omega, by omega⟩ | (simp; omega)) rfl rfl ?_
          | refine r_pick_f rfl rfl rfl rfl rfl rfl rfl ?_
          | refine r_len_on tab_ok rfl rfl rfl rfl rfl rfl rfl rfl rfl ?_
          | refine r_ev_on tab_ok rfl rfl rfl rfl rfl rfl (by first | exact trivial | exact ⟨by omega, by omega⟩ | omega) rfl ?_)
        | refine r_g rfl rfl rfl ?_)
      try simp only [ej, hRj, hnj, el1]
      repeat (first
        | (refine r_id ?_; first
          | refine r_idx tab_ok rfl rfl rfl rfl rfl rfl rfl (by first | exact ⟨by omega, by omega⟩ | (simp; omega)) rfl rfl ?_
          | refine r_idxd tab_ok rfl rfl rfl rfl rfl rfl rfl (by decide) rfl rfl rfl ?_
          | refine r_ev_on tab_ok rfl rfl rfl rfl rfl rfl (by first | exact trivial | exact ⟨by omega, by omega⟩ | omega) rfl ?_)
        | refine r_g rfl rfl rfl ?_)
      try simp only [ej, hRj, hnj, el1]
      try simp only [ej, hRj, hnj, el1]
      try simp only [ej, hRj, hnj, el1]
      refine r_call (dc30 j (by omega)) call23 rfl rfl ⟨Sub.refl _, trivial⟩ rfl rfl rfl rfl ?_
      repeat (first
        | refine thenA_normal ?_
        | refine r_done' ?_
        | (refine r_id ?_; first
          | refine r_pick_f rfl rfl rfl rfl rfl rfl rfl ?_
          | refine r_ev_on tab_ok rfl rfl rfl rfl rfl rfl (by first | exact trivial | exact ⟨by omega, by omega⟩ | omega) rfl ?_))
      try simp only [ej, hRj, hnj, el1]
      try simp only [ej, hRj, hnj, el1]
      refine awp_cond_n rfl (fun h => absurd hW1 h) (fun _ => ?_)
      repeat (first
        | refine thenA_normal ?_
        | refine a_region ?_
        | refine awp_skip ?_
        | refine r_done ?_
        | (refine r_id ?_; first
          | refine r_ev tab_ok rfl rfl rfl rfl (by first | exact trivial | exact ⟨by omega, by omega⟩ | omega | exact ⟨by omega, by omega, by omega, by omega⟩ | exact Nat.le_of_ble_eq_true rfl) rfl ?_))
      try simp only [ej, hRj, hnj, el1]
      exact ⟨⟨j + 1, hjl⟩, by dsimp only; omega, fits_of rfl (by repeat' first | exact trivial | exact Sub.refl _ | exact rfl | apply And.intro)⟩
    · have hk3i : ¬ ((k : Nat) : Int) = 3 := by omega
      have hdc : dcE k W = [⟨⟨#[99, 111, 108, 111, 114]⟩, [.mk (idT W) []], false⟩] := dcE_ne k hk8 hk3 W
      have hl1 : ([⟨⟨#[99, 111, 108, 111, 114]⟩, [.mk (idT W) []], false⟩] : List Dc).length = 1 := rfl
      have el1 : ((([⟨⟨#[99, 111, 108, 111, 114]⟩, [.mk (idT W) []], false⟩] : List Dc).length : Int) - 1).toNat = 0 := rfl
      have hRj : RR[j]'hjR = ⟨⟨#[]⟩, [.mk (idT V) []], true, [⟨⟨#[99, 111, 108, 111, 114]⟩, [.mk (idT W) []], false⟩]⟩ := by rw [hR0, ruR, hdc]
      repeat (first
        | refine awp_seq ?_
        | refine awp_block ?_
        | refine a_draw1 mixed_ok (by kernel_rfl) ?_
        | refine awp_skip ?_
        | (refine r_id ?_; first
          | refine r_ev tab_ok rfl rfl rfl rfl (by first | exact trivial | exact ⟨by omega, by omega⟩ | omega | exact ⟨by omega, by omega, by omega, by omega⟩ | exact Nat.le_of_ble_eq_true rfl) rfl ?_
          | refine r_idx tab_ok rfl rfl rfl rfl rfl rfl rfl (by first | exact ⟨by omega, by omega⟩ | (simp; omega)) rfl rfl ?_))
      try simp only [ej, hRj, hnj, el1]
      repeat (first
        | (refine r_id ?_; first
          | refine r_ev tab_ok rfl rfl rfl rfl (by first | exact trivial | exact ⟨by omega, by omega⟩ | omega | exact ⟨by omega, by omega, by omega, by omega⟩ | exact Nat.le_of_ble_eq_true rfl) rfl ?_
          | refine r_idx tab_ok rfl rfl rfl rfl rfl rfl rfl (by first | exact ⟨by omega, by omega⟩ | (simp; omega)) rfl rfl ?_
          | refine r_pick_f rfl rfl rfl rfl rfl rfl rfl ?_
          | refine r_ev_on tab_ok rfl rfl rfl rfl rfl rfl (by first | exact trivial | exact ⟨by omega, by omega⟩ | omega) rfl ?_)
        | refine r_g rfl rfl rfl ?_)
      try simp only [ej, hRj, hnj, el1]
      repeat (first
        | (refine r_id ?_; first
          | refine r_ev tab_ok rfl rfl rfl rfl (by first | exact trivial | exact ⟨by omega, by omega⟩ | omega | exact ⟨by omega, by omega, by omega, by omega⟩ | exact Nat.le_of_ble_eq_true rfl) rfl ?_
          | refine r_idx tab_ok rfl rfl rfl rfl rfl rfl rfl (by first | exact ⟨by omega, by omega⟩ | (simp; omega)) rfl rfl ?_
          | refine r_pick_f rfl rfl rfl rfl rfl rfl rfl ?_
          | refine r_len_on tab_ok rfl rfl rfl rfl rfl rfl rfl rfl rfl ?_
          | refine r_ev_on tab_ok rfl rfl rfl rfl rfl rfl (by first | exact trivial | exact ⟨by omega, by omega⟩ | omega) rfl ?_)
        | refine r_g rfl rfl rfl ?_)
      try simp only [ej, hRj, hnj, el1]
      repeat (first
        | (refine r_id ?_; first
          | refine r_idx tab_ok rfl rfl rfl rfl rfl rfl rfl (by first | exact ⟨by omega, by omega⟩ | (simp; omega)) rfl rfl ?_
          | refine r_ev_on tab_ok rfl rfl rfl rfl rfl rfl (by first | exact trivial | exact ⟨by omega, by omega⟩ | omega) rfl ?_)
        | refine r_g rfl rfl rfl ?_)
      try simp only [ej, hRj, hnj, el1]
      repeat (first
        | (refine r_id ?_; first
          | refine r_idx tab_ok rfl rfl rfl rfl rfl rfl rfl (by first | exact ⟨by omega, by omega⟩ | (simp; omega)) rfl rfl ?_
          | refine r_idxd tab_ok rfl rfl rfl rfl rfl rfl rfl (by decide) rfl rfl rfl ?_
          | refine r_ev_on tab_ok rfl rfl rfl rfl rfl rfl (by first | exact trivial | exact ⟨by omega, by omega⟩ | omega) rfl ?_)
        | refine r_g rfl rfl rfl ?_)
      try simp only [ej, hRj, hnj, el1]
      try simp only [ej, hRj, hnj, el1]
      refine r_call hra call22 rfl rfl ⟨Sub.refl _, Sub.refl _, trivial⟩ rfl rfl rfl rfl ?_
      repeat (first
        | refine r_g rfl rfl rfl ?_)
      refine r_call (dc30 a (by omega)) call23 rfl rfl ⟨Sub.refl _, trivial⟩ rfl rfl rfl rfl ?_
      repeat (first
        | refine thenA_normal ?_
        | refine r_done' ?_
        | (refine r_id ?_; first
          | refine r_pick_f rfl rfl rfl rfl rfl rfl rfl ?_
          | refine r_ev_on tab_ok rfl rfl rfl rfl rfl rfl (by first | exact trivial | exact ⟨by omega, by omega⟩ | omega) rfl ?_))
      try simp only [ej, hRj, hnj, el1]
      try simp only [ej, hRj, hnj, el1]
      refine awp_cond_n rfl (fun h => absurd hV1 h) (fun _ => ?_)
      repeat (first
        | refine awp_seq ?_
        | refine thenA_normal ?_
        | refine a_region ?_
        | refine awp_skip ?_
        | refine r_done ?_
        | (refine r_id ?_; first
          | refine r_len tab_ok rfl rfl rfl rfl rfl rfl rfl ?_
          | refine r_ev tab_ok rfl rfl rfl rfl (by first | exact trivial | exact ⟨by omega, by omega⟩ | omega | exact ⟨by omega, by omega, by omega, by omega⟩ | exact Nat.le_of_ble_eq_true rfl) rfl ?_
          | refine r_idx tab_ok rfl rfl rfl rfl rfl rfl rfl (by first | exact ⟨by omega, by omega⟩ | (simp; omega)) rfl rfl ?_))
      try simp only [ej, hRj, hnj, el1]
      refine awp_cond_p rfl (fun _ => ?_) (fun h => (h (by omega)).elim)
      repeat (first
        | refine a_region ?_
        | (refine r_id ?_; first
          | refine r_ev tab_ok rfl rfl rfl rfl (by first | exact trivial | exact ⟨by omega, by omega⟩ | omega | exact ⟨by omega, by omega, by omega, by omega⟩ | exact Nat.le_of_ble_eq_true rfl) rfl ?_
          | refine r_idx tab_ok rfl rfl rfl rfl rfl rfl rfl (by first | exact ⟨by omega, by omega⟩ | (simp; omega)) rfl rfl ?_))
      simp only [ej, hz]
      refine r_call hrb call22 rfl rfl ⟨Sub.refl _, Sub.refl _, trivial⟩ rfl rfl rfl rfl ?_
      repeat (first
        | refine awp_seq ?_
        | refine thenA_normal ?_
        | refine a_region ?_
        | refine r_done ?_
        | (refine r_id ?_; first
          | refine r_ev tab_ok rfl rfl rfl rfl (by first | exact trivial | exact ⟨by omega, by omega⟩ | omega | exact ⟨by omega, by omega, by omega, by omega⟩ | exact Nat.le_of_ble_eq_true rfl) rfl ?_))
      refine awp_cond_p rfl (fun h => absurd h hk3i) (fun h => ?_)
      repeat (first
        | refine awp_seq ?_
        | refine a_draw1 mixed_ok (by kernel_rfl) ?_
        | refine awp_skip ?_
        | (refine r_id ?_; first
          | refine r_ev tab_ok rfl rfl rfl rfl (by first | exact trivial | exact ⟨by omega, by omega⟩ | omega | exact ⟨by omega, by omega, by omega, by omega⟩ | exact Nat.le_of_ble_eq_true rfl) rfl ?_
          | refine r_idx tab_ok rfl rfl rfl rfl rfl rfl rfl (by first | exact ⟨by omega, by omega⟩ | (simp; omega)) rfl rfl ?_
          | refine r_ev_on tab_ok rfl rfl rfl rfl rfl rfl (by first | exact trivial | exact ⟨by omega, by omega⟩ | omega) rfl ?_)
        | refine r_g rfl rfl rfl ?_)
      try simp only [ej, hRj, hnj, el1]
      repeat (first
        | (refine r_id ?_; first
          | refine r_ev tab_ok rfl rfl rfl rfl (by first | exact trivial | exact ⟨by omega, by omega⟩ | omega | exact ⟨by omega, by omega, by omega, by omega⟩ | exact Nat.le_of_ble_eq_true rfl) rfl ?_
          | refine r_idx tab_ok rfl rfl rfl rfl rfl rfl rfl (by first | exact ⟨by omega, by omega⟩ | (simp; omega)) rfl rfl ?_
          | refine r_pick_f rfl rfl rfl rfl rfl rfl rfl ?_
          | refine r_ev_on tab_ok rfl rfl rfl rfl rfl rfl (by first | exact trivial | exact ⟨by omega, by omega⟩ | omega) rfl ?_)
        | refine r_g rfl rfl rfl ?_)
      try simp only [ej, hRj, hnj, el1]
      repeat (first
        | (refine r_id ?_; first
          | refine r_ev tab_ok rfl rfl rfl rfl (by first | exact trivial | exact ⟨by omega, by omega⟩ | omega | exact ⟨by omega, by omega, by omega, by omega⟩ | exact Nat.le_of_ble_eq_true rfl) rfl ?_
          | refine r_idx tab_ok rfl rfl rfl rfl rfl rfl rfl (by first | exact ⟨by omega, by omega⟩ | (simp; omega)) rfl rfl ?_
          | refine r_pick_f rfl rfl rfl rfl rfl rfl rfl ?_
          | refine r_len_on tab_ok rfl rfl rfl rfl rfl rfl rfl rfl rfl ?_
          | refine r_ev_on tab_ok rfl rfl rfl rfl rfl rfl (by first | exact trivial | exact ⟨by omega, by omega⟩ | omega) rfl ?_)
        | refine r_g rfl rfl rfl ?_)
      try simp only [ej, hRj, hnj, el1]
      repeat (first
        | (refine r_id ?_; first
          | refine r_idx tab_ok rfl rfl rfl rfl rfl rfl rfl (by first | exact ⟨by omega, by omega⟩ | (simp; omega)) rfl rfl ?_
          | refine r_idxd tab_ok rfl rfl rfl rfl rfl rfl rfl (by decide) rfl rfl rfl ?_
          | refine r_ev_on tab_ok rfl rfl rfl rfl rfl rfl (by first | exact trivial | exact ⟨by omega, by omega⟩ | omega) rfl ?_)
        | refine r_g rfl rfl rfl ?_)
      try simp only [ej, hRj, hnj, el1]
      try simp only [ej, hRj, hnj, el1]
      try simp only [ej, hRj, hnj, el1]
      refine r_call (dc30 j (by omega)) call23 rfl rfl ⟨Sub.refl _, trivial⟩ rfl rfl rfl rfl ?_
      repeat (first
        | refine thenA_normal ?_
        | refine r_done' ?_
        | (refine r_id ?_; first
          | refine r_pick_f rfl rfl rfl rfl rfl rfl rfl ?_
          | refine r_ev_on tab_ok rfl rfl rfl rfl rfl rfl (by first | exact trivial | exact ⟨by omega, by omega⟩ | omega) rfl ?_))
      try simp only [ej, hRj, hnj, el1]
      try simp only [ej, hRj, hnj, el1]
      refine awp_cond_n rfl (fun h => absurd hW1 h) (fun _ => ?_)
      repeat (first
        | refine thenA_normal ?_
        | refine a_region ?_
        | refine awp_skip ?_
        | refine r_done ?_
        | (refine r_id ?_; first
          | refine r_ev tab_ok rfl rfl rfl rfl (by first | exact trivial | exact ⟨by omega, by omega⟩ | omega | exact ⟨by omega, by omega, by omega, by omega⟩ | exact Nat.le_of_ble_eq_true rfl) rfl ?_))
      try simp only [ej, hRj, hnj, el1]
      exact ⟨⟨j + 1, hjl⟩, by dsimp only; omega, fits_of rfl (by repeat' first | exact trivial | exact Sub.refl _ | exact rfl | apply And.intro)⟩
  · subst hk0
    have dummy : True := trivial
    by_cases hd0 : True
    · have hdd : (0 : Nat) < 8 := by decide
      have hdc : dcE 0 W = [⟨⟨#[99, 111, 108, 111, 114]⟩, [.mk (idT W) []], false⟩] := rfl
      have hl1 : ([⟨⟨#[99, 111, 108, 111, 114]⟩, [.mk (idT W) []], false⟩] : List Dc).length = 1 := rfl
      have el1 : ((([⟨⟨#[99, 111, 108, 111, 114]⟩, [.mk (idT W) []], false⟩] : List Dc).length : Int) - 1).toNat = 0 := rfl
      have hRj : RR[j]'hjR = ⟨⟨#[]⟩, [.mk (idT V) []], true, [⟨⟨#[99, 111, 108, 111, 114]⟩, [.mk (idT W) []], false⟩]⟩ := by rw [hR0, ruR, hdc]
      repeat (first
        | refine awp_seq ?_
        | refine awp_block ?_
        | refine a_draw1 mixed_ok (by kernel_rfl) ?_
        | refine awp_skip ?_
        | (refine r_id ?_; first
          | refine r_ev tab_ok rfl rfl rfl rfl (by first | exact trivial | exact ⟨by omega, by omega⟩ | omega | exact ⟨by omega, by omega, by omega, by omega⟩ | exact Nat.le_of_ble_eq_true rfl) rfl ?_
          | refine r_idx tab_ok rfl rfl rfl rfl rfl rfl rfl (by first | exact ⟨by omega, by omega⟩ | (simp; omega)) rfl rfl ?_))
      try simp only [ej, hRj, hnj, el1]
      repeat (first
        | (refine r_id ?_; first
          | refine r_ev tab_ok rfl rfl rfl rfl (by first | exact trivial | exact ⟨by omega, by omega⟩ | omega | exact ⟨by omega, by omega, by omega, by omega⟩ | exact Nat.le_of_ble_eq_true rfl) rfl ?_
          | refine r_idx tab_ok rfl rfl rfl rfl rfl rfl rfl (by first | exact ⟨by omega, by omega⟩ | (simp; omega)) rfl rfl ?_
          | refine r_pick_f rfl rfl rfl rfl rfl rfl rfl ?_
          | refine r_ev_on tab_ok rfl rfl rfl rfl rfl rfl (by first | exact trivial | exact ⟨by omega, by omega⟩ | omega) rfl ?_)
        | refine r_g rfl rfl rfl ?_)
      try simp only [ej, hRj, hnj, el1]
      repeat (first
        | (refine r_id ?_; first
          | refine r_ev tab_ok rfl rfl rfl rfl (by first | exact trivial | exact ⟨by omega, by omega⟩ | omega | exact ⟨by omega, by omega, by omega, by omega⟩ | exact Nat.le_of_ble_eq_true rfl) rfl ?_
          | refine r_idx tab_ok rfl rfl rfl rfl rfl rfl rfl (by first | exact ⟨by omega, by omega⟩ | (simp; omega)) rfl rfl ?_
          | refine r_pick_f rfl rfl rfl rfl rfl rfl rfl ?_
          | refine r_len_on tab_ok rfl rfl rfl rfl rfl rfl rfl rfl rfl ?_
          | refine r_ev_on tab_ok rfl rfl rfl rfl rfl rfl (by first | exact trivial | exact ⟨by omega, by omega⟩ | omega) rfl ?_)
        | refine r_g rfl rfl rfl ?_)
      try simp only [ej, hRj, hnj, el1]
      repeat (first
        | (refine r_id ?_; first
          | refine r_idx tab_ok rfl rfl rfl rfl rfl rfl rfl (by first | exact ⟨by omega, by omega⟩ | (simp; omega)) rfl rfl ?_
          | refine r_ev_on tab_ok rfl rfl rfl rfl rfl rfl (by first | exact trivial | exact ⟨by omega, by omega⟩ | omega) rfl ?_)
        | refine r_g rfl rfl rfl ?_)
      try simp only [ej, hRj, hnj, el1]
      repeat (first
        | (refine r_id ?_; first
          | refine r_idx tab_ok rfl rfl rfl rfl rfl rfl rfl (by first | exact ⟨by omega, by omega⟩ | (simp; omega)) rfl rfl ?_
          | refine r_idxd tab_ok rfl rfl rfl rfl rfl rfl rfl (by decide) rfl rfl rfl ?_
          | refine r_ev_on tab_ok rfl rfl rfl rfl rfl rfl (by first | exact trivial | exact ⟨by omega, by omega⟩ | omega) rfl ?_)
        | refine r_g rfl rfl rfl ?_)
      try simp only [ej, hRj, hnj, el1]
      try simp only [ej, hRj, hnj, el1]
      refine r_call hra call22 rfl rfl ⟨Sub.refl _, Sub.refl _, trivial⟩ rfl rfl rfl rfl ?_
      repeat (first
        | refine r_g rfl rfl rfl ?_)
      refine r_call (dc30 a (by omega)) call23 rfl rfl ⟨Sub.refl _, trivial⟩ rfl rfl rfl rfl ?_
      repeat (first
        | refine thenA_normal ?_
        | refine r_done' ?_
        | (refine r_id ?_; first
          | refine r_pick_f rfl rfl rfl rfl rfl rfl rfl ?_
          | refine r_ev_on tab_ok rfl rfl rfl rfl rfl rfl (by first | exact trivial | exact ⟨by omega, by omega⟩ | omega) rfl ?_))
      try simp only [ej, hRj, hnj, el1]
      try simp only [ej, hRj, hnj, el1]
      refine awp_cond_n rfl (fun h => absurd hV1 h) (fun _ => ?_)
      repeat (first
        | refine awp_seq ?_
        | refine thenA_normal ?_
        | refine a_region ?_
        | refine awp_skip ?_
        | refine r_done ?_
        | (refine r_id ?_; first
          | refine r_len tab_ok rfl rfl rfl rfl rfl rfl rfl ?_
          | refine r_ev tab_ok rfl rfl rfl rfl (by first | exact trivial | exact ⟨by omega, by omega⟩ | omega | exact ⟨by omega, by omega, by omega, by omega⟩ | exact Nat.le_of_ble_eq_true rfl) rfl ?_
          | refine r_idx tab_ok rfl rfl rfl rfl rfl rfl rfl (by first | exact ⟨by omega, by omega⟩ | (simp; omega)) rfl rfl ?_))
      try simp only [ej, hRj, hnj, el1]
      refine awp_cond_p rfl (fun h => (hib (by omega)).elim) (fun _ => ?_)
      repeat (first
        | refine awp_seq ?_
        | refine thenA_normal ?_
        | refine a_region ?_
        | refine a_draw1 mixed_ok (by kernel_rfl) ?_
        | refine awp_skip ?_
        | refine r_done ?_
        | (refine r_id ?_; first
          | refine r_ev tab_ok rfl rfl rfl rfl (by first | exact trivial | exact ⟨by omega, by omega⟩ | omega | exact ⟨by omega, by omega, by omega, by omega⟩ | exact Nat.le_of_ble_eq_true rfl) rfl ?_
          | refine r_idx tab_ok rfl rfl rfl rfl rfl rfl rfl (by first | exact ⟨by omega, by omega⟩ | (simp; omega)) rfl rfl ?_
          | refine r_ev_on tab_ok rfl rfl rfl rfl rfl rfl (by first | exact trivial | exact ⟨by omega, by omega⟩ | omega) rfl ?_)
        | refine awp_cond_f rfl ?_
        | refine r_g rfl rfl rfl ?_)
      try simp only [ej, hRj, hnj, el1]
      repeat (first
        | (refine r_id ?_; first
          | refine r_ev tab_ok rfl rfl rfl rfl (by first | exact trivial | exact ⟨by omega, by omega⟩ | omega | exact ⟨by omega, by omega, by omega, by omega⟩ | exact Nat.le_of_ble_eq_true rfl) rfl ?_
          | refine r_idx tab_ok rfl rfl rfl rfl rfl rfl rfl (by first | exact ⟨by omega, by omega⟩ | (simp; omega)) rfl rfl ?_
          | refine r_pick_f rfl rfl rfl rfl rfl rfl rfl ?_
          | refine r_ev_on tab_ok rfl rfl rfl rfl rfl rfl (by first | exact trivial | exact ⟨by omega, by omega⟩ | omega) rfl ?_)
        | refine r_g rfl rfl rfl ?_)
      try simp only [ej, hRj, hnj, el1]
      repeat (first
        | (refine r_id ?_; first
          | refine r_ev tab_ok rfl rfl rfl rfl (by first | exact trivial | exact ⟨by omega, by omega⟩ | omega | exact ⟨by omega, by omega, by omega, by omega⟩ | exact Nat.le_of_ble_eq_true rfl) rfl ?_
          | refine r_idx tab_ok rfl rfl rfl rfl rfl rfl rfl (by first | exact ⟨by omega, by omega⟩ | (simp; omega)) rfl rfl ?_
          | refine r_pick_f rfl rfl rfl rfl rfl rfl rfl ?_
          | refine r_len_on tab_ok rfl rfl rfl rfl rfl rfl rfl rfl rfl ?_
          | refine r_ev_on tab_ok rfl rfl rfl rfl rfl rfl (by first | exact trivial | exact ⟨by omega, by omega⟩ | omega) rfl ?_)
        | refine r_g rfl rfl rfl ?_)
      try simp only [ej, hRj, hnj, el1]
      repeat (first
        | (refine r_id ?_; first
          | refine r_idx tab_ok rfl rfl rfl rfl rfl rfl rfl (by first | exact ⟨by omega, by omega⟩ | (simp; omega)) rfl rfl ?_
          | refine r_idxd tab_ok rfl rfl rfl rfl rfl rfl rfl (by decide) rfl rfl rfl ?_
          | refine r_ev_on tab_ok rfl rfl rfl rfl rfl rfl (by first | exact trivial | exact ⟨by omega, by omega⟩ | omega) rfl ?_)
        | refine r_g rfl rfl rfl ?_)
      try simp only [ej, hRj, hnj, el1]
      try simp only [ej, hRj, hnj, el1]
      try simp only [ej, hRj, hnj, el1]
      refine r_call (dc30 j (by omega)) call23 rfl rfl ⟨Sub.refl _, trivial⟩ rfl rfl rfl rfl ?_
      repeat (first
        | refine thenA_normal ?_
        | refine r_done' ?_
        | (refine r_id ?_; first
          | refine r_pick_f rfl rfl rfl rfl rfl rfl rfl ?_
          | refine r_ev_on tab_ok rfl rfl rfl rfl rfl rfl (by first | exact trivial | exact ⟨by omega, by omega⟩ | omega) rfl ?_))
      try simp only [ej, hRj, hnj, el1]
      try simp only [ej, hRj, hnj, el1]
      refine awp_cond_n rfl (fun h => absurd hW1 h) (fun _ => ?_)
      repeat (first
        | refine thenA_normal ?_
        | refine a_region ?_
        | refine awp_skip ?_
        | refine r_done ?_
        | (refine r_id ?_; first
          | refine r_ev tab_ok rfl rfl rfl rfl (by first | exact trivial | exact ⟨by omega, by omega⟩ | omega | exact ⟨by omega, by omega, by omega, by omega⟩ | exact Nat.le_of_ble_eq_true rfl) rfl ?_))
      try simp only [ej, hRj, hnj, el1]
      exact ⟨⟨j + 1, hjl⟩, by dsimp only; omega, fits_of rfl (by repeat' first | exact trivial | exact Sub.refl _ | exact rfl | apply And.intro)⟩
    · exact absurd trivial hd0
end Go.Proofs.YtiolnmfaeenlmaaGreatDoor
