/- DefineLast, walked. -/
import Derived.Test.YtihakfihojickaaDoorIg
import Derived.Test.YtihakfihojickaaDoorIa
namespace Go.Proofs.YtihakfihojickaaDoor
open Go Go.RowKit
set_option maxRecDepth 20000

def ciD' (n : Int) : D := .val (.int .i64 n)
def ksF (l : List Int) : List Nat := l.map fun i => (i % 16).toNat
theorem ks_lt (l : List Int) : ∀ k ∈ ksF l, k < 16 := by
  intro k hk
  obtain ⟨i, _, rfl⟩ := List.mem_map.1 hk
  omega
def sxL (l : List Int) : List UInt8 := hdL ++ sgsL (ksF l)
theorem sx_len (l : List Int) : (sxL l).length ≤ 40 + 20 * l.length := by
  have := (sgs_len (ksF l) (ks_lt l)).1
  have e : hdL.length = 32 := rfl
  rw [ksF, List.length_map] at this
  rw [sxL, List.length_append]
  unfold ksF
  omega
theorem sx_snoc (l : List Int) (i : Int) : sxL (l ++ [i]) = sxL l ++ (wd16 (i % 16).toNat ++ [59]) := by
  rw [sxL, sxL, ksF, ksF, List.map_append, sgsL, sgsL, List.map_append, List.flatten_append, List.append_assoc]
  simp [sgL]
def sxX (l : List Int) : Sx := stAll (ksF l)
theorem sxX_snoc (l : List Int) (i : Int) : sxX (l ++ [i]) = stX (sxX l) (i % 16).toNat := by
  rw [sxX, sxX, ksF, ksF, List.map_append, stAll, stAll, List.foldl_append]
  rfl
theorem stX_said (x : Sx) (k : Nat) (h : x.said < 64) : (stX x k).said < 64 := by
  have ho : ∀ k, k < 64 → x.said ||| k < 64 := fun k hk => Nat.or_lt_two_pow (n := 6) h hk
  unfold stX
  split <;> first | exact ho _ (by decide) | exact h
theorem sxX_said (l : List Int) : (sxX l).said < 64 := by
  have : ∀ (ks : List Nat) (x : Sx), x.said < 64 → (ks.foldl stX x).said < 64 := by
    intro ks
    induction ks with
    | nil => exact fun x h => h
    | cons k r ih => exact fun x h => ih _ (stX_said x k h)
  exact this _ _ (by decide)
theorem lst_sz (s : List UInt8) (hS : (⟨s.toArray⟩ : ByteArray).size ≤ 1000) (k : Nat) (hk : k < 16) : ((⟨s.toArray⟩ : ByteArray) ++ (⟨(wd16 k).toArray⟩ : ByteArray)).size ≤ 1020 ∧ ((⟨s.toArray⟩ : ByteArray) ++ (⟨(wd16 k).toArray⟩ : ByteArray) ++ (⟨#[59]⟩ : ByteArray)).size ≤ 1021 ∧ (⟨(wd16 k).toArray⟩ : ByteArray).size ≤ 20 ∧ (⟨#[59]⟩ : ByteArray).size = 1 ∧
    (⟨s.toArray⟩ : ByteArray) ++ (⟨(wd16 k).toArray⟩ : ByteArray) ++ (⟨#[59]⟩ : ByteArray) = ⟨(s ++ (wd16 k ++ [59])).toArray⟩ := by
  have h1 := (sg_len k hk).1
  have h2 : (⟨#[59]⟩ : ByteArray).size = 1 := rfl
  rw [sgL, List.length_append, List.length_singleton] at h1
  rw [ByteArray.size_append, ByteArray.size_append, ByteArray.size_append, sz_list (wd16 k), h2]
  refine ⟨by omega, by omega, by omega, rfl, ?_⟩
  rw [show (⟨#[59]⟩ : ByteArray) = ⟨([59] : List UInt8).toArray⟩ from rfl, bytes_cat, bytes_cat, List.append_assoc]
set_option maxHeartbeats 16000000 in
theorem lawLast (l : List Int) (hl : l.length ≤ 9223372036854775807) : PCalls Tryd.prog 3 [.sl 1 (l.map ciD')] (.val (.bool true)) := by
  refine p_start Tryd.func3 Tryd.ntmps3 rfl rfl rfl fun S w => ?_
  have hlm : (l.map ciD').length = l.length := List.length_map _
  repeat (first | refine awp_seq ?_ | refine thenA_normal ?_ | refine a_region ?_ | refine r_done ?_ | (refine r_id ?_; first | refine r_len tab_ok rfl rfl rfl rfl rfl rfl rfl ?_ | refine r_ev tab_ok rfl rfl rfl rfl byE rfl ?_))
  refine awp_cond_p rfl (fun h => ?_) (fun h => ?_)
  · repeat (first | refine awp_seq ?_ | refine a_region ?_)
    refine r_call awake10_ok call6 rfl rfl trivial rfl rfl rfl rfl ?_
    repeat (first | refine thenA_normal ?_ | refine awp_ret ?_ | refine thenA_ret ?_ | refine r_done ?_ | (refine r_id ?_; first | refine r_ev tab_ok rfl rfl rfl rfl byE rfl ?_) | refine ret1 byO rfl rfl rfl ?_)
    exact Sub.refl _
  repeat (first | refine awp_seq ?_ | refine thenA_normal ?_ | refine awp_block ?_ | refine a_region ?_ | refine awp_skip ?_ | refine r_done ?_ | (refine r_id ?_; first | refine r_ev tab_ok rfl rfl rfl rfl byE rfl ?_ | refine r_built tab_ok rfl rfl rfl rfl rfl rfl rfl rfl rfl ?_))
  refine a_loop (σ := {i : Nat // i ≤ l.length}) (fun x => []) (fun x => [(0, .sl 1 (l.map ciD')), (3, .sl 1 (((List.range 16).map fun k => sF ⟨(wd16 k).toArray⟩))), (4, .val (.string ⟨(sxL (l.take x.1)).toArray⟩)), (5, .val (.string (preX (sxX (l.take x.1)).p))), (6, .val (.string (sufX (sxX (l.take x.1)).s))), (7, .val (.string (negX (sxX (l.take x.1)).n))), (8, .val (.int .i64 (padX (sxX (l.take x.1)).d))), (9, .val (.int .i64 (loX (sxX (l.take x.1)).lo))), (10, .val (.string (falX (sxX (l.take x.1)).f))), (11, .val (.string (sysX (sxX (l.take x.1)).y))), (12, .val (.int .i64 ((sxX (l.take x.1)).said : Nat))), (13, .val (.int .i64 x.1))]) (fun x => l.length - x.1) ⟨0, Nat.zero_le _⟩ (fits_conv byV byV) ?_
  rintro ⟨i, hi⟩
  dsimp only
  have hsd := sxX_said (l.take i)
  have hS : (⟨(sxL (l.take i)).toArray⟩ : ByteArray).size ≤ 1000 := by
    have := sx_len (l.take i)
    rw [sz_list]
    rw [List.length_take] at this
    omega
  repeat (first | refine awp_seq ?_ | refine thenA_normal ?_ | refine a_region ?_ | refine r_done ?_ | (refine r_id ?_; first | refine r_len tab_ok rfl rfl rfl rfl rfl rfl rfl ?_ | refine r_ev tab_ok rfl rfl rfl rfl byE rfl ?_))
  refine awp_cond_p rfl (fun hlt => ?_) (fun hge => ?_)
  · have hi' : i < l.length := by omega
    have et : l.take (i + 1) = l.take i ++ [l[i]] := by rw [List.take_add_one, List.getElem?_eq_getElem hi']; rfl
    have hT := sx_snoc (l.take i) l[i]
    have hX := sxX_snoc (l.take i) l[i]
    rw [← et] at hT hX
    repeat (first | refine awp_seq ?_ | refine awp_block ?_ | refine a_region ?_ | refine awp_skip ?_ | (refine r_id ?_; first | refine r_ev tab_ok rfl rfl rfl rfl byE rfl ?_ | refine r_idx tab_ok rfl rfl rfl rfl rfl rfl rfl (by first | exact ⟨by omega, by omega⟩ | (simp; omega)) rfl rfl ?_))
    simp only [Int.toNat_natCast]
    refine r_call (round_ok l[i] 16 (by decide) (by decide)) call7 rfl rfl ⟨Sub.refl _, Sub.refl _, trivial⟩ rfl rfl rfl rfl ?_
    have hk : 0 ≤ l[i] % 16 ∧ l[i] % 16 < 16 := by omega
    generalize l[i] % 16 = k at hT hX hk ⊢
    generalize sxX (l.take i) = x at hsd hX ⊢
    generalize sxL (l.take i) = s at hS hT ⊢
    have hkk : k = 0 ∨ k = 1 ∨ k = 2 ∨ k = 3 ∨ k = 4 ∨ k = 5 ∨ k = 6 ∨ k = 7 ∨ k = 8 ∨ k = 9 ∨ k = 10 ∨ k = 11 ∨ k = 12 ∨ k = 13 ∨ k = 14 ∨ k = 15 := by omega
    rcases hkk with rfl | rfl | rfl | rfl | rfl | rfl | rfl | rfl | rfl | rfl | rfl | rfl | rfl | rfl | rfl | rfl
    · obtain ⟨z1, z2, z3, z4, hcat⟩ := lst_sz s hS 0 (by decide)
      repeat (first | refine awp_seq ?_ | refine a_region ?_ | refine r_done ?_ | (refine r_id ?_; first | refine r_ev tab_ok rfl rfl rfl rfl byE rfl ?_ | refine r_idxd tab_ok rfl rfl rfl rfl rfl rfl rfl (by decide) rfl rfl rfl ?_))
      refine r_ev tab_ok rfl rfl rfl rfl (Nat.le_trans (Nat.add_le_add hS z3) (by decide)) rfl ?_
      refine r_ev tab_ok rfl rfl rfl rfl (Nat.le_trans (Nat.add_le_add z1 (Nat.le_of_eq z4)) (by decide)) rfl ?_
      repeat (first | refine awp_seq ?_ | refine thenA_normal ?_ | refine awp_block ?_ | refine a_region ?_ | refine r_done ?_ | (refine r_id ?_; first | refine r_ev tab_ok rfl rfl rfl rfl byE rfl ?_) | refine awp_cond_t rfl ?_)
      refine r_orN (k := x.said) (b := 2) rfl rfl rfl rfl (by omega) (by decide) rfl rfl rfl ?_
      repeat (first | refine thenA_normal ?_ | refine a_region ?_ | refine r_done ?_ | (refine r_id ?_; first | refine r_ev tab_ok rfl rfl rfl rfl byE rfl ?_))
      refine ⟨⟨i + 1, hi'⟩, by dsimp only; omega, ?_⟩
      dsimp only
      rw [hT, hX, show Int.toNat 0 = 0 from rfl, ← hcat]
      exact fits_of rfl byK
    · obtain ⟨z1, z2, z3, z4, hcat⟩ := lst_sz s hS 1 (by decide)
      repeat (first | refine awp_seq ?_ | refine a_region ?_ | refine r_done ?_ | (refine r_id ?_; first | refine r_ev tab_ok rfl rfl rfl rfl byE rfl ?_ | refine r_idxd tab_ok rfl rfl rfl rfl rfl rfl rfl (by decide) rfl rfl rfl ?_))
      refine r_ev tab_ok rfl rfl rfl rfl (Nat.le_trans (Nat.add_le_add hS z3) (by decide)) rfl ?_
      refine r_ev tab_ok rfl rfl rfl rfl (Nat.le_trans (Nat.add_le_add z1 (Nat.le_of_eq z4)) (by decide)) rfl ?_
      repeat (first | refine awp_seq ?_ | refine thenA_normal ?_ | refine awp_block ?_ | refine a_region ?_ | refine r_done ?_ | (refine r_id ?_; first | refine r_ev tab_ok rfl rfl rfl rfl byE rfl ?_) | refine awp_cond_t rfl ?_ | refine awp_cond_f rfl ?_)
      refine r_orN (k := x.said) (b := 2) rfl rfl rfl rfl (by omega) (by decide) rfl rfl rfl ?_
      repeat (first | refine thenA_normal ?_ | refine a_region ?_ | refine r_done ?_ | (refine r_id ?_; first | refine r_ev tab_ok rfl rfl rfl rfl byE rfl ?_))
      refine ⟨⟨i + 1, hi'⟩, by dsimp only; omega, ?_⟩
      dsimp only
      rw [hT, hX, show Int.toNat 1 = 1 from rfl, ← hcat]
      exact fits_of rfl byK
    · obtain ⟨z1, z2, z3, z4, hcat⟩ := lst_sz s hS 2 (by decide)
      repeat (first | refine awp_seq ?_ | refine a_region ?_ | refine r_done ?_ | (refine r_id ?_; first | refine r_ev tab_ok rfl rfl rfl rfl byE rfl ?_ | refine r_idxd tab_ok rfl rfl rfl rfl rfl rfl rfl (by decide) rfl rfl rfl ?_))
      refine r_ev tab_ok rfl rfl rfl rfl (Nat.le_trans (Nat.add_le_add hS z3) (by decide)) rfl ?_
      refine r_ev tab_ok rfl rfl rfl rfl (Nat.le_trans (Nat.add_le_add z1 (Nat.le_of_eq z4)) (by decide)) rfl ?_
      repeat (first | refine awp_seq ?_ | refine thenA_normal ?_ | refine awp_block ?_ | refine a_region ?_ | refine awp_skip ?_ | refine r_done ?_ | (refine r_id ?_; first | refine r_ev tab_ok rfl rfl rfl rfl byE rfl ?_) | refine awp_cond_f rfl ?_)
      refine ⟨⟨i + 1, hi'⟩, by dsimp only; omega, ?_⟩
      dsimp only
      rw [hT, hX, show Int.toNat 2 = 2 from rfl, ← hcat]
      exact fits_of rfl byK
    · obtain ⟨z1, z2, z3, z4, hcat⟩ := lst_sz s hS 3 (by decide)
      repeat (first | refine awp_seq ?_ | refine a_region ?_ | refine r_done ?_ | (refine r_id ?_; first | refine r_ev tab_ok rfl rfl rfl rfl byE rfl ?_ | refine r_idxd tab_ok rfl rfl rfl rfl rfl rfl rfl (by decide) rfl rfl rfl ?_))
      refine r_ev tab_ok rfl rfl rfl rfl (Nat.le_trans (Nat.add_le_add hS z3) (by decide)) rfl ?_
      refine r_ev tab_ok rfl rfl rfl rfl (Nat.le_trans (Nat.add_le_add z1 (Nat.le_of_eq z4)) (by decide)) rfl ?_
      repeat (first | refine awp_seq ?_ | refine thenA_normal ?_ | refine awp_block ?_ | refine a_region ?_ | refine awp_skip ?_ | refine r_done ?_ | (refine r_id ?_; first | refine r_ev tab_ok rfl rfl rfl rfl byE rfl ?_) | refine awp_cond_f rfl ?_)
      refine ⟨⟨i + 1, hi'⟩, by dsimp only; omega, ?_⟩
      dsimp only
      rw [hT, hX, show Int.toNat 3 = 3 from rfl, ← hcat]
      exact fits_of rfl byK
    · obtain ⟨z1, z2, z3, z4, hcat⟩ := lst_sz s hS 4 (by decide)
      repeat (first | refine awp_seq ?_ | refine a_region ?_ | refine r_done ?_ | (refine r_id ?_; first | refine r_ev tab_ok rfl rfl rfl rfl byE rfl ?_ | refine r_idxd tab_ok rfl rfl rfl rfl rfl rfl rfl (by decide) rfl rfl rfl ?_))
      refine r_ev tab_ok rfl rfl rfl rfl (Nat.le_trans (Nat.add_le_add hS z3) (by decide)) rfl ?_
      refine r_ev tab_ok rfl rfl rfl rfl (Nat.le_trans (Nat.add_le_add z1 (Nat.le_of_eq z4)) (by decide)) rfl ?_
      repeat (first | refine awp_seq ?_ | refine thenA_normal ?_ | refine awp_block ?_ | refine a_region ?_ | refine r_done ?_ | (refine r_id ?_; first | refine r_ev tab_ok rfl rfl rfl rfl byE rfl ?_) | refine awp_cond_t rfl ?_ | refine awp_cond_f rfl ?_)
      refine r_orN (k := x.said) (b := 4) rfl rfl rfl rfl (by omega) (by decide) rfl rfl rfl ?_
      repeat (first | refine thenA_normal ?_ | refine a_region ?_ | refine r_done ?_ | (refine r_id ?_; first | refine r_ev tab_ok rfl rfl rfl rfl byE rfl ?_))
      refine ⟨⟨i + 1, hi'⟩, by dsimp only; omega, ?_⟩
      dsimp only
      rw [hT, hX, show Int.toNat 4 = 4 from rfl, ← hcat]
      exact fits_of rfl byK
    · obtain ⟨z1, z2, z3, z4, hcat⟩ := lst_sz s hS 5 (by decide)
      repeat (first | refine awp_seq ?_ | refine a_region ?_ | refine r_done ?_ | (refine r_id ?_; first | refine r_ev tab_ok rfl rfl rfl rfl byE rfl ?_ | refine r_idxd tab_ok rfl rfl rfl rfl rfl rfl rfl (by decide) rfl rfl rfl ?_))
      refine r_ev tab_ok rfl rfl rfl rfl (Nat.le_trans (Nat.add_le_add hS z3) (by decide)) rfl ?_
      refine r_ev tab_ok rfl rfl rfl rfl (Nat.le_trans (Nat.add_le_add z1 (Nat.le_of_eq z4)) (by decide)) rfl ?_
      repeat (first | refine awp_seq ?_ | refine thenA_normal ?_ | refine awp_block ?_ | refine a_region ?_ | refine r_done ?_ | (refine r_id ?_; first | refine r_ev tab_ok rfl rfl rfl rfl byE rfl ?_) | refine awp_cond_t rfl ?_ | refine awp_cond_f rfl ?_)
      refine r_orN (k := x.said) (b := 1) rfl rfl rfl rfl (by omega) (by decide) rfl rfl rfl ?_
      repeat (first | refine thenA_normal ?_ | refine a_region ?_ | refine r_done ?_ | (refine r_id ?_; first | refine r_ev tab_ok rfl rfl rfl rfl byE rfl ?_))
      refine ⟨⟨i + 1, hi'⟩, by dsimp only; omega, ?_⟩
      dsimp only
      rw [hT, hX, show Int.toNat 5 = 5 from rfl, ← hcat]
      exact fits_of rfl byK
    · obtain ⟨z1, z2, z3, z4, hcat⟩ := lst_sz s hS 6 (by decide)
      repeat (first | refine awp_seq ?_ | refine a_region ?_ | refine r_done ?_ | (refine r_id ?_; first | refine r_ev tab_ok rfl rfl rfl rfl byE rfl ?_ | refine r_idxd tab_ok rfl rfl rfl rfl rfl rfl rfl (by decide) rfl rfl rfl ?_))
      refine r_ev tab_ok rfl rfl rfl rfl (Nat.le_trans (Nat.add_le_add hS z3) (by decide)) rfl ?_
      refine r_ev tab_ok rfl rfl rfl rfl (Nat.le_trans (Nat.add_le_add z1 (Nat.le_of_eq z4)) (by decide)) rfl ?_
      repeat (first | refine awp_seq ?_ | refine thenA_normal ?_ | refine awp_block ?_ | refine a_region ?_ | refine awp_skip ?_ | refine r_done ?_ | (refine r_id ?_; first | refine r_ev tab_ok rfl rfl rfl rfl byE rfl ?_) | refine awp_cond_f rfl ?_)
      refine ⟨⟨i + 1, hi'⟩, by dsimp only; omega, ?_⟩
      dsimp only
      rw [hT, hX, show Int.toNat 6 = 6 from rfl, ← hcat]
      exact fits_of rfl byK
    · obtain ⟨z1, z2, z3, z4, hcat⟩ := lst_sz s hS 7 (by decide)
      repeat (first | refine awp_seq ?_ | refine a_region ?_ | refine r_done ?_ | (refine r_id ?_; first | refine r_ev tab_ok rfl rfl rfl rfl byE rfl ?_ | refine r_idxd tab_ok rfl rfl rfl rfl rfl rfl rfl (by decide) rfl rfl rfl ?_))
      refine r_ev tab_ok rfl rfl rfl rfl (Nat.le_trans (Nat.add_le_add hS z3) (by decide)) rfl ?_
      refine r_ev tab_ok rfl rfl rfl rfl (Nat.le_trans (Nat.add_le_add z1 (Nat.le_of_eq z4)) (by decide)) rfl ?_
      repeat (first | refine awp_seq ?_ | refine thenA_normal ?_ | refine awp_block ?_ | refine a_region ?_ | refine r_done ?_ | (refine r_id ?_; first | refine r_ev tab_ok rfl rfl rfl rfl byE rfl ?_) | refine awp_cond_t rfl ?_ | refine awp_cond_f rfl ?_)
      refine r_orN (k := x.said) (b := 16) rfl rfl rfl rfl (by omega) (by decide) rfl rfl rfl ?_
      repeat (first | refine thenA_normal ?_ | refine a_region ?_ | refine r_done ?_ | (refine r_id ?_; first | refine r_ev tab_ok rfl rfl rfl rfl byE rfl ?_))
      refine ⟨⟨i + 1, hi'⟩, by dsimp only; omega, ?_⟩
      dsimp only
      rw [hT, hX, show Int.toNat 7 = 7 from rfl, ← hcat]
      exact fits_of rfl byK
    · obtain ⟨z1, z2, z3, z4, hcat⟩ := lst_sz s hS 8 (by decide)
      repeat (first | refine awp_seq ?_ | refine a_region ?_ | refine r_done ?_ | (refine r_id ?_; first | refine r_ev tab_ok rfl rfl rfl rfl byE rfl ?_ | refine r_idxd tab_ok rfl rfl rfl rfl rfl rfl rfl (by decide) rfl rfl rfl ?_))
      refine r_ev tab_ok rfl rfl rfl rfl (Nat.le_trans (Nat.add_le_add hS z3) (by decide)) rfl ?_
      refine r_ev tab_ok rfl rfl rfl rfl (Nat.le_trans (Nat.add_le_add z1 (Nat.le_of_eq z4)) (by decide)) rfl ?_
      repeat (first | refine awp_seq ?_ | refine thenA_normal ?_ | refine awp_block ?_ | refine a_region ?_ | refine awp_skip ?_ | refine r_done ?_ | (refine r_id ?_; first | refine r_ev tab_ok rfl rfl rfl rfl byE rfl ?_) | refine awp_cond_f rfl ?_)
      refine ⟨⟨i + 1, hi'⟩, by dsimp only; omega, ?_⟩
      dsimp only
      rw [hT, hX, show Int.toNat 8 = 8 from rfl, ← hcat]
      exact fits_of rfl byK
    · obtain ⟨z1, z2, z3, z4, hcat⟩ := lst_sz s hS 9 (by decide)
      repeat (first | refine awp_seq ?_ | refine a_region ?_ | refine r_done ?_ | (refine r_id ?_; first | refine r_ev tab_ok rfl rfl rfl rfl byE rfl ?_ | refine r_idxd tab_ok rfl rfl rfl rfl rfl rfl rfl (by decide) rfl rfl rfl ?_))
      refine r_ev tab_ok rfl rfl rfl rfl (Nat.le_trans (Nat.add_le_add hS z3) (by decide)) rfl ?_
      refine r_ev tab_ok rfl rfl rfl rfl (Nat.le_trans (Nat.add_le_add z1 (Nat.le_of_eq z4)) (by decide)) rfl ?_
      repeat (first | refine awp_seq ?_ | refine thenA_normal ?_ | refine awp_block ?_ | refine a_region ?_ | refine awp_skip ?_ | refine r_done ?_ | (refine r_id ?_; first | refine r_ev tab_ok rfl rfl rfl rfl byE rfl ?_) | refine awp_cond_f rfl ?_)
      refine ⟨⟨i + 1, hi'⟩, by dsimp only; omega, ?_⟩
      dsimp only
      rw [hT, hX, show Int.toNat 9 = 9 from rfl, ← hcat]
      exact fits_of rfl byK
    · obtain ⟨z1, z2, z3, z4, hcat⟩ := lst_sz s hS 10 (by decide)
      repeat (first | refine awp_seq ?_ | refine a_region ?_ | refine r_done ?_ | (refine r_id ?_; first | refine r_ev tab_ok rfl rfl rfl rfl byE rfl ?_ | refine r_idxd tab_ok rfl rfl rfl rfl rfl rfl rfl (by decide) rfl rfl rfl ?_))
      refine r_ev tab_ok rfl rfl rfl rfl (Nat.le_trans (Nat.add_le_add hS z3) (by decide)) rfl ?_
      refine r_ev tab_ok rfl rfl rfl rfl (Nat.le_trans (Nat.add_le_add z1 (Nat.le_of_eq z4)) (by decide)) rfl ?_
      repeat (first | refine awp_seq ?_ | refine thenA_normal ?_ | refine awp_block ?_ | refine a_region ?_ | refine r_done ?_ | (refine r_id ?_; first | refine r_ev tab_ok rfl rfl rfl rfl byE rfl ?_) | refine awp_cond_t rfl ?_ | refine awp_cond_f rfl ?_)
      refine r_orN (k := x.said) (b := 8) rfl rfl rfl rfl (by omega) (by decide) rfl rfl rfl ?_
      repeat (first | refine thenA_normal ?_ | refine a_region ?_ | refine r_done ?_ | (refine r_id ?_; first | refine r_ev tab_ok rfl rfl rfl rfl byE rfl ?_))
      refine ⟨⟨i + 1, hi'⟩, by dsimp only; omega, ?_⟩
      dsimp only
      rw [hT, hX, show Int.toNat 10 = 10 from rfl, ← hcat]
      exact fits_of rfl byK
    · obtain ⟨z1, z2, z3, z4, hcat⟩ := lst_sz s hS 11 (by decide)
      repeat (first | refine awp_seq ?_ | refine a_region ?_ | refine r_done ?_ | (refine r_id ?_; first | refine r_ev tab_ok rfl rfl rfl rfl byE rfl ?_ | refine r_idxd tab_ok rfl rfl rfl rfl rfl rfl rfl (by decide) rfl rfl rfl ?_))
      refine r_ev tab_ok rfl rfl rfl rfl (Nat.le_trans (Nat.add_le_add hS z3) (by decide)) rfl ?_
      refine r_ev tab_ok rfl rfl rfl rfl (Nat.le_trans (Nat.add_le_add z1 (Nat.le_of_eq z4)) (by decide)) rfl ?_
      repeat (first | refine awp_seq ?_ | refine thenA_normal ?_ | refine awp_block ?_ | refine a_region ?_ | refine awp_skip ?_ | refine r_done ?_ | (refine r_id ?_; first | refine r_ev tab_ok rfl rfl rfl rfl byE rfl ?_) | refine awp_cond_f rfl ?_)
      refine ⟨⟨i + 1, hi'⟩, by dsimp only; omega, ?_⟩
      dsimp only
      rw [hT, hX, show Int.toNat 11 = 11 from rfl, ← hcat]
      exact fits_of rfl byK
    · obtain ⟨z1, z2, z3, z4, hcat⟩ := lst_sz s hS 12 (by decide)
      repeat (first | refine awp_seq ?_ | refine a_region ?_ | refine r_done ?_ | (refine r_id ?_; first | refine r_ev tab_ok rfl rfl rfl rfl byE rfl ?_ | refine r_idxd tab_ok rfl rfl rfl rfl rfl rfl rfl (by decide) rfl rfl rfl ?_))
      refine r_ev tab_ok rfl rfl rfl rfl (Nat.le_trans (Nat.add_le_add hS z3) (by decide)) rfl ?_
      refine r_ev tab_ok rfl rfl rfl rfl (Nat.le_trans (Nat.add_le_add z1 (Nat.le_of_eq z4)) (by decide)) rfl ?_
      repeat (first | refine awp_seq ?_ | refine thenA_normal ?_ | refine awp_block ?_ | refine a_region ?_ | refine r_done ?_ | (refine r_id ?_; first | refine r_ev tab_ok rfl rfl rfl rfl byE rfl ?_) | refine awp_cond_t rfl ?_ | refine awp_cond_f rfl ?_)
      refine r_orN (k := x.said) (b := 8) rfl rfl rfl rfl (by omega) (by decide) rfl rfl rfl ?_
      repeat (first | refine thenA_normal ?_ | refine a_region ?_ | refine r_done ?_ | (refine r_id ?_; first | refine r_ev tab_ok rfl rfl rfl rfl byE rfl ?_))
      refine ⟨⟨i + 1, hi'⟩, by dsimp only; omega, ?_⟩
      dsimp only
      rw [hT, hX, show Int.toNat 12 = 12 from rfl, ← hcat]
      exact fits_of rfl byK
    · obtain ⟨z1, z2, z3, z4, hcat⟩ := lst_sz s hS 13 (by decide)
      repeat (first | refine awp_seq ?_ | refine a_region ?_ | refine r_done ?_ | (refine r_id ?_; first | refine r_ev tab_ok rfl rfl rfl rfl byE rfl ?_ | refine r_idxd tab_ok rfl rfl rfl rfl rfl rfl rfl (by decide) rfl rfl rfl ?_))
      refine r_ev tab_ok rfl rfl rfl rfl (Nat.le_trans (Nat.add_le_add hS z3) (by decide)) rfl ?_
      refine r_ev tab_ok rfl rfl rfl rfl (Nat.le_trans (Nat.add_le_add z1 (Nat.le_of_eq z4)) (by decide)) rfl ?_
      repeat (first | refine awp_seq ?_ | refine thenA_normal ?_ | refine awp_block ?_ | refine a_region ?_ | refine r_done ?_ | (refine r_id ?_; first | refine r_ev tab_ok rfl rfl rfl rfl byE rfl ?_) | refine awp_cond_t rfl ?_ | refine awp_cond_f rfl ?_)
      refine r_orN (k := x.said) (b := 32) rfl rfl rfl rfl (by omega) (by decide) rfl rfl rfl ?_
      repeat (first | refine thenA_normal ?_ | refine a_region ?_ | refine r_done ?_ | (refine r_id ?_; first | refine r_ev tab_ok rfl rfl rfl rfl byE rfl ?_))
      refine ⟨⟨i + 1, hi'⟩, by dsimp only; omega, ?_⟩
      dsimp only
      rw [hT, hX, show Int.toNat 13 = 13 from rfl, ← hcat]
      exact fits_of rfl byK
    · obtain ⟨z1, z2, z3, z4, hcat⟩ := lst_sz s hS 14 (by decide)
      repeat (first | refine awp_seq ?_ | refine a_region ?_ | refine r_done ?_ | (refine r_id ?_; first | refine r_ev tab_ok rfl rfl rfl rfl byE rfl ?_ | refine r_idxd tab_ok rfl rfl rfl rfl rfl rfl rfl (by decide) rfl rfl rfl ?_))
      refine r_ev tab_ok rfl rfl rfl rfl (Nat.le_trans (Nat.add_le_add hS z3) (by decide)) rfl ?_
      refine r_ev tab_ok rfl rfl rfl rfl (Nat.le_trans (Nat.add_le_add z1 (Nat.le_of_eq z4)) (by decide)) rfl ?_
      repeat (first | refine awp_seq ?_ | refine thenA_normal ?_ | refine awp_block ?_ | refine a_region ?_ | refine awp_skip ?_ | refine r_done ?_ | (refine r_id ?_; first | refine r_ev tab_ok rfl rfl rfl rfl byE rfl ?_) | refine awp_cond_f rfl ?_)
      refine ⟨⟨i + 1, hi'⟩, by dsimp only; omega, ?_⟩
      dsimp only
      rw [hT, hX, show Int.toNat 14 = 14 from rfl, ← hcat]
      exact fits_of rfl byK
    · obtain ⟨z1, z2, z3, z4, hcat⟩ := lst_sz s hS 15 (by decide)
      repeat (first | refine awp_seq ?_ | refine a_region ?_ | refine r_done ?_ | (refine r_id ?_; first | refine r_ev tab_ok rfl rfl rfl rfl byE rfl ?_ | refine r_idxd tab_ok rfl rfl rfl rfl rfl rfl rfl (by decide) rfl rfl rfl ?_))
      refine r_ev tab_ok rfl rfl rfl rfl (Nat.le_trans (Nat.add_le_add hS z3) (by decide)) rfl ?_
      refine r_ev tab_ok rfl rfl rfl rfl (Nat.le_trans (Nat.add_le_add z1 (Nat.le_of_eq z4)) (by decide)) rfl ?_
      repeat (first | refine awp_seq ?_ | refine thenA_normal ?_ | refine awp_block ?_ | refine a_region ?_ | refine r_done ?_ | (refine r_id ?_; first | refine r_ev tab_ok rfl rfl rfl rfl byE rfl ?_) | refine awp_cond_t rfl ?_ | refine awp_cond_f rfl ?_)
      refine ⟨⟨i + 1, hi'⟩, by dsimp only; omega, ?_⟩
      dsimp only
      rw [hT, hX, show Int.toNat 15 = 15 from rfl, ← hcat]
      exact fits_of rfl byK
  · have hie : i = l.length := by omega
    subst hie
    rw [List.take_length] at hS hsd ⊢
    have hcat : (⟨(sxL l).toArray⟩ : ByteArray) ++ (⟨#[125]⟩ : ByteArray) = ⟨(txF (ksF l)).toArray⟩ := by
      rw [show (⟨#[125]⟩ : ByteArray) = ⟨([125] : List UInt8).toArray⟩ from rfl, bytes_cat]; rfl
    have hz2 : (⟨#[125]⟩ : ByteArray).size = 1 := rfl
    have hz : ((⟨(sxL l).toArray⟩ : ByteArray) ++ (⟨#[125]⟩ : ByteArray)).size ≤ 1001 := by
      rw [ByteArray.size_append, show (⟨#[125]⟩ : ByteArray).size = 1 from rfl]; omega
    have hkl : (ksF l).length ≤ 20 := by rw [ksF, List.length_map]; omega
    have hone := one10_at (v := stE (sxX l)) (e := 0) ⟨tx_okSh (ksF l) (ks_lt l) hkl, by rw [tx_sht (ksF l) (ks_lt l), List.all_cons, tx_okR (ksF l) (ks_lt l) hkl]; rfl, tx_one (ksF l) (ks_lt l)⟩
    rw [← hcat] at hone
    repeat (first | refine awp_seq ?_ | refine a_region ?_ | refine awp_exit ?_ | (refine r_id ?_; first | refine r_ev tab_ok rfl rfl rfl rfl byE rfl ?_))
    refine r_call hone call8 rfl rfl ⟨Sub.refl _, trivial⟩ rfl rfl rfl rfl ?_
    clear hone hcat hz
    generalize sxX l = x at hsd ⊢
    obtain ⟨p, s, n, d, lo, f, y, said⟩ := x
    cases lo with
    | false =>
      repeat (first | refine awp_seq ?_ | refine a_region ?_ | refine r_done ?_ | (refine r_id ?_; first | refine r_ev tab_ok rfl rfl rfl rfl byE rfl ?_ | refine r_ld tab_ok rfl rfl rfl rfl rfl ?_ | refine r_wr tab_ok rfl rfl rfl rfl rfl ?_ | refine r_st tab_ok rfl rfl rfl rfl ?_ | refine r_pick_t rfl rfl rfl rfl rfl rfl rfl ?_ | refine r_off rfl rfl rfl rfl rfl rfl ?_ | refine r_ev_on tab_ok rfl rfl rfl rfl rfl rfl (by first | exact trivial | exact ⟨by omega, by omega⟩ | omega) rfl ?_ | refine r_ld_on tab_ok rfl rfl rfl rfl rfl rfl rfl ?_ | refine r_idxa tab_ok rfl rfl rfl rfl (by decide) rfl rfl rfl rfl ?_) | refine r_g rfl rfl (congrArg (fun b => AV.val (.bool b)) (decide_eq_true rfl)) ?_ | refine r_pick_t rfl rfl (congrArg (fun b => AV.val (.bool b)) (decide_eq_true rfl)) rfl rfl rfl rfl ?_)
      repeat refine r_offu rfl rfl rfl rfl rfl rfl ?_
      repeat (first | (refine r_id ?_; first | refine r_ev tab_ok rfl rfl rfl rfl byE rfl ?_ | refine r_ld tab_ok rfl rfl rfl rfl rfl ?_ | refine r_pick_t rfl rfl rfl rfl rfl rfl rfl ?_ | refine r_off rfl rfl rfl rfl rfl rfl ?_ | refine r_ev_on tab_ok rfl rfl rfl rfl rfl rfl (by first | exact trivial | exact ⟨by omega, by omega⟩ | omega) rfl ?_ | refine r_ld_on tab_ok rfl rfl rfl rfl rfl rfl rfl ?_) | refine r_g rfl rfl rfl ?_ | refine r_g rfl rfl (congrArg (fun b => AV.val (.bool b)) (decide_eq_true rfl)) ?_ | refine r_pick_t rfl rfl (congrArg (fun b => AV.val (.bool b)) (decide_eq_true rfl)) rfl rfl rfl rfl ?_)
      refine r_call awake10_ok call6 rfl rfl trivial rfl rfl rfl rfl ?_
      repeat (first | refine thenA_normal ?_ | refine awp_ret ?_ | refine r_done ?_ | (refine r_id ?_; first | refine r_ev tab_ok rfl rfl rfl rfl byE rfl ?_) | refine ret1 byO rfl rfl rfl ?_ | refine r_pick_t rfl rfl (congrArg (fun b => AV.val (.bool b)) (decide_eq_true rfl)) rfl rfl rfl rfl ?_)
      exact Sub.refl _
    | true =>
      repeat (first | refine awp_seq ?_ | refine a_region ?_ | refine r_done ?_ | (refine r_id ?_; first | refine r_ev tab_ok rfl rfl rfl rfl byE rfl ?_ | refine r_ld tab_ok rfl rfl rfl rfl rfl ?_ | refine r_idxd tab_ok rfl rfl rfl rfl rfl rfl rfl (by decide) rfl rfl rfl ?_ | refine r_wr tab_ok rfl rfl rfl rfl rfl ?_ | refine r_st tab_ok rfl rfl rfl rfl ?_ | refine r_pick_t rfl rfl rfl rfl rfl rfl rfl ?_ | refine r_len_on tab_ok rfl rfl rfl rfl rfl rfl rfl rfl rfl ?_ | refine r_ev_on tab_ok rfl rfl rfl rfl rfl rfl (by first | exact trivial | exact ⟨by omega, by omega⟩ | omega) rfl ?_ | refine r_ld_on tab_ok rfl rfl rfl rfl rfl rfl rfl ?_ | refine r_build tab_ok rfl rfl rfl rfl rfl rfl ?_ | refine r_idxa tab_ok rfl rfl rfl rfl (by decide) rfl rfl rfl rfl ?_) | refine r_g rfl rfl rfl ?_ | refine r_g rfl rfl (congrArg (fun b => AV.val (.bool b)) (decide_eq_true rfl)) ?_ | refine r_pick_t rfl rfl (congrArg (fun b => AV.val (.bool b)) (decide_eq_true rfl)) rfl rfl rfl rfl ?_)
      refine r_eqRg (2, 5) rfl rfl rfl rfl rfl rfl rfl ?_
      repeat (first | (refine r_id ?_; first | refine r_ev tab_ok rfl rfl rfl rfl byE rfl ?_ | refine r_ld tab_ok rfl rfl rfl rfl rfl ?_ | refine r_pick_t rfl rfl rfl rfl rfl rfl rfl ?_ | refine r_pick_f rfl rfl rfl rfl rfl rfl rfl ?_ | refine r_ev_on tab_ok rfl rfl rfl rfl rfl rfl (by first | exact trivial | exact ⟨by omega, by omega⟩ | omega) rfl ?_ | refine r_ld_on tab_ok rfl rfl rfl rfl rfl rfl rfl ?_) | refine r_g rfl rfl rfl ?_ | refine r_g rfl rfl (congrArg (fun b => AV.val (.bool b)) (decide_eq_true rfl)) ?_ | refine r_pick_t rfl rfl (congrArg (fun b => AV.val (.bool b)) (decide_eq_true rfl)) rfl rfl rfl rfl ?_)
      refine r_call awake10_ok call6 rfl rfl trivial rfl rfl rfl rfl ?_
      repeat (first | refine thenA_normal ?_ | refine awp_ret ?_ | refine r_done ?_ | (refine r_id ?_; first | refine r_ev tab_ok rfl rfl rfl rfl byE rfl ?_) | refine ret1 byO rfl rfl rfl ?_ | refine r_pick_t rfl rfl (congrArg (fun b => AV.val (.bool b)) (decide_eq_true rfl)) rfl rfl rfl rfl ?_)
      exact Sub.refl _
end Go.Proofs.YtihakfihojickaaDoor
