/- RulesDecls, walked. -/
import Derived.Test.YtiolnmfaeenlmaaGreatDoorRp
import Derived.Test.YtiolnmfaeenlmaaGreatDoorRl
namespace Go.Proofs.YtiolnmfaeenlmaaGreatDoor
open Go Go.RowKit
set_option maxRecDepth 20000

def ciD' (n : Int) : D := .val (.int .i64 n)
def kqF (l : List Int) : List Nat := (l.map fun i => (i % 10).toNat).filter fun k => decide (k ≠ 7)
theorem kq_ok (l : List Int) : ∀ k ∈ kqF l, ok4 k := by
  intro k hk
  obtain ⟨h1, h2⟩ := List.mem_filter.1 hk
  obtain ⟨i, _, rfl⟩ := List.mem_map.1 h1
  exact ⟨by omega, of_decide_eq_true h2⟩
theorem kq_len (l : List Int) : (kqF l).length ≤ l.length := Nat.le_trans (List.length_filter_le _ _) (by rw [List.length_map]; exact Nat.le_refl _)
theorem kq_snoc (l : List Int) (i : Int) : kqF (l ++ [i]) = kqF l ++ (if (i % 10).toNat = 7 then [] else [(i % 10).toNat]) := by
  rw [kqF, kqF, List.map_append, List.filter_append]
  congr 1
  show List.filter _ [(i % 10).toNat] = _
  rw [List.filter_cons, List.filter_nil]
  by_cases h : (i % 10).toNat = 7
  · rw [if_pos h, decide_eq_false (fun g => g h), if_neg Bool.false_ne_true]
  · rw [if_neg h, decide_eq_true h, if_pos rfl]
theorem t4L_snoc (ks : List Nat) (k : Nat) : t4L (ks ++ [k]) = t4L ks ++ (wd10 k ++ [32, 59, 32]) := by rw [t4L, t4L, List.map_append, List.flatten_append]; simp
theorem t4D_snoc (ks : List Nat) (k : Nat) : t4D (ks ++ [k]) = t4D ks ++ s4D k := by rw [t4D, t4D, List.map_append, List.flatten_append]; simp
theorem d4_sz (s : List UInt8) (hS : (⟨s.toArray⟩ : ByteArray).size ≤ 1000) (k : Nat) (hk : ok4 k) : (⟨(wd10 k).toArray⟩ : ByteArray).size ≤ 20 ∧ ((⟨s.toArray⟩ : ByteArray) ++ (⟨(wd10 k).toArray⟩ : ByteArray)).size ≤ 1020 ∧ (⟨#[32, 59, 32]⟩ : ByteArray).size = 3 ∧
    (⟨s.toArray⟩ : ByteArray) ++ (⟨(wd10 k).toArray⟩ : ByteArray) ++ (⟨#[32, 59, 32]⟩ : ByteArray) = ⟨(s ++ (wd10 k ++ [32, 59, 32])).toArray⟩ := by
  have h1 := (s4_pl k hk).2.1
  refine ⟨by rw [sz_list]; exact h1, by rw [ByteArray.size_append, sz_list (wd10 k)]; omega, rfl, ?_⟩
  rw [show (⟨#[32, 59, 32]⟩ : ByteArray) = ⟨([32, 59, 32] : List UInt8).toArray⟩ from rfl, bytes_cat, bytes_cat, List.append_assoc]
def nmR (ds : List Dc) : List D := ds.map fun d => sF d.name
set_option maxHeartbeats 16000000 in
theorem lawDecls (l : List Int) (hl : l.length ≤ 9223372036854775807) : PCalls Tryz.prog 8 [.sl 1 (l.map ciD')] (.val (.bool true)) := by
  refine p_start Tryz.func8 Tryz.ntmps8 rfl rfl rfl fun S w => ?_
  have hlm : (l.map ciD').length = l.length := List.length_map _
  repeat (first | refine awp_seq ?_ | refine thenA_normal ?_ | refine a_region ?_ | refine r_done ?_ | (refine r_id ?_; first | refine r_len tab_ok rfl rfl rfl rfl rfl rfl rfl ?_ | refine r_ev tab_ok rfl rfl rfl rfl byE rfl ?_))
  refine awp_cond_p rfl (fun h => ?_) (fun h => ?_)
  · repeat (first | refine awp_seq ?_ | refine a_region ?_)
    refine r_call awake4_ok call11 rfl rfl trivial rfl rfl rfl rfl ?_
    repeat (first | refine thenA_normal ?_ | refine awp_ret ?_ | refine thenA_ret ?_ | refine r_done ?_ | (refine r_id ?_; first | refine r_ev tab_ok rfl rfl rfl rfl byE rfl ?_) | refine ret1 byO rfl rfl rfl ?_)
    exact Sub.refl _
  repeat (first | refine awp_seq ?_ | refine thenA_normal ?_ | refine awp_block ?_ | refine a_region ?_ | refine awp_skip ?_ | refine r_done ?_ | (refine r_id ?_; first | refine r_ev tab_ok rfl rfl rfl rfl byE rfl ?_ | refine r_built tab_ok rfl rfl rfl rfl rfl rfl rfl rfl rfl ?_))
  refine a_loop (σ := {i : Nat // i ≤ l.length}) (fun x => [.row 0 9 1 (nmR (t4D (kqF (l.take x.1))))]) (fun x => [(0, .sl 1 (l.map ciD')), (3, .sl 1 ((List.range 10).map fun k => sF ⟨(wd10 k).toArray⟩)), (4, .sl 1 ((List.range 10).map fun k => sF (nm10 k))), (5, .val (.string ⟨(t4L (kqF (l.take x.1))).toArray⟩)), (6, .row 0 0), (7, .val (.int .i64 x.1))]) (fun x => l.length - x.1) ⟨0, Nat.zero_le _⟩ (fits_conv byV byV) ?_
  rintro ⟨i, hi⟩
  dsimp only
  have hkl : (kqF (l.take i)).length ≤ 20 := Nat.le_trans (kq_len _) (by rw [List.length_take]; omega)
  have hpl := t4_pl (kqF (l.take i)) (kq_ok _)
  have hS : (⟨(t4L (kqF (l.take i))).toArray⟩ : ByteArray).size ≤ 1000 := by rw [sz_list]; omega
  have hR : (nmR (t4D (kqF (l.take i)))).length ≤ 20 := by
    have hd : ∀ ks : List Nat, (∀ k ∈ ks, ok4 k) → (t4D ks).length ≤ ks.length := by
      intro ks
      induction ks with
      | nil => exact fun _ => Nat.le_refl _
      | cons k r ih =>
        intro h
        have h1 := ih (fun j hj => h j (List.mem_cons_of_mem _ hj))
        have h2 : (s4D k).length ≤ 1 := by
          have := congrArg List.length (s4_fine k (h k (by simp))).2
          rw [List.length_map] at this
          rw [this]
          split
          · exact Nat.zero_le _
          · exact Nat.le_refl _
        rw [show t4D (k :: r) = s4D k ++ t4D r from rfl, List.length_append, List.length_cons]
        omega
    rw [nmR, List.length_map]
    exact Nat.le_trans (hd _ (kq_ok _)) hkl
  repeat (first | refine awp_seq ?_ | refine thenA_normal ?_ | refine a_region ?_ | refine r_done ?_ | (refine r_id ?_; first | refine r_len tab_ok rfl rfl rfl rfl rfl rfl rfl ?_ | refine r_ev tab_ok rfl rfl rfl rfl byE rfl ?_))
  refine awp_cond_p rfl (fun hlt => ?_) (fun hge => ?_)
  · have hi' : i < l.length := by omega
    have et : l.take (i + 1) = l.take i ++ [l[i]] := by rw [List.take_add_one, List.getElem?_eq_getElem hi']; rfl
    have hK := kq_snoc (l.take i) l[i]
    rw [← et] at hK
    repeat (first | refine awp_seq ?_ | refine awp_block ?_ | refine a_region ?_ | refine awp_skip ?_ | (refine r_id ?_; first | refine r_ev tab_ok rfl rfl rfl rfl byE rfl ?_ | refine r_idx tab_ok rfl rfl rfl rfl rfl rfl rfl (by first | exact ⟨by omega, by omega⟩ | (simp; omega)) rfl rfl ?_))
    simp only [Int.toNat_natCast]
    refine r_call (round_ok l[i] 10 (by decide) (by decide)) call22 rfl rfl ⟨Sub.refl _, Sub.refl _, trivial⟩ rfl rfl rfl rfl ?_
    have hk : 0 ≤ l[i] % 10 ∧ l[i] % 10 < 10 := by omega
    generalize l[i] % 10 = k at hK hk ⊢
    generalize kqF (l.take i) = ks at hS hR hK hkl hpl ⊢
    have hLs := t4L_snoc ks
    have hDs := t4D_snoc ks
    generalize hs0 : t4L ks = s at hS hLs hpl ⊢
    generalize hd0 : t4D ks = dd at hR hDs ⊢
    have hnm : ∀ x : List Dc, nmR (dd ++ x) = nmR dd ++ nmR x := fun x => List.map_append
    have hkk : k = 0 ∨ k = 1 ∨ k = 2 ∨ k = 3 ∨ k = 4 ∨ k = 5 ∨ k = 6 ∨ k = 7 ∨ k = 8 ∨ k = 9 := by omega
    rcases hkk with rfl | rfl | rfl | rfl | rfl | rfl | rfl | rfl | rfl | rfl
    · have hK2 : kqF (l.take (i + 1)) = ks ++ [0] := hK
      obtain ⟨z1, z2, z3, hcat⟩ := d4_sz s hS 0 ⟨by decide, by decide⟩
      repeat (first | refine awp_seq ?_ | refine thenA_normal ?_ | refine a_region ?_ | refine awp_skip ?_ | refine r_done ?_ | (refine r_id ?_; first | refine r_ev tab_ok rfl rfl rfl rfl byE rfl ?_ | refine r_idxd tab_ok rfl rfl rfl rfl rfl rfl rfl (by decide) rfl rfl rfl ?_) | refine awp_cond_f rfl ?_)
      refine r_ev tab_ok rfl rfl rfl rfl (Nat.le_trans (Nat.add_le_add hS z1) (by decide)) rfl ?_
      refine r_ev tab_ok rfl rfl rfl rfl (Nat.le_trans (Nat.add_le_add z2 (Nat.le_of_eq z3)) (by decide)) rfl ?_
      repeat (first | refine awp_seq ?_ | refine thenA_normal ?_ | refine a_region ?_ | refine r_done ?_ | (refine r_id ?_; first | refine r_ev tab_ok rfl rfl rfl rfl byE rfl ?_ | refine r_idxd tab_ok rfl rfl rfl rfl rfl rfl rfl (by decide) rfl rfl rfl ?_ | refine r_built tab_ok rfl rfl rfl rfl rfl rfl rfl rfl rfl ?_ | refine r_append tab_ok rfl rfl rfl rfl rfl rfl rfl rfl rfl (by first | omega | (simp; omega)) rfl ?_) | refine awp_cond_t rfl ?_)
      refine ⟨⟨i + 1, hi'⟩, by dsimp only; omega, ?_⟩
      dsimp only
      rw [hK2, hLs, hDs, ← hcat, hnm]
      exact fits_conv byV byV
    · have hK2 : kqF (l.take (i + 1)) = ks ++ [1] := hK
      obtain ⟨z1, z2, z3, hcat⟩ := d4_sz s hS 1 ⟨by decide, by decide⟩
      repeat (first | refine awp_seq ?_ | refine thenA_normal ?_ | refine a_region ?_ | refine awp_skip ?_ | refine r_done ?_ | (refine r_id ?_; first | refine r_ev tab_ok rfl rfl rfl rfl byE rfl ?_ | refine r_idxd tab_ok rfl rfl rfl rfl rfl rfl rfl (by decide) rfl rfl rfl ?_) | refine awp_cond_f rfl ?_)
      refine r_ev tab_ok rfl rfl rfl rfl (Nat.le_trans (Nat.add_le_add hS z1) (by decide)) rfl ?_
      refine r_ev tab_ok rfl rfl rfl rfl (Nat.le_trans (Nat.add_le_add z2 (Nat.le_of_eq z3)) (by decide)) rfl ?_
      repeat (first | refine awp_seq ?_ | refine thenA_normal ?_ | refine a_region ?_ | refine r_done ?_ | (refine r_id ?_; first | refine r_ev tab_ok rfl rfl rfl rfl byE rfl ?_ | refine r_idxd tab_ok rfl rfl rfl rfl rfl rfl rfl (by decide) rfl rfl rfl ?_ | refine r_built tab_ok rfl rfl rfl rfl rfl rfl rfl rfl rfl ?_ | refine r_append tab_ok rfl rfl rfl rfl rfl rfl rfl rfl rfl (by first | omega | (simp; omega)) rfl ?_) | refine awp_cond_t rfl ?_)
      refine ⟨⟨i + 1, hi'⟩, by dsimp only; omega, ?_⟩
      dsimp only
      rw [hK2, hLs, hDs, ← hcat, hnm]
      exact fits_conv byV byV
    · have hK2 : kqF (l.take (i + 1)) = ks ++ [2] := hK
      obtain ⟨z1, z2, z3, hcat⟩ := d4_sz s hS 2 ⟨by decide, by decide⟩
      repeat (first | refine awp_seq ?_ | refine thenA_normal ?_ | refine a_region ?_ | refine awp_skip ?_ | refine r_done ?_ | (refine r_id ?_; first | refine r_ev tab_ok rfl rfl rfl rfl byE rfl ?_ | refine r_idxd tab_ok rfl rfl rfl rfl rfl rfl rfl (by decide) rfl rfl rfl ?_) | refine awp_cond_f rfl ?_)
      refine r_ev tab_ok rfl rfl rfl rfl (Nat.le_trans (Nat.add_le_add hS z1) (by decide)) rfl ?_
      refine r_ev tab_ok rfl rfl rfl rfl (Nat.le_trans (Nat.add_le_add z2 (Nat.le_of_eq z3)) (by decide)) rfl ?_
      repeat (first | refine awp_seq ?_ | refine thenA_normal ?_ | refine a_region ?_ | refine awp_skip ?_ | refine r_done ?_ | (refine r_id ?_; first | refine r_ev tab_ok rfl rfl rfl rfl byE rfl ?_ | refine r_idxd tab_ok rfl rfl rfl rfl rfl rfl rfl (by decide) rfl rfl rfl ?_) | refine awp_cond_f rfl ?_)
      refine ⟨⟨i + 1, hi'⟩, by dsimp only; omega, ?_⟩
      dsimp only
      rw [hK2, hLs, hDs, ← hcat, hnm]
      rw [show nmR (s4D 2) = [] from rfl, List.append_nil]
      exact fits_of rfl byK
    · have hK2 : kqF (l.take (i + 1)) = ks ++ [3] := hK
      obtain ⟨z1, z2, z3, hcat⟩ := d4_sz s hS 3 ⟨by decide, by decide⟩
      repeat (first | refine awp_seq ?_ | refine thenA_normal ?_ | refine a_region ?_ | refine awp_skip ?_ | refine r_done ?_ | (refine r_id ?_; first | refine r_ev tab_ok rfl rfl rfl rfl byE rfl ?_ | refine r_idxd tab_ok rfl rfl rfl rfl rfl rfl rfl (by decide) rfl rfl rfl ?_) | refine awp_cond_f rfl ?_)
      refine r_ev tab_ok rfl rfl rfl rfl (Nat.le_trans (Nat.add_le_add hS z1) (by decide)) rfl ?_
      refine r_ev tab_ok rfl rfl rfl rfl (Nat.le_trans (Nat.add_le_add z2 (Nat.le_of_eq z3)) (by decide)) rfl ?_
      repeat (first | refine awp_seq ?_ | refine thenA_normal ?_ | refine a_region ?_ | refine awp_skip ?_ | refine r_done ?_ | (refine r_id ?_; first | refine r_ev tab_ok rfl rfl rfl rfl byE rfl ?_ | refine r_idxd tab_ok rfl rfl rfl rfl rfl rfl rfl (by decide) rfl rfl rfl ?_) | refine awp_cond_f rfl ?_)
      refine ⟨⟨i + 1, hi'⟩, by dsimp only; omega, ?_⟩
      dsimp only
      rw [hK2, hLs, hDs, ← hcat, hnm]
      rw [show nmR (s4D 3) = [] from rfl, List.append_nil]
      exact fits_of rfl byK
    · have hK2 : kqF (l.take (i + 1)) = ks ++ [4] := hK
      obtain ⟨z1, z2, z3, hcat⟩ := d4_sz s hS 4 ⟨by decide, by decide⟩
      repeat (first | refine awp_seq ?_ | refine thenA_normal ?_ | refine a_region ?_ | refine awp_skip ?_ | refine r_done ?_ | (refine r_id ?_; first | refine r_ev tab_ok rfl rfl rfl rfl byE rfl ?_ | refine r_idxd tab_ok rfl rfl rfl rfl rfl rfl rfl (by decide) rfl rfl rfl ?_) | refine awp_cond_f rfl ?_)
      refine r_ev tab_ok rfl rfl rfl rfl (Nat.le_trans (Nat.add_le_add hS z1) (by decide)) rfl ?_
      refine r_ev tab_ok rfl rfl rfl rfl (Nat.le_trans (Nat.add_le_add z2 (Nat.le_of_eq z3)) (by decide)) rfl ?_
      repeat (first | refine awp_seq ?_ | refine thenA_normal ?_ | refine a_region ?_ | refine awp_skip ?_ | refine r_done ?_ | (refine r_id ?_; first | refine r_ev tab_ok rfl rfl rfl rfl byE rfl ?_ | refine r_idxd tab_ok rfl rfl rfl rfl rfl rfl rfl (by decide) rfl rfl rfl ?_) | refine awp_cond_f rfl ?_)
      refine ⟨⟨i + 1, hi'⟩, by dsimp only; omega, ?_⟩
      dsimp only
      rw [hK2, hLs, hDs, ← hcat, hnm]
      rw [show nmR (s4D 4) = [] from rfl, List.append_nil]
      exact fits_of rfl byK
    · have hK2 : kqF (l.take (i + 1)) = ks ++ [5] := hK
      obtain ⟨z1, z2, z3, hcat⟩ := d4_sz s hS 5 ⟨by decide, by decide⟩
      repeat (first | refine awp_seq ?_ | refine thenA_normal ?_ | refine a_region ?_ | refine awp_skip ?_ | refine r_done ?_ | (refine r_id ?_; first | refine r_ev tab_ok rfl rfl rfl rfl byE rfl ?_ | refine r_idxd tab_ok rfl rfl rfl rfl rfl rfl rfl (by decide) rfl rfl rfl ?_) | refine awp_cond_f rfl ?_)
      refine r_ev tab_ok rfl rfl rfl rfl (Nat.le_trans (Nat.add_le_add hS z1) (by decide)) rfl ?_
      refine r_ev tab_ok rfl rfl rfl rfl (Nat.le_trans (Nat.add_le_add z2 (Nat.le_of_eq z3)) (by decide)) rfl ?_
      repeat (first | refine awp_seq ?_ | refine thenA_normal ?_ | refine a_region ?_ | refine awp_skip ?_ | refine r_done ?_ | (refine r_id ?_; first | refine r_ev tab_ok rfl rfl rfl rfl byE rfl ?_ | refine r_idxd tab_ok rfl rfl rfl rfl rfl rfl rfl (by decide) rfl rfl rfl ?_) | refine awp_cond_f rfl ?_)
      refine ⟨⟨i + 1, hi'⟩, by dsimp only; omega, ?_⟩
      dsimp only
      rw [hK2, hLs, hDs, ← hcat, hnm]
      rw [show nmR (s4D 5) = [] from rfl, List.append_nil]
      exact fits_of rfl byK
    · have hK2 : kqF (l.take (i + 1)) = ks ++ [6] := hK
      obtain ⟨z1, z2, z3, hcat⟩ := d4_sz s hS 6 ⟨by decide, by decide⟩
      repeat (first | refine awp_seq ?_ | refine thenA_normal ?_ | refine a_region ?_ | refine awp_skip ?_ | refine r_done ?_ | (refine r_id ?_; first | refine r_ev tab_ok rfl rfl rfl rfl byE rfl ?_ | refine r_idxd tab_ok rfl rfl rfl rfl rfl rfl rfl (by decide) rfl rfl rfl ?_) | refine awp_cond_f rfl ?_)
      refine r_ev tab_ok rfl rfl rfl rfl (Nat.le_trans (Nat.add_le_add hS z1) (by decide)) rfl ?_
      refine r_ev tab_ok rfl rfl rfl rfl (Nat.le_trans (Nat.add_le_add z2 (Nat.le_of_eq z3)) (by decide)) rfl ?_
      repeat (first | refine awp_seq ?_ | refine thenA_normal ?_ | refine a_region ?_ | refine r_done ?_ | (refine r_id ?_; first | refine r_ev tab_ok rfl rfl rfl rfl byE rfl ?_ | refine r_idxd tab_ok rfl rfl rfl rfl rfl rfl rfl (by decide) rfl rfl rfl ?_ | refine r_built tab_ok rfl rfl rfl rfl rfl rfl rfl rfl rfl ?_ | refine r_append tab_ok rfl rfl rfl rfl rfl rfl rfl rfl rfl (by first | omega | (simp; omega)) rfl ?_) | refine awp_cond_t rfl ?_)
      refine ⟨⟨i + 1, hi'⟩, by dsimp only; omega, ?_⟩
      dsimp only
      rw [hK2, hLs, hDs, ← hcat, hnm]
      exact fits_conv byV byV
    · have hK2 : kqF (l.take (i + 1)) = ks := by rw [hK]; exact List.append_nil ks
      repeat (first | refine awp_seq ?_ | refine thenA_normal ?_ | refine a_region ?_ | refine awp_exit ?_ | refine r_done ?_ | (refine r_id ?_; first | refine r_ev tab_ok rfl rfl rfl rfl byE rfl ?_) | refine awp_cond_t rfl ?_)
      refine ⟨⟨i + 1, hi'⟩, by dsimp only; omega, ?_⟩
      dsimp only
      rw [hK2, hs0, hd0]
      exact fits_of rfl byK
    · have hK2 : kqF (l.take (i + 1)) = ks ++ [8] := hK
      obtain ⟨z1, z2, z3, hcat⟩ := d4_sz s hS 8 ⟨by decide, by decide⟩
      repeat (first | refine awp_seq ?_ | refine thenA_normal ?_ | refine a_region ?_ | refine awp_skip ?_ | refine r_done ?_ | (refine r_id ?_; first | refine r_ev tab_ok rfl rfl rfl rfl byE rfl ?_ | refine r_idxd tab_ok rfl rfl rfl rfl rfl rfl rfl (by decide) rfl rfl rfl ?_) | refine awp_cond_f rfl ?_)
      refine r_ev tab_ok rfl rfl rfl rfl (Nat.le_trans (Nat.add_le_add hS z1) (by decide)) rfl ?_
      refine r_ev tab_ok rfl rfl rfl rfl (Nat.le_trans (Nat.add_le_add z2 (Nat.le_of_eq z3)) (by decide)) rfl ?_
      repeat (first | refine awp_seq ?_ | refine thenA_normal ?_ | refine a_region ?_ | refine r_done ?_ | (refine r_id ?_; first | refine r_ev tab_ok rfl rfl rfl rfl byE rfl ?_ | refine r_idxd tab_ok rfl rfl rfl rfl rfl rfl rfl (by decide) rfl rfl rfl ?_ | refine r_built tab_ok rfl rfl rfl rfl rfl rfl rfl rfl rfl ?_ | refine r_append tab_ok rfl rfl rfl rfl rfl rfl rfl rfl rfl (by first | omega | (simp; omega)) rfl ?_) | refine awp_cond_t rfl ?_)
      refine ⟨⟨i + 1, hi'⟩, by dsimp only; omega, ?_⟩
      dsimp only
      rw [hK2, hLs, hDs, ← hcat, hnm]
      exact fits_conv byV byV
    · have hK2 : kqF (l.take (i + 1)) = ks ++ [9] := hK
      obtain ⟨z1, z2, z3, hcat⟩ := d4_sz s hS 9 ⟨by decide, by decide⟩
      repeat (first | refine awp_seq ?_ | refine thenA_normal ?_ | refine a_region ?_ | refine awp_skip ?_ | refine r_done ?_ | (refine r_id ?_; first | refine r_ev tab_ok rfl rfl rfl rfl byE rfl ?_ | refine r_idxd tab_ok rfl rfl rfl rfl rfl rfl rfl (by decide) rfl rfl rfl ?_) | refine awp_cond_f rfl ?_)
      refine r_ev tab_ok rfl rfl rfl rfl (Nat.le_trans (Nat.add_le_add hS z1) (by decide)) rfl ?_
      refine r_ev tab_ok rfl rfl rfl rfl (Nat.le_trans (Nat.add_le_add z2 (Nat.le_of_eq z3)) (by decide)) rfl ?_
      repeat (first | refine awp_seq ?_ | refine thenA_normal ?_ | refine a_region ?_ | refine awp_skip ?_ | refine r_done ?_ | (refine r_id ?_; first | refine r_ev tab_ok rfl rfl rfl rfl byE rfl ?_ | refine r_idxd tab_ok rfl rfl rfl rfl rfl rfl rfl (by decide) rfl rfl rfl ?_) | refine awp_cond_f rfl ?_)
      refine ⟨⟨i + 1, hi'⟩, by dsimp only; omega, ?_⟩
      dsimp only
      rw [hK2, hLs, hDs, ← hcat, hnm]
      rw [show nmR (s4D 9) = [] from rfl, List.append_nil]
      exact fits_of rfl byK
  · have hie : i = l.length := by omega
    subst hie
    rw [List.take_length] at hkl hpl hS hR ⊢
    have hn4 := nodes4_ok ⟨(t4L (kqF l)).toArray⟩ (by omega)
    have hd4 := pdecls_ok (t4N (kqF l)) (by omega) (fun n hn => of_decide_eq_true (List.all_eq_true.1 hpl.2.2.1 n hn))
    rw [nds4 _ (kq_ok l)] at hn4
    rw [dec4 _ (kq_ok l)] at hd4
    have hf := fine4_all (kqF l) (kq_ok l)
    generalize t4D (kqF l) = dd at hd4 hf hR ⊢
    have hdm : (dd.map dcD).length = dd.length := List.length_map _
    have hnl : (nmR dd).length = dd.length := List.length_map _
    repeat (first | refine awp_seq ?_ | refine a_region ?_ | refine awp_exit ?_ | (refine r_id ?_; first | refine r_ev tab_ok rfl rfl rfl rfl byE rfl ?_))
    refine r_call hn4 call14 rfl rfl ⟨Sub.refl _, trivial⟩ rfl rfl rfl rfl ?_
    refine r_call hd4 call19 rfl rfl ⟨Sub.refl _, trivial⟩ rfl rfl rfl rfl ?_
    repeat (first | refine awp_seq ?_ | refine thenA_normal ?_ | refine a_region ?_ | refine r_done ?_ | (refine r_id ?_; first | refine r_len tab_ok rfl rfl rfl rfl rfl rfl rfl ?_ | refine r_ev tab_ok rfl rfl rfl rfl byE rfl ?_ | refine r_ld tab_ok rfl rfl rfl rfl rfl ?_))
    refine awp_cond_n rfl (fun hne => absurd (by omega) hne) (fun _ => ?_)
    repeat (first | refine awp_seq ?_ | refine thenA_normal ?_ | refine awp_block ?_ | refine a_region ?_ | refine awp_skip ?_ | refine r_done ?_ | (refine r_id ?_; first | refine r_ev tab_ok rfl rfl rfl rfl byE rfl ?_))
    refine a_loop (σ := {j : Nat // j ≤ dd.length}) (fun _ => [.row 0 9 1 (nmR dd)]) (fun x => [(6, .row 0 0), (9, .sl 3 (dd.map dcD)), (10, .val (.int .i64 x.1))]) (fun x => dd.length - x.1) ⟨0, Nat.zero_le _⟩ (fits_conv byV byV) ?_
    rintro ⟨j, hj⟩
    dsimp only
    by_cases hjl : j < dd.length
    · have ej : ((j : Nat) : Int).toNat = j := Int.toNat_natCast j
      have hfj := List.all_eq_true.1 hf dd[j] (List.getElem_mem hjl)
      obtain ⟨d, hd⟩ : ∃ d, dd[j] = d := ⟨_, rfl⟩
      rw [hd] at hfj
      obtain ⟨nm, v, im⟩ := d
      simp only [fine4, Bool.and_eq_true, decide_eq_true_eq, Bool.not_eq_true', decide_eq_false_iff_not] at hfj
      obtain ⟨⟨⟨f1, f2⟩, rfl⟩, f4⟩ := hfj
      obtain ⟨v0, vs, rfl⟩ : ∃ v0 vs, v = v0 :: vs := by
        cases v with
        | nil => cases f1
        | cons a r => exact ⟨a, r, rfl⟩
      have f5 : ¬ v0.tok.kind = 13 := f2
      clear f1 f2
      repeat (first | refine awp_seq ?_ | refine thenA_normal ?_ | refine a_region ?_ | refine r_done ?_ | (refine r_id ?_; first | refine r_len tab_ok rfl rfl rfl rfl rfl rfl rfl ?_ | refine r_ev tab_ok rfl rfl rfl rfl byE rfl ?_))
      refine awp_cond_p rfl (fun _ => ?_) (fun h => (h (by omega)).elim)
      repeat (first | refine awp_seq ?_ | refine awp_block ?_ | refine a_draw1 mixed_ok (by kernel_rfl) ?_ | refine awp_skip ?_ | (refine r_id ?_; first | refine r_len tab_ok rfl rfl rfl rfl rfl rfl rfl ?_ | refine r_ev tab_ok rfl rfl rfl rfl byE rfl ?_ | refine r_idx tab_ok rfl rfl rfl rfl rfl rfl rfl (by first | exact ⟨by omega, by omega⟩ | (simp; omega)) rfl rfl ?_ | refine r_idxr tab_ok rfl rfl rfl rfl rfl rfl rfl rfl (by first | exact ⟨by omega, by omega⟩ | (simp; omega)) rfl ?_ | refine r_lde tab_ok rfl rfl rfl rfl rfl (by omega) rfl rfl rfl rfl ?_) | refine r_g rfl rfl (congrArg (fun b => AV.val (.bool b)) (bnot_t rfl)) ?_ | refine r_pick_f rfl rfl (congrArg (fun b => AV.val (.bool b)) (bnot_t rfl)) rfl rfl rfl rfl ?_)
      try simp only [ej, hd]
      repeat (first | (refine r_id ?_; first | refine r_idx tab_ok rfl rfl rfl rfl rfl rfl rfl (by first | exact ⟨by omega, by omega⟩ | (simp; omega)) rfl rfl ?_ | refine r_ev_on tab_ok rfl rfl rfl rfl rfl rfl (by first | exact trivial | exact ⟨by omega, by omega⟩ | omega) rfl ?_) | refine r_g rfl rfl rfl ?_)
      try simp only [ej, hd]
      repeat (first | refine thenA_normal ?_ | refine r_done' ?_ | (refine r_id ?_; first | refine r_ev tab_ok rfl rfl rfl rfl byE rfl ?_ | refine r_idx tab_ok rfl rfl rfl rfl rfl rfl rfl (by first | exact ⟨by omega, by omega⟩ | (simp; omega)) rfl rfl ?_ | refine r_idxd tab_ok rfl rfl rfl rfl rfl rfl rfl (by decide) rfl rfl rfl ?_ | refine r_pick_f rfl rfl rfl rfl rfl rfl rfl ?_ | refine r_ev_on tab_ok rfl rfl rfl rfl rfl rfl (by first | exact trivial | exact ⟨by omega, by omega⟩ | omega) rfl ?_) | refine r_g rfl rfl (congrArg (fun b => AV.val (.bool b)) (decide_eq_false (by omega))) ?_ | refine r_pick_f rfl rfl (congrArg (fun b => AV.val (.bool b)) (decide_eq_false (by omega))) rfl rfl rfl rfl ?_)
      try simp only [ej, hd]
      repeat (first | refine thenA_normal ?_ | refine a_region ?_ | refine awp_skip ?_ | refine r_done ?_ | (refine r_id ?_; first | refine r_ev tab_ok rfl rfl rfl rfl byE rfl ?_) | refine awp_cond_f rfl ?_)
      exact ⟨⟨j + 1, hjl⟩, by dsimp only; omega, fits_conv byV byV⟩
    · repeat (first | refine awp_seq ?_ | refine thenA_normal ?_ | refine a_region ?_ | refine r_done ?_ | (refine r_id ?_; first | refine r_len tab_ok rfl rfl rfl rfl rfl rfl rfl ?_ | refine r_ev tab_ok rfl rfl rfl rfl byE rfl ?_))
      refine awp_cond_p rfl (fun h => (hjl (by omega)).elim) (fun _ => ?_)
      repeat (first | refine awp_seq ?_ | refine a_region ?_ | refine awp_exit ?_)
      refine r_call awake4_ok call11 rfl rfl trivial rfl rfl rfl rfl ?_
      repeat (first | refine thenA_normal ?_ | refine awp_ret ?_ | refine r_done ?_ | (refine r_id ?_; first | refine r_ev tab_ok rfl rfl rfl rfl byE rfl ?_) | refine ret1 byO rfl rfl rfl ?_)
      exact Sub.refl _
end Go.Proofs.YtiolnmfaeenlmaaGreatDoor
