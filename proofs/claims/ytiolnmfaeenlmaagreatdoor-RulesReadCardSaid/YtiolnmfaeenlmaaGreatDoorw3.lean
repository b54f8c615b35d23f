/- RulesRead, walked. -/
import Derived.Test.YtiolnmfaeenlmaaGreatDoorw2
import Derived.Test.YtiolnmfaeenlmaaGreatDoorRl
import Derived.Test.YtiolnmfaeenlmaaGreatDoorRg
import Derived.Test.YtiolnmfaeenlmaaGreatDoorR0
namespace Go.Proofs.YtiolnmfaeenlmaaGreatDoor
open Go Go.RowKit
set_option maxRecDepth 20000

theorem dec_sz : ∀ (f : Nat) (l : List Nd) (i : Nat), (decR f l i).length ≤ f ∧ ∀ d ∈ decR f l i, nszs d.value ≤ nszs l
  | 0, _, _ => ⟨Nat.le_refl _, fun d h => by cases h⟩
  | f + 1, l, i => by
    have h1 : ∀ k, (oneD l i k).length ≤ 1 ∧ ∀ d ∈ oneD l i k, nszs d.value ≤ nszs l := by
      intro k
      have hv : ∀ m : List Nd, nszs (valF m).1 ≤ nszs m := fun m => by
        have a1 := trimF_sz m
        rw [valF]
        split
        · exact a1
        · split
          · exact Nat.le_trans (trimF_sz _) (Nat.le_trans (nszs_take _ _) a1)
          · exact a1
      rw [oneD]
      split
      · split
        · refine ⟨Nat.le_refl _, fun d hd => ?_⟩
          rw [List.mem_singleton] at hd
          rw [hd]
          exact Nat.le_trans (hv _) (Nat.le_trans (nszs_td _ _).2 (nszs_take _ _))
        · exact ⟨Nat.zero_le _, fun d h => by cases h⟩
      · exact ⟨Nat.zero_le _, fun d h => by cases h⟩
    rw [decR]
    split
    · split
      · have := dec_sz f l (i + 1)
        exact ⟨by omega, this.2⟩
      · split
        · have := dec_sz f l (runE (fun n => !semB n && !blkB n) l i + 1)
          exact ⟨by omega, this.2⟩
        · have h2 := dec_sz f l (runE (fun n => !semB n) l i)
          have h3 := h1 (runE (fun n => !semB n) l i)
          refine ⟨by rw [List.length_append]; omega, fun d hd => ?_⟩
          rw [List.mem_append] at hd
          rcases hd with hd | hd
          · exact h3.2 d hd
          · exact h2.2 d hd
    · exact ⟨Nat.zero_le _, fun d h => by cases h⟩
theorem decA_sz (l : List Nd) : (decA l 0).length ≤ l.length ∧ ∀ d ∈ decA l 0, nszs d.value ≤ nszs l := by
  have := dec_sz (l.length - 0) l 0
  exact this
theorem valF_sz (m : List Nd) : nszs (valF m).1 ≤ nszs m := by
  have a1 := trimF_sz m
  rw [valF]
  split
  · exact a1
  · split
    · exact Nat.le_trans (trimF_sz _) (Nat.le_trans (nszs_take _ _) a1)
    · exact a1
theorem sht_sz : ∀ (f : Nat) (l : List Nd) (i : Nat), ∀ r ∈ shtR f l i, nszs r.pre ≤ nszs l ∧ r.decls.length ≤ nszs l ∧ ∀ d ∈ r.decls, nszs d.value ≤ nszs l
  | 0, _, _, _, h => by cases h
  | f + 1, l, i, r, h => by
    rw [shtR] at h
    split at h
    · split at h
      · exact sht_sz f l _ r h
      · rw [List.mem_append] at h
        rcases h with h | h
        · rw [emI] at h
          split at h
          · rw [List.mem_singleton] at h
            rw [h]
            refine ⟨Nat.le_trans (trimF_sz _) (Nat.le_trans (nszs_td _ _).2 (nszs_take _ _)), ?_⟩
            show (if blI l (enI l i) then decA (ndAt l (enI l i)).kids 0 else []).length ≤ _ ∧ ∀ d ∈ (if blI l (enI l i) then decA (ndAt l (enI l i)).kids 0 else []), _
            split
            · rename_i hb
              rw [blI, Bool.and_eq_true, decide_eq_true_eq] at hb
              have h1 := decA_sz (ndAt l (enI l i)).kids
              have h2 := nszs_at hb.1
              rw [ndAt_get hb.1] at h2
              have h3 := nszs_len (ndAt l (enI l i)).kids
              exact ⟨by omega, fun d hd => by have := h1.2 d hd; omega⟩
            · exact ⟨Nat.zero_le _, fun d h => by cases h⟩
          · cases h
        · exact sht_sz f l _ r h
    · cases h
theorem shN_sz (l : List Nd) : (shN l).1.length ≤ 500 ∧ ∀ r ∈ (shN l).1, nszs r.pre ≤ nszs l ∧ r.decls.length ≤ nszs l ∧ ∀ d ∈ r.decls, nszs d.value ≤ nszs l := by
  rw [shN]
  split
  · exact ⟨Nat.zero_le _, fun r h => by cases h⟩
  · rename_i h
    exact ⟨show (shtA l 0).length ≤ 500 by omega, sht_sz _ l 0⟩
theorem shE_N (b : List UInt8) : shE b = shN (nodesA (toksF (readL ⟨b.toArray⟩)) 0) := by
  rw [shE, shN, shP, allF, allA_nodes]
theorem psheetA (b : List UInt8) (hb : b.length ≤ 3000) : PCalls Tryz.prog 12 [.sl 1 (b.map bD)] (.tup [.sl 4 ((shN (nodesA (toksF (readL ⟨b.toArray⟩)) 0)).1.map rlD), .val (.int .i64 (shN (nodesA (toksF (readL ⟨b.toArray⟩)) 0)).2)]) := by
  have hz := nodes_sz ⟨b.toArray⟩
  rw [sz_list] at hz
  have hat := nodes_at ⟨b.toArray⟩
  rw [← shE_N]
  refine psheet_ok b (by omega) (readL_nn' _) (by rw [allF, allA_nodes]; exact hat) (fun n hn => ?_) (fun n hn m hm => ?_)
  · rw [allF, allA_nodes] at hn
    have := (hz n hn).1
    omega
  · rw [allF, allA_nodes] at hn
    have := (hz n hn).2 m hm
    omega
theorem sheetA (b : List UInt8) (hb : b.length ≤ 3000) : PCalls Tryz.prog 13 [.sl 1 (b.map bD)] (.tup [.sl 4 ((shN (nodesA (toksF (readL ⟨b.toArray⟩)) 0)).1.map rlD), .val (.int .i64 (shN (nodesA (toksF (readL ⟨b.toArray⟩)) 0)).2)]) := by
  have hz := nodes_sz ⟨b.toArray⟩
  rw [sz_list] at hz
  refine sheetE_ok b (by omega) (fun n hn => ?_) (fun n hn m hm => ?_)
  · have := (hz n hn).1
    omega
  · have := (hz n hn).2 m hm
    omega
set_option maxHeartbeats 16000000 in
theorem lawRead (b : List UInt8) (hb : b.length ≤ 9223372036854775807) (s : ByteArray) (hs : s.size ≤ 9223372036854775807) : PCalls Tryz.prog 3 [.sl 1 (b.map bD), .val (.string s)] (.val (.bool true)) := by
  refine p_start Tryz.func3 Tryz.ntmps3 rfl rfl rfl fun S w => ?_
  have hbm : (b.map bD).length = b.length := List.length_map _
  repeat (first
    | refine awp_seq ?_
    | refine thenA_normal ?_
    | refine a_region ?_
    | refine r_done ?_
    | (refine r_id ?_; first
      | refine r_len tab_ok rfl rfl rfl rfl rfl rfl rfl ?_
      | refine r_ev tab_ok rfl rfl rfl rfl (by first | exact trivial | exact ⟨by omega, by omega⟩ | omega | exact ⟨by omega, by omega, by omega, by omega⟩ | exact Nat.le_of_ble_eq_true rfl) rfl ?_
      | refine r_ev_cnd tab_ok rfl rfl rfl rfl rfl rfl (by first | exact fun _ => rfl | exact cs1 | exact cs2 | exact cs3) (by first | exact fun _ => trivial | (intro h; simp at h; first | exact ⟨by omega, by omega⟩ | omega)) rfl ?_
      | refine r_or rfl rfl rfl rfl rfl rfl rfl rfl ?_))
  refine awp_cond rfl (fun h => ?_) (fun h => ?_)
  · repeat (first
      | refine awp_seq ?_
      | refine a_region ?_)
    refine r_call awake4_ok call11 rfl rfl trivial rfl rfl rfl rfl ?_
    repeat (first
      | refine thenA_normal ?_
      | refine awp_ret ?_
      | refine thenA_ret ?_
      | refine r_done ?_
      | (refine r_id ?_; first
        | refine r_ev tab_ok rfl rfl rfl rfl (by first | exact trivial | exact ⟨by omega, by omega⟩ | omega | exact ⟨by omega, by omega, by omega, by omega⟩ | exact Nat.le_of_ble_eq_true rfl) rfl ?_)
      | refine ret1 (by first | exact .inl rfl | exact .inr rfl) rfl rfl rfl ?_)
    exact Sub.refl _
  simp only [Bool.or_eq_false_iff, decide_eq_false_iff_not] at h
  have h30 : b.length ≤ 3000 ∧ s.size ≤ 1000 := by omega
  clear h
  have hl1 := readL_len ⟨b.toArray⟩
  have hbs : (⟨b.toArray⟩ : ByteArray).size = b.length := List.size_toArray
  have hl2 := toksF_len' (readL ⟨b.toArray⟩)
  have hl3 := nodesA_sz (toksF (readL ⟨b.toArray⟩))
  have hS := shN_sz (nodesA (toksF (readL ⟨b.toArray⟩)) 0)
  have hp1 := psheetA b h30.1
  have hp2 := sheetA b h30.1
  have hn := nodes4_ok s (by omega)
  have hm1 := readL_len s
  have hm2 := toksF_len' (readL s)
  have hm3 := nodesA_sz (toksF (readL s))
  have hz := nodes_sz s
  rw [show ndsF s = nodesA (toksF (readL s)) 0 from rfl] at hn
  generalize nodesA (toksF (readL s)) 0 = ns at hn hm3 hz
  generalize shN (nodesA (toksF (readL ⟨b.toArray⟩)) 0) = sr at hS hp1 hp2
  generalize nszs (nodesA (toksF (readL ⟨b.toArray⟩)) 0) = K at hl3 hS
  obtain ⟨R, E⟩ := sr
  dsimp only at hS hp1 hp2
  have hq1 := srules_self R (by omega) (fun r hr => by
    obtain ⟨g1, g2, g3⟩ := hS.2 r hr
    exact ⟨by omega, by omega, fun d hd => by have := g3 d hd; omega⟩)
  have hll := nszs_len ns
  have hv1 := pvalue_ok ns (by omega) (fun n h => by have := (hz n h).1; omega)
  have hv2 := rvalue_ok ns (by omega) (fun n h => by have := (hz n h).1; omega)
  have hd1 := pdecls_ok ns (by omega) (fun n h => by have := (hz n h).1; omega)
  have hd2 := rdecls_ok ns (by omega) (fun n h => by have := (hz n h).1; omega)
  have hvz := valF_sz ns
  have hq2 := rsame_self (valF ns).1 (by omega)
  have hdz := decA_sz ns
  have hq3 := sdecls_self (decA ns 0) (by omega) (fun d hd => by have := hdz.2 d hd; omega)
  generalize valF ns = vv at hv1 hv2 hq2
  obtain ⟨v, vb⟩ := vv
  dsimp only at hv1 hv2 hq2
  generalize decA ns 0 = dd at hd1 hd2 hq3
  clear hdz hvz hz hS hl1 hl2 hl3 hm1 hm2 hm3
  repeat (first
    | refine awp_seq ?_
    | refine a_region ?_
    | refine awp_skip ?_
    | (refine r_id ?_; first
      | refine r_ev tab_ok rfl rfl rfl rfl (by first | exact trivial | exact ⟨by omega, by omega⟩ | omega | exact ⟨by omega, by omega, by omega, by omega⟩ | exact Nat.le_of_ble_eq_true rfl) rfl ?_))
  refine r_call hp1 call12 rfl rfl ⟨Sub.refl _, trivial⟩ rfl rfl rfl rfl ?_
  repeat (first
    | refine awp_seq ?_
    | refine a_region ?_
    | refine r_done ?_
    | (refine r_id ?_; first
      | refine r_ev tab_ok rfl rfl rfl rfl (by first | exact trivial | exact ⟨by omega, by omega⟩ | omega | exact ⟨by omega, by omega, by omega, by omega⟩ | exact Nat.le_of_ble_eq_true rfl) rfl ?_))
  refine r_call hp2 call13 rfl rfl ⟨Sub.refl _, trivial⟩ rfl rfl rfl rfl ?_
  repeat (first
    | refine awp_seq ?_
    | refine a_region ?_
    | refine r_done ?_
    | (refine r_id ?_; first
      | refine r_ev tab_ok rfl rfl rfl rfl (by first | exact trivial | exact ⟨by omega, by omega⟩ | omega | exact ⟨by omega, by omega, by omega, by omega⟩ | exact Nat.le_of_ble_eq_true rfl) rfl ?_))
  refine r_call hn call14 rfl rfl ⟨Sub.refl _, trivial⟩ rfl rfl rfl rfl ?_
  repeat (first
    | refine awp_seq ?_
    | refine a_region ?_
    | refine r_done ?_
    | (refine r_id ?_; first
      | refine r_ev tab_ok rfl rfl rfl rfl (by first | exact trivial | exact ⟨by omega, by omega⟩ | omega | exact ⟨by omega, by omega, by omega, by omega⟩ | exact Nat.le_of_ble_eq_true rfl) rfl ?_))
  refine r_call hv1 call15 rfl rfl ⟨Sub.refl _, trivial⟩ rfl rfl rfl rfl ?_
  repeat (first
    | refine awp_seq ?_
    | refine a_region ?_
    | refine r_done ?_
    | (refine r_id ?_; first
      | refine r_ev tab_ok rfl rfl rfl rfl (by first | exact trivial | exact ⟨by omega, by omega⟩ | omega | exact ⟨by omega, by omega, by omega, by omega⟩ | exact Nat.le_of_ble_eq_true rfl) rfl ?_))
  refine r_call hv2 call16 rfl rfl ⟨Sub.refl _, trivial⟩ rfl rfl rfl rfl ?_
  repeat (first
    | refine awp_seq ?_
    | refine a_region ?_
    | refine r_done ?_
    | (refine r_id ?_; first
      | refine r_ev tab_ok rfl rfl rfl rfl (by first | exact trivial | exact ⟨by omega, by omega⟩ | omega | exact ⟨by omega, by omega, by omega, by omega⟩ | exact Nat.le_of_ble_eq_true rfl) rfl ?_))
  refine r_call hq1 call17 rfl rfl ⟨Sub.refl _, Sub.refl _, trivial⟩ rfl rfl rfl rfl ?_
  cases vb <;>
  · repeat (first
      | (refine r_id ?_; first
        | refine r_ev tab_ok rfl rfl rfl rfl (by first | exact trivial | exact ⟨by omega, by omega⟩ | omega | exact ⟨by omega, by omega, by omega, by omega⟩ | exact Nat.le_of_ble_eq_true rfl) rfl ?_
        | refine r_pick_t rfl rfl rfl rfl rfl rfl rfl ?_
        | refine r_ev_on tab_ok rfl rfl rfl rfl rfl rfl (by first | exact trivial | exact ⟨by omega, by omega⟩ | omega) rfl ?_)
      | refine r_g rfl rfl (congrArg (fun b => AV.val (.bool b)) (decide_eq_true rfl)) ?_)
    refine r_call hd1 call19 rfl rfl ⟨Sub.refl _, trivial⟩ rfl rfl rfl rfl ?_
    repeat (first
      | (refine r_id ?_; first
        | refine r_ev tab_ok rfl rfl rfl rfl (by first | exact trivial | exact ⟨by omega, by omega⟩ | omega | exact ⟨by omega, by omega, by omega, by omega⟩ | exact Nat.le_of_ble_eq_true rfl) rfl ?_)
      | refine r_g rfl rfl (congrArg (fun b => AV.val (.bool b)) (decide_eq_true rfl)) ?_)
    refine r_call hd2 call20 rfl rfl ⟨Sub.refl _, trivial⟩ rfl rfl rfl rfl ?_
    repeat (first
      | refine r_g rfl rfl (congrArg (fun b => AV.val (.bool b)) (decide_eq_true rfl)) ?_)
    refine r_call hq3 call18 rfl rfl ⟨Sub.refl _, Sub.refl _, trivial⟩ rfl rfl rfl rfl ?_
    repeat (first
      | (refine r_id ?_; first
        | refine r_ev tab_ok rfl rfl rfl rfl (by first | exact trivial | exact ⟨by omega, by omega⟩ | omega | exact ⟨by omega, by omega, by omega, by omega⟩ | exact Nat.le_of_ble_eq_true rfl) rfl ?_
        | refine r_ev_on tab_ok rfl rfl rfl rfl rfl rfl (by first | exact trivial | exact ⟨by omega, by omega⟩ | omega) rfl ?_)
      | refine r_g rfl rfl rfl ?_
      | refine r_pick_t rfl rfl (congrArg (fun b => AV.val (.bool b)) (decide_eq_true rfl)) rfl rfl rfl rfl ?_)
    refine r_call hq2 call21 rfl rfl ⟨Sub.refl _, Sub.refl _, trivial⟩ rfl rfl rfl rfl ?_
    repeat (first
      | (refine r_id ?_; first
        | refine r_ev tab_ok rfl rfl rfl rfl (by first | exact trivial | exact ⟨by omega, by omega⟩ | omega | exact ⟨by omega, by omega, by omega, by omega⟩ | exact Nat.le_of_ble_eq_true rfl) rfl ?_
        | refine r_pick_t rfl rfl rfl rfl rfl rfl rfl ?_
        | refine r_ev_on tab_ok rfl rfl rfl rfl rfl rfl (by first | exact trivial | exact ⟨by omega, by omega⟩ | omega) rfl ?_)
      | refine r_g rfl rfl rfl ?_)
    refine r_call awake4_ok call11 rfl rfl trivial rfl rfl rfl rfl ?_
    repeat (first
      | refine thenA_normal ?_
      | refine awp_ret ?_
      | refine r_done ?_
      | (refine r_id ?_; first
        | refine r_ev tab_ok rfl rfl rfl rfl (by first | exact trivial | exact ⟨by omega, by omega⟩ | omega | exact ⟨by omega, by omega, by omega, by omega⟩ | exact Nat.le_of_ble_eq_true rfl) rfl ?_
        | refine r_pick_t rfl rfl rfl rfl rfl rfl rfl ?_)
      | refine ret1 (by first | exact .inl rfl | exact .inr rfl) rfl rfl rfl ?_)
    all_goals exact Sub.refl _
end Go.Proofs.YtiolnmfaeenlmaaGreatDoor
