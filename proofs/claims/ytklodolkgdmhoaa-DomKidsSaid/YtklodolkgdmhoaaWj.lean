/- The law DomKids. -/
import Derived.Test.YtklodolkgdmhoaaWi
namespace Go.Proofs.Ytklodolkgdmhoaa
open Go Go.RowKit

theorem table_sm {l : List Rw} (h : tableB l = true) : l.length ≤ 24 ∧ ∀ r ∈ l, r.tag.size ≤ 50 ∧ r.text.size ≤ 3000 ∧ r.attrs.length ≤ 8 ∧ ∀ a ∈ r.attrs, a.name.size ≤ 50 ∧ a.value.size ≤ 3000 := by
  simp only [tableB, Bool.and_eq_true, Bool.not_eq_true', decide_eq_false_iff_not, List.all_eq_true, okRw, okA] at h
  obtain ⟨h1, h2⟩ := h
  refine ⟨by omega, fun r hr => ?_⟩
  obtain ⟨⟨⟨a, b⟩, c⟩, d⟩ := h2 r hr
  exact ⟨by omega, by omega, by omega, fun x hx => ⟨by have := (d x hx).1; omega, by have := (d x hx).2; omega⟩⟩
theorem table_smR {l : List Rw} (h : tableB l = true) : ∀ r ∈ l, smR r := fun r hr => by
  obtain ⟨h1, h2, h3, h4⟩ := (table_sm h).2 r hr
  exact ⟨by omega, by omega, fun a ha => ⟨by have := (h4 a ha).1; omega, by have := (h4 a ha).2; omega⟩⟩
theorem kids_len {gs : List Nt} {l : List Rw} (hgd : Good l gs) (hl : gs.length = l.length) : ∀ n ∈ gs, n.kids.length ≤ l.length := fun n hn => by
  obtain ⟨i, hi, rfl⟩ := List.mem_iff_getElem.1 hn
  rw [ntAt_get hi, hgd.kids i hi, hl]
  exact Nat.le_trans (List.length_filter_le _ _) (by rw [List.length_range]; exact Nat.le_refl _)
theorem rwAt_get {l : List Rw} {i : Nat} (h : i < l.length) : l[i] = rwAt l i := by
  rw [rwAt, List.getD_eq_getElem?_getD, List.getElem?_eq_getElem h]; rfl
theorem bnot_t {p : Prop} [Decidable p] (h : p) : (!decide p) = false := by rw [decide_eq_true h]; rfl
theorem bnot_f {p : Prop} [Decidable p] (h : ¬ p) : (!decide p) = true := by rw [decide_eq_false h]; rfl
set_option maxHeartbeats 8000000 in
theorem lawKids (l : List Rw) (hl : l.length ≤ 9223372036854775807) (hs : ∀ r ∈ l, r.attrs.length ≤ 9223372036854775807) : PCalls Try.prog 7 [.sl 4 (l.map rwD)] (.val (.bool true)) := by
  have hT := table_ok l hl hs
  have hlm : (l.map rwD).length = l.length := List.length_map _
  refine p_start Try.func7 Try.ntmps7 rfl rfl rfl fun S w => ?_
  cases htb : tableB l with
  | false =>
    rw [htb] at hT
    repeat (first
      | refine awp_seq ?_
      | refine a_region ?_
      | refine r_done ?_
      | (refine r_id ?_; first
        | refine r_ev tab_ok rfl rfl rfl rfl (by first | exact trivial | exact ⟨by omega, by omega⟩ | omega | exact ⟨by omega, by omega, by omega, by omega⟩ | exact Nat.le_of_ble_eq_true rfl) rfl ?_))
    refine r_call hT call17 rfl rfl ⟨Sub.refl _, trivial⟩ rfl rfl rfl rfl ?_
    repeat (first
      | refine awp_seq ?_
      | refine thenA_normal ?_
      | refine a_region ?_
      | refine r_done ?_
      | (refine r_id ?_; first
        | refine r_ev tab_ok rfl rfl rfl rfl (by first | exact trivial | exact ⟨by omega, by omega⟩ | omega | exact ⟨by omega, by omega, by omega, by omega⟩ | exact Nat.le_of_ble_eq_true rfl) rfl ?_)
      | refine awp_cond_t rfl ?_)
    refine r_call awake_ok call8 rfl rfl trivial rfl rfl rfl rfl ?_
    repeat (first
      | refine thenA_normal ?_
      | refine awp_ret ?_
      | refine thenA_ret ?_
      | refine r_done ?_
      | (refine r_id ?_; first
        | refine r_ev tab_ok rfl rfl rfl rfl (by first | exact trivial | exact ⟨by omega, by omega⟩ | omega | exact ⟨by omega, by omega, by omega, by omega⟩ | exact Nat.le_of_ble_eq_true rfl) rfl ?_)
      | refine ret1 (by first | exact .inl rfl | exact .inr rfl) rfl rfl rfl ?_)
    exact Sub.refl _
  | true =>
    rw [htb] at hT
    obtain ⟨h24, hsm⟩ := table_sm htb
    have hN := new_ok l (by omega) (table_smR htb)
    repeat (first
      | refine awp_seq ?_
      | refine a_region ?_
      | refine r_done ?_
      | (refine r_id ?_; first
        | refine r_ev tab_ok rfl rfl rfl rfl (by first | exact trivial | exact ⟨by omega, by omega⟩ | omega | exact ⟨by omega, by omega, by omega, by omega⟩ | exact Nat.le_of_ble_eq_true rfl) rfl ?_))
    refine r_call hT call17 rfl rfl ⟨Sub.refl _, trivial⟩ rfl rfl rfl rfl ?_
    repeat (first
      | refine awp_seq ?_
      | refine thenA_normal ?_
      | refine a_region ?_
      | refine awp_skip ?_
      | refine r_done ?_
      | (refine r_id ?_; first
        | refine r_ev tab_ok rfl rfl rfl rfl (by first | exact trivial | exact ⟨by omega, by omega⟩ | omega | exact ⟨by omega, by omega, by omega, by omega⟩ | exact Nat.le_of_ble_eq_true rfl) rfl ?_)
      | refine awp_cond_f rfl ?_)
    cases hnew : newF l with
    | none =>
      rw [hnew] at hN
      refine r_call hN call10 rfl rfl ⟨Sub.refl _, trivial⟩ rfl rfl rfl rfl ?_
      repeat (first
        | refine awp_seq ?_
        | refine thenA_normal ?_
        | refine a_region ?_
        | refine r_done ?_
        | (refine r_id ?_; first
          | refine r_ev tab_ok rfl rfl rfl rfl (by first | exact trivial | exact ⟨by omega, by omega⟩ | omega | exact ⟨by omega, by omega, by omega, by omega⟩ | exact Nat.le_of_ble_eq_true rfl) rfl ?_
          | refine r_ev_cnd tab_ok rfl rfl rfl rfl rfl rfl (by first | exact fun _ => rfl | exact cs1 | exact cs2 | exact cs3) (by first | exact fun _ => trivial | (intro h; simp at h; first | exact ⟨by omega, by omega⟩ | omega)) rfl ?_
          | refine r_pick_t rfl rfl rfl rfl rfl rfl rfl ?_
          | refine r_off rfl rfl rfl rfl rfl rfl ?_)
        | refine awp_cond_t rfl ?_)
      refine r_call awake_ok call8 rfl rfl trivial rfl rfl rfl rfl ?_
      repeat (first
        | refine thenA_normal ?_
        | refine awp_ret ?_
        | refine thenA_ret ?_
        | refine r_done ?_
        | (refine r_id ?_; first
          | refine r_ev tab_ok rfl rfl rfl rfl (by first | exact trivial | exact ⟨by omega, by omega⟩ | omega | exact ⟨by omega, by omega, by omega, by omega⟩ | exact Nat.le_of_ble_eq_true rfl) rfl ?_)
        | refine ret1 (by first | exact .inl rfl | exact .inr rfl) rfl rfl rfl ?_)
      exact Sub.refl _
    | some gs =>
      rw [hnew] at hN
      obtain ⟨hgd, hgl, hok⟩ := good_new hnew
      have hp := okPar_of hgd hgl
      have h0 : 0 < l.length := by simp [okL] at hok; omega
      have hg : gs.length ≤ 1099511627776 := by omega
      have hk : ∀ n ∈ gs, n.kids.length ≤ 1099511627776 := fun n hn => by have := kids_len hgd hgl n hn; omega
      have hcz := cnt_zero hp
      refine r_call hN call10 rfl rfl ⟨Sub.refl _, trivial⟩ rfl rfl rfl rfl ?_
      repeat (first
        | refine awp_seq ?_
        | refine thenA_normal ?_
        | refine awp_block ?_
        | refine a_region ?_
        | refine awp_skip ?_
        | refine r_done ?_
        | (refine r_id ?_; first
          | refine r_ev tab_ok rfl rfl rfl rfl (by first | exact trivial | exact ⟨by omega, by omega⟩ | omega | exact ⟨by omega, by omega, by omega, by omega⟩ | exact Nat.le_of_ble_eq_true rfl) rfl ?_
          | refine r_ev_cnd tab_ok rfl rfl rfl rfl rfl rfl (by first | exact fun _ => rfl | exact cs1 | exact cs2 | exact cs3) (by first | exact fun _ => trivial | (intro h; simp at h; first | exact ⟨by omega, by omega⟩ | omega)) rfl ?_
          | refine r_or rfl rfl rfl rfl rfl rfl rfl rfl ?_)
        | refine awp_cond_f rfl ?_
        | refine r_by_cnd (fun _ => astep_eqnil_d underT rfl rfl rfl) rfl rfl rfl (by first | exact fun _ => rfl | exact cs1 | exact cs2 | exact cs3) rfl rfl rfl rfl ?_)
      refine a_loop (σ := {i : Nat // i ≤ l.length}) (fun _ => []) (fun x => [(0, .sl 4 (l.map rwD)), (3, trA gs), (5, .val (.int .i64 (cntP l x.1 : Nat))), (6, .val (.int .i64 x.1))]) (fun x => l.length - x.1) ⟨0, Nat.zero_le _⟩
        (fits_of rfl ⟨Sub.refl _, Sub.refl _, Sub.of_eq (by show AV.val (.int .i64 0) = .val (.int .i64 (cntP l 0 : Nat)); rw [hcz]; rfl), Sub.refl _, trivial⟩) ?_
      rintro ⟨i, hi⟩
      dsimp only
      repeat (first
        | refine awp_seq ?_
        | refine thenA_normal ?_
        | refine a_region ?_
        | refine r_done ?_
        | (refine r_id ?_; first
          | refine r_len tab_ok rfl rfl rfl rfl rfl rfl rfl ?_
          | refine r_ev tab_ok rfl rfl rfl rfl (by first | exact trivial | exact ⟨by omega, by omega⟩ | omega | exact ⟨by omega, by omega, by omega, by omega⟩ | exact Nat.le_of_ble_eq_true rfl) rfl ?_))
      refine awp_cond_p rfl (fun hlt => ?_) (fun hge => ?_)
      · have hlt : i < l.length := by omega
        have hcs := cnt_step (l := l) i
        have hca : cntP l i + (kidsP l i).length ≤ 24 := by
          rw [← hcs]
          refine Nat.le_trans (List.length_filter_le _ _) ?_
          rw [List.length_range]; exact h24
        have hkl : (kidsP l i).length ≤ 24 := by omega
        have hkk : ∀ k ∈ kidsP l i, k < l.length ∧ 0 < k ∧ (rwAt l k).parent = i := fun k hk => mem_kidsP.1 hk
        have hK := kids_ok gs i hg hk
        have hE := elem_ok gs i hg hk
        rw [kidF_kidsP hgd hgl hlt] at hK
        rw [elemF_eq hgd hgl hlt] at hE
        have hB : ∀ (j : Nat) (hj : j < (kidsP l i).length), PCalls Try.prog 29 [trA gs, .val (.int .i64 ((kidsP l i)[j] : Nat))] (.sl 1 ((((kidsP l i).take j).filter (tagB l)).reverse.map nD)) := fun j hj => by
          have := before_ok gs ((kidsP l i)[j] : Nat) hg hk
          rwa [bef_eq hgd hgl hlt hj] at this
        have hD : ∀ (j : Nat) (hj : j < (kidsP l i).length), PCalls Try.prog 27 [trA gs, .val (.int .i64 ((kidsP l i)[j] : Nat))] (.val (.int .i64 (depF gs i + 1))) := fun j hj => by
          have := depth_ok gs ((kidsP l i)[j] : Nat) hg
          rwa [dep_kid hgd hgl hlt (List.getElem_mem hj)] at this
        have hDi := depth_ok gs i hg
        have hU : ∀ (j : Nat) (hj : j < (kidsP l i).length), PCalls Try.prog 13 [trA gs, .val (.int .i64 ((kidsP l i)[j] : Nat)), .val (.int .i64 i)] (.val (.bool true)) := fun j hj => by
          have := under_ok hg hgd hgl ((kidsP l i)[j] : Nat) i
          rwa [und_kid hgd hgl hlt (List.getElem_mem hj)] at this
        have hsort : ∀ (a b : Nat) (hab : a < b) (hb : b < (kidsP l i).length), (kidsP l i)[a]'(by omega) < (kidsP l i)[b] := fun a b hab hb => sorted_get (kidsP_sorted l i) hab hb
        have hdi : depF gs i ≤ 64 ∧ 0 ≤ depF gs i := by
          rw [depF_eq hgd hgl hlt]
          have := hgd.dle i (by omega)
          omega
        have htagi : 0 < (kidsP l i).length → tagB l i = true := fun h => by
          have h1 := mem_kidsP.1 (List.getElem_mem h)
          have h2 := (hgd.par _ h1.2.1 (by omega)).2.2
          rw [h1.2.2, Int.toNat_natCast] at h2
          rw [tagB, decide_eq_false h2]; rfl
        obtain ⟨K, hKd⟩ : ∃ K, K = kidsP l i := ⟨_, rfl⟩
        simp only [← hKd] at hcs hca hkl hkk hK hE hB hD hU hsort htagi
        have hKm : (K.map nD).length = K.length := List.length_map _
        have hEm : ((K.filter (tagB l)).map nD).length = (K.filter (tagB l)).length := List.length_map _
        repeat (first
          | refine awp_seq ?_
          | refine awp_block ?_
          | refine a_region ?_
          | refine awp_skip ?_
          | (refine r_id ?_; first
            | refine r_ev tab_ok rfl rfl rfl rfl (by first | exact trivial | exact ⟨by omega, by omega⟩ | omega | exact ⟨by omega, by omega, by omega, by omega⟩ | exact Nat.le_of_ble_eq_true rfl) rfl ?_))
        refine r_call hK call24 rfl rfl ⟨Sub.refl _, Sub.refl _, trivial⟩ rfl rfl rfl rfl ?_
        repeat (first
          | (refine r_id ?_; first
            | refine r_ev tab_ok rfl rfl rfl rfl (by first | exact trivial | exact ⟨by omega, by omega⟩ | omega | exact ⟨by omega, by omega, by omega, by omega⟩ | exact Nat.le_of_ble_eq_true rfl) rfl ?_))
        refine r_call hE call26 rfl rfl ⟨Sub.refl _, Sub.refl _, trivial⟩ rfl rfl rfl rfl ?_
        repeat (first
          | refine awp_seq ?_
          | refine thenA_normal ?_
          | refine awp_block ?_
          | refine a_region ?_
          | refine r_done ?_
          | (refine r_id ?_; first
            | refine r_ev tab_ok rfl rfl rfl rfl (by first | exact trivial | exact ⟨by omega, by omega⟩ | omega | exact ⟨by omega, by omega, by omega, by omega⟩ | exact Nat.le_of_ble_eq_true rfl) rfl ?_))
        refine a_loop (σ := {j : Nat // j ≤ K.length}) (fun _ => []) (fun x => [(0, .sl 4 (l.map rwD)), (3, trA gs), (5, .val (.int .i64 (cntP l i + x.1 : Nat))), (6, .val (.int .i64 i)), (7, .sl 1 (K.map nD)), (8, .sl 1 ((K.filter (tagB l)).map nD)), (9, .val (.int .i64 (((K.take x.1).filter (tagB l)).length : Nat))), (10, .val (.int .i64 x.1))]) (fun x => K.length - x.1) ⟨0, Nat.zero_le _⟩ (fits_of rfl (by repeat' first | exact trivial | exact Sub.refl _ | exact rfl | apply And.intro)) ?_
        rintro ⟨j, hj⟩
        dsimp only
        repeat (first
          | refine awp_seq ?_
          | refine thenA_normal ?_
          | refine a_region ?_
          | refine r_done ?_
          | (refine r_id ?_; first
            | refine r_len tab_ok rfl rfl rfl rfl rfl rfl rfl ?_
            | refine r_ev tab_ok rfl rfl rfl rfl (by first | exact trivial | exact ⟨by omega, by omega⟩ | omega | exact ⟨by omega, by omega, by omega, by omega⟩ | exact Nat.le_of_ble_eq_true rfl) rfl ?_))
        refine awp_cond_p rfl (fun hjl => ?_) (fun hjl => ?_)
        · have hjl : j < K.length := by omega
          have hkj := hkk K[j] (List.getElem_mem hjl)
          have hpar : (l[K[j]]'hkj.1).parent = i := by rw [rwAt_get]; exact hkj.2.2
          have hDj := hD j hjl
          have hUj := hU j hjl
          have hBj := hB j hjl
          have hjm : 0 < j → K[j - 1]'(by omega) < K[j] := fun h => hsort (j - 1) j (by omega) hjl
          repeat (first
            | refine awp_seq ?_
            | refine awp_skip ?_)
          refine awp_block ?_
          refine awp_seq ?_
          refine awp_cutw ⟨[], [(0, .sl 4 (l.map rwD)), (3, trA gs), (5, .val (.int .i64 (cntP l i + j : Nat))), (6, .val (.int .i64 i)), (7, .sl 1 (K.map nD)), (8, .sl 1 ((K.filter (tagB l)).map nD)), (9, .val (.int .i64 (((K.take j).filter (tagB l)).length : Nat))), (10, .val (.int .i64 j))]⟩ ?_ ?_
          · try clear hB
            try clear hD
            try clear hU
            try clear hsort
            try clear hkk
            try clear hsm
            try clear hs
            try clear hN
            try clear hT
            try clear hK
            try clear hE
            try clear htagi
            try clear hp
            try clear hgd
            try clear hcz
            try clear hcs
            try clear hok
            try clear hnew
            try clear htb
            try clear hKd
            try clear hk
            rcases Nat.eq_zero_or_pos j with hj0 | hj0
            · have hj1 : 0 = 0 := rfl
              repeat (first
                | refine awp_seq ?_
                | refine a_draw1 mixed_ok (by kernel_rfl) ?_
                | (refine r_id ?_; first
                  | refine r_ev tab_ok rfl rfl rfl rfl (by first | exact trivial | exact ⟨by omega, by omega⟩ | omega | exact ⟨by omega, by omega, by omega, by omega⟩ | exact Nat.le_of_ble_eq_true rfl) rfl ?_
                  | refine r_idx tab_ok rfl rfl rfl rfl rfl rfl rfl (by first | exact ⟨by omega, by omega⟩ | (simp; omega)) rfl rfl ?_))
              try simp only [Int.toNat_natCast]
              repeat (first
                | (refine r_id ?_; first
                  | refine r_len tab_ok rfl rfl rfl rfl rfl rfl rfl ?_
                  | refine r_ev tab_ok rfl rfl rfl rfl (by first | exact trivial | exact ⟨by omega, by omega⟩ | omega | exact ⟨by omega, by omega, by omega, by omega⟩ | exact Nat.le_of_ble_eq_true rfl) rfl ?_
                  | refine r_idx tab_ok rfl rfl rfl rfl rfl rfl rfl (by first | exact ⟨by omega, by omega⟩ | (simp; omega)) rfl rfl ?_)
                | refine r_g rfl rfl (congrArg (fun b => AV.val (.bool b)) (decide_eq_false (by omega))) ?_
                | refine r_pick_f rfl rfl (congrArg (fun b => AV.val (.bool b)) (decide_eq_false (by omega))) rfl rfl rfl rfl ?_)
              try simp only [Int.toNat_natCast]
              repeat (first
                | (refine r_id ?_; first
                  | refine r_ev tab_ok rfl rfl rfl rfl (by first | exact trivial | exact ⟨by omega, by omega⟩ | omega | exact ⟨by omega, by omega, by omega, by omega⟩ | exact Nat.le_of_ble_eq_true rfl) rfl ?_
                  | refine r_idx tab_ok rfl rfl rfl rfl rfl rfl rfl (by first | exact ⟨by omega, by omega⟩ | (simp; omega)) rfl rfl ?_)
                | refine r_g rfl rfl (congrArg (fun b => AV.val (.bool b)) (decide_eq_false (by omega))) ?_
                | refine r_pick_f rfl rfl (congrArg (fun b => AV.val (.bool b)) (decide_eq_false (by omega))) rfl rfl rfl rfl ?_)
              try simp only [Int.toNat_natCast]
              repeat (first
                | refine thenA_normal ?_
                | refine awp_skip ?_
                | refine r_done' ?_
                | (refine r_id ?_; first
                  | refine r_ev tab_ok rfl rfl rfl rfl (by first | exact trivial | exact ⟨by omega, by omega⟩ | omega | exact ⟨by omega, by omega, by omega, by omega⟩ | exact Nat.le_of_ble_eq_true rfl) rfl ?_
                  | refine r_idx tab_ok rfl rfl rfl rfl rfl rfl rfl (by first | exact ⟨by omega, by omega⟩ | (simp; omega)) rfl rfl ?_
                  | refine r_pick_f rfl rfl rfl rfl rfl rfl rfl ?_
                  | refine r_ev_on tab_ok rfl rfl rfl rfl rfl rfl (by first | exact trivial | exact ⟨by omega, by omega⟩ | omega) rfl ?_)
                | refine awp_cond_f rfl ?_
                | refine r_g rfl rfl rfl ?_
                | refine r_pick_f rfl rfl (congrArg (fun b => AV.val (.bool b)) (decide_eq_false (by omega))) rfl rfl rfl rfl ?_
                | refine r_off rfl rfl (congrArg (fun b => AV.val (.bool b)) (decide_eq_false (by omega))) rfl rfl rfl ?_
                | refine r_g rfl rfl (congrArg (fun b => AV.val (.bool b)) (bnot_t (by omega))) ?_
                | refine r_pick_f rfl rfl (congrArg (fun b => AV.val (.bool b)) (bnot_t (by omega))) rfl rfl rfl rfl ?_
                | refine r_call hDj call27 rfl rfl ⟨Sub.refl _, Sub.refl _, trivial⟩ rfl rfl rfl rfl ?_
                | refine r_call hDi call27 rfl rfl ⟨Sub.refl _, Sub.refl _, trivial⟩ rfl rfl rfl rfl ?_
                | refine r_call hUj call13 rfl rfl ⟨Sub.refl _, Sub.refl _, Sub.refl _, trivial⟩ rfl rfl rfl rfl ?_)
              try simp only [Int.toNat_natCast]
              try simp only [Int.toNat_natCast]
              exact ⟨by first | rfl | trivial, fits_of rfl (by repeat' first | exact trivial | exact Sub.refl _ | exact rfl | apply And.intro)⟩
            · have hjm := hjm hj0
              have hj1 : ((j : Int) - 1).toNat = j - 1 := by omega
              repeat (first
                | refine awp_seq ?_
                | refine a_draw1 mixed_ok (by kernel_rfl) ?_
                | (refine r_id ?_; first
                  | refine r_ev tab_ok rfl rfl rfl rfl (by first | exact trivial | exact ⟨by omega, by omega⟩ | omega | exact ⟨by omega, by omega, by omega, by omega⟩ | exact Nat.le_of_ble_eq_true rfl) rfl ?_
                  | refine r_idx tab_ok rfl rfl rfl rfl rfl rfl rfl (by first | exact ⟨by omega, by omega⟩ | (simp; omega)) rfl rfl ?_))
              try simp only [Int.toNat_natCast, hj1]
              repeat (first
                | (refine r_id ?_; first
                  | refine r_len tab_ok rfl rfl rfl rfl rfl rfl rfl ?_
                  | refine r_ev tab_ok rfl rfl rfl rfl (by first | exact trivial | exact ⟨by omega, by omega⟩ | omega | exact ⟨by omega, by omega, by omega, by omega⟩ | exact Nat.le_of_ble_eq_true rfl) rfl ?_
                  | refine r_idx tab_ok rfl rfl rfl rfl rfl rfl rfl (by first | exact ⟨by omega, by omega⟩ | (simp; omega)) rfl rfl ?_)
                | refine r_g rfl rfl (congrArg (fun b => AV.val (.bool b)) (decide_eq_false (by omega))) ?_
                | refine r_pick_f rfl rfl (congrArg (fun b => AV.val (.bool b)) (decide_eq_false (by omega))) rfl rfl rfl rfl ?_)
              try simp only [Int.toNat_natCast, hj1]
              repeat (first
                | (refine r_id ?_; first
                  | refine r_ev tab_ok rfl rfl rfl rfl (by first | exact trivial | exact ⟨by omega, by omega⟩ | omega | exact ⟨by omega, by omega, by omega, by omega⟩ | exact Nat.le_of_ble_eq_true rfl) rfl ?_
                  | refine r_idx tab_ok rfl rfl rfl rfl rfl rfl rfl (by first | exact ⟨by omega, by omega⟩ | (simp; omega)) rfl rfl ?_)
                | refine r_g rfl rfl (congrArg (fun b => AV.val (.bool b)) (decide_eq_false (by omega))) ?_
                | refine r_pick_f rfl rfl (congrArg (fun b => AV.val (.bool b)) (decide_eq_false (by omega))) rfl rfl rfl rfl ?_)
              try simp only [Int.toNat_natCast, hj1]
              repeat (first
                | (refine r_id ?_; first
                  | refine r_ev tab_ok rfl rfl rfl rfl (by first | exact trivial | exact ⟨by omega, by omega⟩ | omega | exact ⟨by omega, by omega, by omega, by omega⟩ | exact Nat.le_of_ble_eq_true rfl) rfl ?_
                  | refine r_idx tab_ok rfl rfl rfl rfl rfl rfl rfl (by first | exact ⟨by omega, by omega⟩ | (simp; omega)) rfl rfl ?_)
                | refine r_g rfl rfl (congrArg (fun b => AV.val (.bool b)) (decide_eq_true (by omega))) ?_
                | refine r_pick_t rfl rfl (congrArg (fun b => AV.val (.bool b)) (decide_eq_true (by omega))) rfl rfl rfl rfl ?_
                | refine r_g rfl rfl (congrArg (fun b => AV.val (.bool b)) (bnot_t (by omega))) ?_
                | refine r_pick_f rfl rfl (congrArg (fun b => AV.val (.bool b)) (bnot_t (by omega))) rfl rfl rfl rfl ?_)
              try simp only [Int.toNat_natCast, hj1]
              repeat (first
                | refine thenA_normal ?_
                | refine awp_skip ?_
                | refine r_done' ?_
                | (refine r_id ?_; first
                  | refine r_ev tab_ok rfl rfl rfl rfl (by first | exact trivial | exact ⟨by omega, by omega⟩ | omega | exact ⟨by omega, by omega, by omega, by omega⟩ | exact Nat.le_of_ble_eq_true rfl) rfl ?_
                  | refine r_idx tab_ok rfl rfl rfl rfl rfl rfl rfl (by first | exact ⟨by omega, by omega⟩ | (simp; omega)) rfl rfl ?_)
                | refine awp_cond_f rfl ?_
                | refine r_g rfl rfl (congrArg (fun b => AV.val (.bool b)) (decide_eq_false (by omega))) ?_
                | refine r_pick_f rfl rfl (congrArg (fun b => AV.val (.bool b)) (decide_eq_false (by omega))) rfl rfl rfl rfl ?_
                | refine r_g rfl rfl (congrArg (fun b => AV.val (.bool b)) (bnot_t (by omega))) ?_
                | refine r_pick_f rfl rfl (congrArg (fun b => AV.val (.bool b)) (bnot_t (by omega))) rfl rfl rfl rfl ?_
                | refine r_call hDj call27 rfl rfl ⟨Sub.refl _, Sub.refl _, trivial⟩ rfl rfl rfl rfl ?_
                | refine r_call hDi call27 rfl rfl ⟨Sub.refl _, Sub.refl _, trivial⟩ rfl rfl rfl rfl ?_
                | refine r_call hUj call13 rfl rfl ⟨Sub.refl _, Sub.refl _, Sub.refl _, trivial⟩ rfl rfl rfl rfl ?_)
              try simp only [Int.toNat_natCast, hj1]
              exact ⟨by first | rfl | trivial, fits_of rfl (by repeat' first | exact trivial | exact Sub.refl _ | exact rfl | apply And.intro)⟩
          have htk := filter_take_succ (tagB l) hjl
          obtain ⟨A, hA⟩ : ∃ A, A = ((K.take j).filter (tagB l)).length := ⟨_, rfl⟩
          have hAr : (((K.take j).filter (tagB l)).reverse.map nD).length = A := by rw [List.length_map, List.length_reverse, hA]
          have hAm : A ≤ 24 := by rw [hA]; exact Nat.le_trans (List.length_filter_le _ _) (by rw [List.length_take]; omega)
          repeat (first
            | refine awp_seq ?_
            | refine thenA_normal ?_
            | refine a_region ?_
            | refine r_done ?_
            | (refine r_id ?_; first
              | refine r_ev tab_ok rfl rfl rfl rfl (by first | exact trivial | exact ⟨by omega, by omega⟩ | omega | exact ⟨by omega, by omega, by omega, by omega⟩ | exact Nat.le_of_ble_eq_true rfl) rfl ?_
              | refine r_idx tab_ok rfl rfl rfl rfl rfl rfl rfl (by first | exact ⟨by omega, by omega⟩ | (simp; omega)) rfl rfl ?_))
          try simp only [Int.toNat_natCast]
          try simp only [Int.toNat_natCast]
          refine awp_cond_p (p := l[K[j]].tag = emS) rfl (fun he => ?_) (fun hne => ?_)
          · have hno : tagB l K[j] = false := by rw [tagB, ← rwAt_get hkj.1, decide_eq_true he]; rfl
            rw [hno, if_neg Bool.false_ne_true, List.append_nil] at htk
            repeat (first
              | refine thenA_normal ?_
              | refine a_region ?_
              | refine awp_exit ?_
              | refine r_done ?_
              | (refine r_id ?_; first
                | refine r_ev tab_ok rfl rfl rfl rfl (by first | exact trivial | exact ⟨by omega, by omega⟩ | omega | exact ⟨by omega, by omega, by omega, by omega⟩ | exact Nat.le_of_ble_eq_true rfl) rfl ?_))
            exact ⟨⟨j + 1, by omega⟩, by dsimp only; omega, fits_of rfl ⟨Sub.refl _, Sub.refl _, Sub.refl _, Sub.refl _, Sub.refl _, Sub.refl _, Sub.of_eq (by rw [htk]; rfl), Sub.refl _, trivial⟩⟩
          · have hyes : tagB l K[j] = true := by rw [tagB, ← rwAt_get hkj.1, decide_eq_false hne]; rfl
            rw [hyes, if_pos rfl] at htk
            have hlt2 := filter_lt (tagB l) hjl hyes
            have hat := filter_at (tagB l) hjl hyes hlt2
            have hla : ∀ m, m + 1 = A → (h : m < (K.filter (tagB l)).length) → (h' : 0 < ((K.take j).filter (tagB l)).reverse.length) → ((K.take j).filter (tagB l)).reverse[0] = (K.filter (tagB l))[m] := fun m hm h h' => filter_last (tagB l) (by rw [hm, hA]) h h'
            obtain ⟨E, hEd⟩ : ∃ E, E = K.filter (tagB l) := ⟨_, rfl⟩
            obtain ⟨R, hRd⟩ : ∃ R, R = ((K.take j).filter (tagB l)).reverse := ⟨_, rfl⟩
            have hRl : R.length = A := by rw [hRd, List.length_reverse, hA]
            have hEA : A < E.length := by rw [hEd, hA]; exact hlt2
            have hE1 : E[A] = K[j] := by simp only [hEd, hA]; exact hat
            have hR0 : ∀ h : 0 < A, R[0]'(by omega) = E[A - 1]'(by omega) := fun h => by
              simp only [hEd, hRd]
              exact hla (A - 1) (by omega) (by rw [← hEd]; omega) (by rw [← hRd]; omega)
            have hEl : (E.map nD).length = E.length := List.length_map _
            have hRm : (R.map nD).length = R.length := List.length_map _
            rw [← hRd] at hBj
            refine awp_fits (s' := ⟨[], [(0, .sl 4 (l.map rwD)), (3, trA gs), (5, .val (.int .i64 ((cntP l i + j : Nat) + 1 : Int))), (6, .val (.int .i64 i)), (7, .sl 1 (K.map nD)), (8, .sl 1 (E.map nD)), (9, .val (.int .i64 A)), (10, .val (.int .i64 j))]⟩)
              (fits_of rfl ⟨Sub.refl _, Sub.refl _, Sub.refl _, Sub.refl _, Sub.refl _, Sub.of_eq (by rw [hEd]; rfl), Sub.of_eq (by rw [hA]; rfl), Sub.refl _, trivial⟩) ?_
            rcases Nat.eq_zero_or_pos A with hA0 | hA0
            · repeat (first
                | refine awp_seq ?_
                | refine a_region ?_
                | refine awp_skip ?_
                | (refine r_id ?_; first
                  | refine r_ev tab_ok rfl rfl rfl rfl (by first | exact trivial | exact ⟨by omega, by omega⟩ | omega | exact ⟨by omega, by omega, by omega, by omega⟩ | exact Nat.le_of_ble_eq_true rfl) rfl ?_
                  | refine r_idx tab_ok rfl rfl rfl rfl rfl rfl rfl (by first | exact ⟨by omega, by omega⟩ | (simp; omega)) rfl rfl ?_))
              refine r_call hBj call29 rfl rfl ⟨Sub.refl _, Sub.refl _, trivial⟩ rfl rfl rfl rfl ?_
              repeat (first
                | refine awp_seq ?_
                | refine a_draw1 mixed_ok (by kernel_rfl) ?_
                | refine r_done ?_
                | (refine r_id ?_; first
                  | refine r_len tab_ok rfl rfl rfl rfl rfl rfl rfl ?_
                  | refine r_ev tab_ok rfl rfl rfl rfl (by first | exact trivial | exact ⟨by omega, by omega⟩ | omega | exact ⟨by omega, by omega, by omega, by omega⟩ | exact Nat.le_of_ble_eq_true rfl) rfl ?_
                  | refine r_idx tab_ok rfl rfl rfl rfl rfl rfl rfl (by first | exact ⟨by omega, by omega⟩ | (simp; omega)) rfl rfl ?_)
                | refine r_g rfl rfl (congrArg (fun b => AV.val (.bool b)) (decide_eq_false (by omega))) ?_
                | refine r_pick_f rfl rfl (congrArg (fun b => AV.val (.bool b)) (decide_eq_false (by omega))) rfl rfl rfl rfl ?_)
              try simp only [Int.toNat_natCast, hE1]
              repeat (first
                | refine thenA_normal ?_
                | refine a_region ?_
                | refine awp_skip ?_
                | refine r_done ?_
                | refine r_done' ?_
                | (refine r_id ?_; first
                  | refine r_ev tab_ok rfl rfl rfl rfl (by first | exact trivial | exact ⟨by omega, by omega⟩ | omega | exact ⟨by omega, by omega, by omega, by omega⟩ | exact Nat.le_of_ble_eq_true rfl) rfl ?_
                  | refine r_pick_f rfl rfl rfl rfl rfl rfl rfl ?_
                  | refine r_len_on tab_ok rfl rfl rfl rfl rfl rfl rfl rfl rfl ?_
                  | refine r_ev_on tab_ok rfl rfl rfl rfl rfl rfl (by first | exact trivial | exact ⟨by omega, by omega⟩ | omega) rfl ?_)
                | refine awp_cond_f rfl ?_
                | refine r_pick_f rfl rfl (congrArg (fun b => AV.val (.bool b)) (decide_eq_false (by omega))) rfl rfl rfl rfl ?_
                | refine r_off rfl rfl (congrArg (fun b => AV.val (.bool b)) (decide_eq_false (by omega))) rfl rfl rfl ?_
                | refine r_g rfl rfl (congrArg (fun b => AV.val (.bool b)) (bnot_t (by omega))) ?_
                | refine r_pick_f rfl rfl (congrArg (fun b => AV.val (.bool b)) (bnot_t (by omega))) rfl rfl rfl rfl ?_)
              try simp only [Int.toNat_natCast, hE1]
              try simp only [Int.toNat_natCast, hE1]
              exact ⟨⟨j + 1, by omega⟩, by dsimp only; omega, fits_of rfl ⟨Sub.refl _, Sub.refl _, Sub.refl _, Sub.refl _, Sub.refl _, Sub.of_eq (by show AV.sl 1 (List.map nD E) = AV.sl 1 (List.map nD (K.filter (tagB l))); rw [hEd]), Sub.of_eq (by show AV.val (.int .i64 ((A : Int) + 1)) = AV.val (.int .i64 ((((K.take (j + 1)).filter (tagB l)).length : Nat) : Int)); rw [htk, List.length_append, ← hA]; rfl), Sub.refl _, trivial⟩⟩
            · have hR0 := hR0 hA0
              have hA1 : ((A : Int) - 1).toNat = A - 1 := by omega
              repeat (first
                | refine awp_seq ?_
                | refine a_region ?_
                | refine awp_skip ?_
                | (refine r_id ?_; first
                  | refine r_ev tab_ok rfl rfl rfl rfl (by first | exact trivial | exact ⟨by omega, by omega⟩ | omega | exact ⟨by omega, by omega, by omega, by omega⟩ | exact Nat.le_of_ble_eq_true rfl) rfl ?_
                  | refine r_idx tab_ok rfl rfl rfl rfl rfl rfl rfl (by first | exact ⟨by omega, by omega⟩ | (simp; omega)) rfl rfl ?_))
              refine r_call hBj call29 rfl rfl ⟨Sub.refl _, Sub.refl _, trivial⟩ rfl rfl rfl rfl ?_
              repeat (first
                | refine awp_seq ?_
                | refine a_draw1 mixed_ok (by kernel_rfl) ?_
                | refine r_done ?_
                | (refine r_id ?_; first
                  | refine r_len tab_ok rfl rfl rfl rfl rfl rfl rfl ?_
                  | refine r_ev tab_ok rfl rfl rfl rfl (by first | exact trivial | exact ⟨by omega, by omega⟩ | omega | exact ⟨by omega, by omega, by omega, by omega⟩ | exact Nat.le_of_ble_eq_true rfl) rfl ?_
                  | refine r_idx tab_ok rfl rfl rfl rfl rfl rfl rfl (by first | exact ⟨by omega, by omega⟩ | (simp; omega)) rfl rfl ?_)
                | refine r_g rfl rfl (congrArg (fun b => AV.val (.bool b)) (decide_eq_false (by omega))) ?_
                | refine r_pick_f rfl rfl (congrArg (fun b => AV.val (.bool b)) (decide_eq_false (by omega))) rfl rfl rfl rfl ?_)
              try simp only [Int.toNat_natCast, hA1, hE1, hR0]
              repeat (first
                | refine thenA_normal ?_
                | refine r_done' ?_
                | (refine r_id ?_; first
                  | refine r_ev tab_ok rfl rfl rfl rfl (by first | exact trivial | exact ⟨by omega, by omega⟩ | omega | exact ⟨by omega, by omega, by omega, by omega⟩ | exact Nat.le_of_ble_eq_true rfl) rfl ?_
                  | refine r_idx tab_ok rfl rfl rfl rfl rfl rfl rfl (by first | exact ⟨by omega, by omega⟩ | (simp; omega)) rfl rfl ?_
                  | refine r_pick_f rfl rfl rfl rfl rfl rfl rfl ?_
                  | refine r_len_on tab_ok rfl rfl rfl rfl rfl rfl rfl rfl rfl ?_
                  | refine r_ev_on tab_ok rfl rfl rfl rfl rfl rfl (by first | exact trivial | exact ⟨by omega, by omega⟩ | omega) rfl ?_)
                | refine r_g rfl rfl (congrArg (fun b => AV.val (.bool b)) (decide_eq_true (by omega))) ?_
                | refine r_pick_t rfl rfl (congrArg (fun b => AV.val (.bool b)) (decide_eq_true (by omega))) rfl rfl rfl rfl ?_
                | refine r_g rfl rfl (congrArg (fun b => AV.val (.bool b)) (bnot_t (by omega))) ?_
                | refine r_pick_f rfl rfl (congrArg (fun b => AV.val (.bool b)) (bnot_t (by omega))) rfl rfl rfl rfl ?_)
              try simp only [Int.toNat_natCast, hA1, hE1, hR0]
              try simp only [Int.toNat_natCast, hA1, hE1, hR0]
              refine awp_cond_n rfl (fun h => absurd (congrArg Int.ofNat hR0) h) (fun _ => ?_)
              repeat (first
                | refine thenA_normal ?_
                | refine a_region ?_
                | refine awp_skip ?_
                | refine r_done ?_
                | (refine r_id ?_; first
                  | refine r_ev tab_ok rfl rfl rfl rfl (by first | exact trivial | exact ⟨by omega, by omega⟩ | omega | exact ⟨by omega, by omega, by omega, by omega⟩ | exact Nat.le_of_ble_eq_true rfl) rfl ?_))
              exact ⟨⟨j + 1, by omega⟩, by dsimp only; omega, fits_of rfl ⟨Sub.refl _, Sub.refl _, Sub.refl _, Sub.refl _, Sub.refl _, Sub.of_eq (by show AV.sl 1 (List.map nD E) = AV.sl 1 (List.map nD (K.filter (tagB l))); rw [hEd]), Sub.of_eq (by show AV.val (.int .i64 ((A : Int) + 1)) = AV.val (.int .i64 ((((K.take (j + 1)).filter (tagB l)).length : Nat) : Int)); rw [htk, List.length_append, ← hA]; rfl), Sub.refl _, trivial⟩⟩
        · have hjK : j = K.length := by omega
          subst hjK
          rw [List.take_length]
          have hd00 := depth_ok gs 0 hg
          repeat (first
            | refine awp_seq ?_
            | refine thenA_normal ?_
            | refine a_region ?_
            | refine awp_exit ?_
            | refine r_done ?_
            | (refine r_id ?_; first
              | refine r_len tab_ok rfl rfl rfl rfl rfl rfl rfl ?_
              | refine r_ev tab_ok rfl rfl rfl rfl (by first | exact trivial | exact ⟨by omega, by omega⟩ | omega | exact ⟨by omega, by omega, by omega, by omega⟩ | exact Nat.le_of_ble_eq_true rfl) rfl ?_
              | refine r_len_cnd tab_ok rfl rfl rfl rfl rfl rfl (by first | exact fun _ => rfl | exact cs1) rfl rfl rfl ?_
              | refine r_ev_cnd tab_ok rfl rfl rfl rfl rfl rfl (by first | exact fun _ => rfl | exact cs1 | exact cs2 | exact cs3) (by first | exact fun _ => trivial | (intro h; simp at h; first | exact ⟨by omega, by omega⟩ | omega)) rfl ?_
              | refine r_idx_cnd tab_ok rfl rfl rfl rfl rfl rfl rfl (by first | exact fun _ => rfl | exact cs1 | exact cs2) rfl rfl (by exact ⟨by omega, by omega⟩) rfl rfl ?_
              | refine r_and_cnd rfl rfl rfl rfl rfl rfl rfl rfl rfl rfl ?_
              | refine r_or rfl rfl rfl rfl rfl rfl rfl rfl ?_))
          refine awp_cond rfl (fun hc => ?_) (fun _ => ?_)
          · exfalso
            simp only [Bool.or_eq_true, Bool.and_eq_true, Bool.not_eq_true', decide_eq_true_eq, decide_eq_false_iff_not] at hc
            rcases hc with hc | ⟨hc1, hc2⟩
            · exact hc trivial
            · have := htagi (by omega)
              rw [tagB, ← rwAt_get hlt] at this
              simp only [Bool.not_eq_true', decide_eq_false_iff_not] at this
              exact this hc1
          · repeat (first
              | refine thenA_normal ?_
              | refine a_region ?_
              | refine awp_skip ?_
              | refine r_done ?_
              | (refine r_id ?_; first
                | refine r_ev tab_ok rfl rfl rfl rfl (by first | exact trivial | exact ⟨by omega, by omega⟩ | omega | exact ⟨by omega, by omega, by omega, by omega⟩ | exact Nat.le_of_ble_eq_true rfl) rfl ?_))
            exact ⟨⟨i + 1, by omega⟩, by dsimp only; omega, fits_of rfl ⟨Sub.refl _, Sub.refl _, Sub.of_eq (by rw [hcs]; rfl), Sub.refl _, trivial⟩⟩
      · have hil : i = l.length := by omega
        subst hil
        have hca := cnt_all hp h0
        have hd0 := depth_ok gs 0 hg
        rw [show depF gs 0 = 1 by
          have := depF_eq hgd hgl (i := 0) h0
          rw [show ((0 : Nat) : Int) = 0 from rfl] at this
          rw [this, hgd.dep0 (by omega)]; rfl] at hd0
        repeat (first
          | refine awp_seq ?_
          | refine a_region ?_
          | refine awp_exit ?_
          | (refine r_id ?_; first
            | refine r_len tab_ok rfl rfl rfl rfl rfl rfl rfl ?_
            | refine r_ev tab_ok rfl rfl rfl rfl (by first | exact trivial | exact ⟨by omega, by omega⟩ | omega | exact ⟨by omega, by omega, by omega, by omega⟩ | exact Nat.le_of_ble_eq_true rfl) rfl ?_
            | refine r_ev_cnd tab_ok rfl rfl rfl rfl rfl rfl (by first | exact fun _ => rfl | exact cs1 | exact cs2 | exact cs3) (by first | exact fun _ => trivial | (intro h; simp at h; first | exact ⟨by omega, by omega⟩ | omega)) rfl ?_))
        refine r_call_cnd (fun _ => hd0) call27 rfl rfl rfl rfl (by first | exact fun _ => rfl | exact cs1 | exact cs2 | exact cs3) ⟨Sub.refl _, Sub.refl _, trivial⟩ rfl rfl rfl rfl ?_
        repeat (first
          | (refine r_id ?_; first
            | refine r_ev tab_ok rfl rfl rfl rfl (by first | exact trivial | exact ⟨by omega, by omega⟩ | omega | exact ⟨by omega, by omega, by omega, by omega⟩ | exact Nat.le_of_ble_eq_true rfl) rfl ?_
            | refine r_ev_cnd tab_ok rfl rfl rfl rfl rfl rfl (by first | exact fun _ => rfl | exact cs1 | exact cs2 | exact cs3) (by first | exact fun _ => trivial | (intro h; simp at h; first | exact ⟨by omega, by omega⟩ | omega)) rfl ?_
            | refine r_and rfl rfl rfl rfl rfl rfl rfl rfl ?_))
        refine r_call_cnd (fun _ => awake_ok) call8 rfl rfl rfl rfl (by first | exact fun _ => rfl | exact cs1 | exact cs2 | exact cs3) trivial rfl rfl rfl rfl ?_
        repeat (first
          | refine thenA_normal ?_
          | refine awp_ret ?_
          | refine r_done ?_
          | (refine r_id ?_; first
            | refine r_ev tab_ok rfl rfl rfl rfl (by first | exact trivial | exact ⟨by omega, by omega⟩ | omega | exact ⟨by omega, by omega, by omega, by omega⟩ | exact Nat.le_of_ble_eq_true rfl) rfl ?_
            | refine r_and rfl rfl rfl rfl rfl rfl rfl rfl ?_)
          | refine ret1 (by first | exact .inl rfl | exact .inr rfl) rfl rfl rfl ?_)
        exact Sub.of_eq (by rw [decide_eq_true (show ((cntP l l.length : Nat) : Int) = (l.length : Int) - 1 by omega)]; rfl)
end Go.Proofs.Ytklodolkgdmhoaa
