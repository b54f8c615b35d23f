/- The reference's Sheet of any bytes (also where there are too many rules); walked. -/
import Derived.Test.YtiolnmfaeenlmaaGreatDoorw1
import Derived.Test.YtiolnmfaeenlmaaGreatDoorR0
namespace Go.Proofs.YtiolnmfaeenlmaaGreatDoor
open Go Go.RowKit
set_option maxRecDepth 20000

def shN (l : List Nd) : List Rl × Int := if 500 < (shtA l 0).length then ([], 3) else (shtA l 0, 0)
set_option maxHeartbeats 8000000 in
theorem sheetE_ok (b : List UInt8) (hb : b.length ≤ 65536) (ht : ∀ n ∈ nodesA (toksF (readL ⟨b.toArray⟩)) 0, n.tok.text.size ≤ 1099511627776) (hk : ∀ n ∈ nodesA (toksF (readL ⟨b.toArray⟩)) 0, ∀ m ∈ n.kids, m.tok.text.size ≤ 1099511627776) : PCalls Tryz.prog 13 [.sl 1 (b.map bD)] (.tup [.sl 4 ((shN (nodesA (toksF (readL ⟨b.toArray⟩)) 0)).1.map rlD), .val (.int .i64 (shN (nodesA (toksF (readL ⟨b.toArray⟩)) 0)).2)]) := by
  refine p_start Tryz.func13 Tryz.ntmps13 rfl rfl rfl fun S w => ?_
  have hbm : (b.map bD).length = b.length := List.length_map _
  have hbig : ¬ (65536 : Int) < b.length := by omega
  repeat (first
    | refine awp_seq ?_
    | refine thenA_normal ?_
    | refine a_region ?_
    | refine r_done ?_
    | (refine r_id ?_; first
      | refine r_len tab_ok rfl rfl rfl rfl rfl rfl rfl ?_
      | refine r_ev tab_ok rfl rfl rfl rfl (by first | exact trivial | exact ⟨by omega, by omega⟩ | omega | exact ⟨by omega, by omega, by omega, by omega⟩ | exact Nat.le_of_ble_eq_true rfl) rfl ?_))
  refine awp_cond_p rfl (fun h => absurd h hbig) (fun _ => ?_)
  repeat (first
    | refine awp_seq ?_
    | refine a_region ?_
    | refine awp_skip ?_
    | (refine r_id ?_; first
      | refine r_ev tab_ok rfl rfl rfl rfl (by first | exact trivial | exact ⟨by omega, by omega⟩ | omega | exact ⟨by omega, by omega, by omega, by omega⟩ | exact Nat.le_of_ble_eq_true rfl) rfl ?_))
  refine r_call (refRead b (by omega)) call33 rfl rfl ⟨Sub.refl _, trivial⟩ rfl rfl rfl rfl ?_
  have hl1 := readL_len ⟨b.toArray⟩
  have hbs : (⟨b.toArray⟩ : ByteArray).size = b.length := List.size_toArray
  refine r_call (tokens_ok (readL ⟨b.toArray⟩) (by omega)) call32 rfl rfl ⟨Sub.refl _, trivial⟩ rfl rfl rfl rfl ?_
  have hl2 : (toksF (readL ⟨b.toArray⟩)).length ≤ 65536 := by
    obtain ⟨r, j, h1, h2, h3, h4, h5⟩ := goAt_end (tStep_goes (readL ⟨b.toArray⟩)) (readL ⟨b.toArray⟩).length 0 (Nat.zero_le _) (by omega)
    rw [toksF]
    omega
  refine r_call (nodes_ok (toksF (readL ⟨b.toArray⟩)) (by omega)) call31 rfl rfl ⟨Sub.refl _, trivial⟩ rfl rfl rfl rfl ?_
  have hl3 := nodesA_sz (toksF (readL ⟨b.toArray⟩))
  generalize nodesA (toksF (readL ⟨b.toArray⟩)) 0 = l at ht hk hl3 ⊢
  have hll := nszs_len l
  have hlm : (l.map nF).length = l.length := List.length_map _
  repeat (first
    | refine awp_seq ?_
    | refine thenA_normal ?_
    | refine awp_block ?_
    | refine a_region ?_
    | refine r_done ?_
    | (refine r_id ?_; first
      | refine r_ev tab_ok rfl rfl rfl rfl (by first | exact trivial | exact ⟨by omega, by omega⟩ | omega | exact ⟨by omega, by omega, by omega, by omega⟩ | exact Nat.le_of_ble_eq_true rfl) rfl ?_))
  refine a_loop (σ := ShS l) (fun x => [.row 0 45 4 (x.out.map rlD)]) (fun x => [(4, .sl 7 (l.map nF)), (5, .row 0 0), (6, .val (.int .i64 x.i))]) (fun x => l.length + 1 - x.i) ⟨0, [], Nat.zero_le _, Nat.zero_le _, rfl⟩ (fits_conv (by repeat' first | exact trivial | exact rfl | (rw [List.map_append]; first | done | rfl) | exact c_sub rfl (Sub.refl _) rfl | exact c_nil rfl rfl | exact c_thaw rfl rfl rfl | exact c_row rfl rfl rfl | exact c_row rfl rfl (by rw [List.map_append]; first | done | rfl) | exact c_ptr rfl rfl rfl rfl | exact Or.inl ⟨c_sub rfl (Sub.refl _) rfl, c_ptr rfl rfl rfl rfl⟩ | exact c_alt rfl rfl rfl rfl | exact c_ro rfl rfl | exact c_eo rfl rfl | exact c_sub rfl (Sub.altl _ _) rfl | exact c_sub rfl (Sub.nil _) rfl | refine ⟨_, _, rfl, ?_, ?_⟩ | apply And.intro) (by repeat' first | exact trivial | exact rfl | (rw [List.map_append]; first | done | rfl) | exact c_sub rfl (Sub.refl _) rfl | exact c_nil rfl rfl | exact c_thaw rfl rfl rfl | exact c_row rfl rfl rfl | exact c_row rfl rfl (by rw [List.map_append]; first | done | rfl) | exact c_ptr rfl rfl rfl rfl | exact Or.inl ⟨c_sub rfl (Sub.refl _) rfl, c_ptr rfl rfl rfl rfl⟩ | exact c_alt rfl rfl rfl rfl | exact c_ro rfl rfl | exact c_eo rfl rfl | exact c_sub rfl (Sub.altl _ _) rfl | exact c_sub rfl (Sub.nil _) rfl | refine ⟨_, _, rfl, ?_, ?_⟩ | apply And.intro)) ?_
  rintro ⟨i, out, hol, hi, heq⟩
  dsimp only
  have hom : (out.map rlD).length = out.length := List.length_map _
  repeat (first
    | refine awp_seq ?_
    | refine thenA_normal ?_
    | refine a_region ?_
    | refine r_done ?_
    | (refine r_id ?_; first
      | refine r_len tab_ok rfl rfl rfl rfl rfl rfl rfl ?_
      | refine r_ev tab_ok rfl rfl rfl rfl (by first | exact trivial | exact ⟨by omega, by omega⟩ | omega | exact ⟨by omega, by omega, by omega, by omega⟩ | exact Nat.le_of_ble_eq_true rfl) rfl ?_))
  refine awp_cond_p rfl (fun hlt => ?_) (fun hge => ?_)
  rotate_left
  · rw [shtA_end (by omega), List.append_nil] at heq
    rw [heq] at hom ⊢
    repeat (first
      | refine awp_seq ?_
      | refine thenA_normal ?_
      | refine a_region ?_
      | refine awp_exit ?_
      | refine r_done ?_
      | (refine r_id ?_; first
        | refine r_ev tab_ok rfl rfl rfl rfl (by first | exact trivial | exact ⟨by omega, by omega⟩ | omega | exact ⟨by omega, by omega, by omega, by omega⟩ | exact Nat.le_of_ble_eq_true rfl) rfl ?_
        | refine r_ld tab_ok rfl rfl rfl rfl rfl ?_))
    refine awp_cond_p rfl (fun h5 => ?_) (fun h5 => ?_)
    · rw [shN, if_pos (by omega)]
      repeat (first
        | refine awp_seq ?_
        | refine thenA_normal ?_
        | refine a_region ?_
        | refine awp_ret ?_
        | refine thenA_ret ?_
        | refine r_done ?_
        | (refine r_id ?_; first
          | refine r_ev tab_ok rfl rfl rfl rfl (by first | exact trivial | exact ⟨by omega, by omega⟩ | omega | exact ⟨by omega, by omega, by omega, by omega⟩ | exact Nat.le_of_ble_eq_true rfl) rfl ?_)
        | refine ret2 (by first | exact .inl rfl | exact .inr rfl) rfl rfl rfl rfl ?_ ?_)
      all_goals first | exact Sub.nil _ | exact Sub.refl _
    rw [shN, if_neg (by omega)]
    repeat (first
      | refine awp_seq ?_
      | refine thenA_normal ?_
      | refine a_region ?_
      | refine awp_skip ?_
      | refine r_done ?_
      | (refine r_id ?_; first
        | refine r_ev tab_ok rfl rfl rfl rfl (by first | exact trivial | exact ⟨by omega, by omega⟩ | omega | exact ⟨by omega, by omega, by omega, by omega⟩ | exact Nat.le_of_ble_eq_true rfl) rfl ?_))
    refine awp_fits (s' := ⟨[.gone], [(2, .sl 4 ((shtA l 0).map rlD)), (3, .val (.int .i64 0))]⟩) (fits_conv (by repeat' first | exact trivial | exact rfl | (rw [List.map_append]; first | done | rfl) | exact c_sub rfl (Sub.refl _) rfl | exact c_nil rfl rfl | exact c_thaw rfl rfl rfl | exact c_row rfl rfl rfl | exact c_row rfl rfl (by rw [List.map_append]; first | done | rfl) | exact c_ptr rfl rfl rfl rfl | exact Or.inl ⟨c_sub rfl (Sub.refl _) rfl, c_ptr rfl rfl rfl rfl⟩ | exact c_alt rfl rfl rfl rfl | exact c_ro rfl rfl | exact c_eo rfl rfl | exact c_sub rfl (Sub.altl _ _) rfl | exact c_sub rfl (Sub.nil _) rfl | refine ⟨_, _, rfl, ?_, ?_⟩ | apply And.intro) ⟨c_thaw rfl rfl rfl, c_sub rfl (Sub.refl _) rfl, trivial⟩) ?_
    repeat (first
      | refine awp_ret ?_
      | refine ret2 (by first | exact .inl rfl | exact .inr rfl) rfl rfl rfl rfl ?_ ?_)
    all_goals exact Sub.refl _
  have hi' : i < l.length := by omega
  have hgi := ndAt_get hi'
  rw [shtA_step hi'] at heq
  obtain ⟨n, hn⟩ : ∃ n, ndAt l i = n := ⟨_, rfl⟩
  have hnt := ht n (by rw [← hn, ← hgi]; exact List.getElem_mem hi')
  simp only [hn] at heq hgi
  repeat (first
    | refine awp_seq ?_
    | refine thenA_normal ?_
    | refine awp_block ?_
    | refine a_region ?_
    | refine awp_skip ?_
    | refine r_done ?_
    | (refine r_id ?_; first
      | refine r_ev tab_ok rfl rfl rfl rfl (by first | exact trivial | exact ⟨by omega, by omega⟩ | omega | exact ⟨by omega, by omega, by omega, by omega⟩ | exact Nat.le_of_ble_eq_true rfl) rfl ?_
      | refine r_ld tab_ok rfl rfl rfl rfl rfl ?_
      | refine r_idx tab_ok rfl rfl rfl rfl rfl rfl rfl (by first | exact ⟨by omega, by omega⟩ | (simp; omega)) rfl rfl ?_
      | refine r_wr tab_ok rfl rfl rfl rfl rfl ?_
      | refine r_st tab_ok rfl rfl rfl rfl ?_
      | refine r_ev_cnd tab_ok rfl rfl rfl rfl rfl rfl (by first | exact fun _ => rfl | exact cs1 | exact cs2 | exact cs3) (by first | exact fun _ => trivial | (intro h; simp at h; first | exact ⟨by omega, by omega⟩ | omega)) rfl ?_
      | refine r_ld_cnd tab_ok rfl rfl rfl rfl rfl rfl (by first | exact fun _ => rfl | exact cs1 | exact cs2 | exact cs3) rfl ?_
      | refine r_or rfl rfl rfl rfl rfl rfl rfl rfl ?_))
  simp only [Int.toNat_natCast, hgi]
  refine awp_cond rfl (fun hc => ?_) (fun hc => ?_)
  · rw [if_pos (show skB n = true from hc)] at heq
    repeat (first
      | refine awp_seq ?_
      | refine thenA_normal ?_
      | refine a_region ?_
      | refine awp_exit ?_
      | refine thenA_exit ?_
      | refine blockA_hit rfl ?_
      | refine r_done ?_
      | (refine r_id ?_; first
        | refine r_ev tab_ok rfl rfl rfl rfl (by first | exact trivial | exact ⟨by omega, by omega⟩ | omega | exact ⟨by omega, by omega, by omega, by omega⟩ | exact Nat.le_of_ble_eq_true rfl) rfl ?_))
    exact ⟨⟨i + 1, out, by omega, by omega, heq⟩, by dsimp only; omega, fits_drop 1 rfl rfl (by repeat' first | exact trivial | exact Sub.refl _ | exact rfl | apply And.intro)⟩
  rw [if_neg (by rw [show skB n = false from hc]; exact Bool.false_ne_true)] at heq
  cases ha : atKB n with
  | true =>
    have hfr : frI l i = i + 1 := by rw [frI, hn, ha]; rfl
    obtain ⟨kE, hkE⟩ : ∃ kE, kE = runE (goB true) l (i + 1) := ⟨_, rfl⟩
    have hen : enI l i = kE := by rw [enI, hfr, hn, ha, hkE]
    have hfl : i + 1 ≤ l.length := by omega
    have hkge : i + 1 ≤ kE := by rw [hkE]; exact runE_ge _ _ _
    have hkle : kE ≤ l.length := by rw [hkE]; exact runE_le hfl
    rw [hen] at heq
    have hat3 : n.tok.kind = 3 := by simpa [atKB] using ha
    repeat (first
      | refine awp_seq ?_
      | refine thenA_normal ?_
      | refine a_region ?_
      | refine awp_skip ?_
      | refine r_done ?_
      | (refine r_id ?_; first
        | refine r_ev tab_ok rfl rfl rfl rfl (by first | exact trivial | exact ⟨by omega, by omega⟩ | omega | exact ⟨by omega, by omega, by omega, by omega⟩ | exact Nat.le_of_ble_eq_true rfl) rfl ?_
        | refine r_ld tab_ok rfl rfl rfl rfl rfl ?_
        | refine r_wr tab_ok rfl rfl rfl rfl rfl ?_))
    refine awp_cond_p rfl (fun _ => ?_) (fun h => absurd hat3 h)
    repeat (first
      | refine awp_seq ?_
      | refine a_region ?_
      | (refine r_id ?_; first
        | refine r_ev tab_ok rfl rfl rfl rfl (by first | exact trivial | exact ⟨by omega, by omega⟩ | omega | exact ⟨by omega, by omega, by omega, by omega⟩ | exact Nat.le_of_ble_eq_true rfl) rfl ?_
        | refine r_ld tab_ok rfl rfl rfl rfl rfl ?_))
    refine r_call (refLower n.tok.text (by omega)) call34 rfl rfl ⟨Sub.refl _, trivial⟩ rfl rfl rfl rfl ?_
    repeat (first
      | refine awp_seq ?_
      | refine thenA_normal ?_
      | refine awp_block ?_
      | refine a_region ?_
      | refine r_done ?_
      | (refine r_id ?_; first
        | refine r_ev tab_ok rfl rfl rfl rfl (by first | exact trivial | exact ⟨by omega, by omega⟩ | omega | exact ⟨by omega, by omega, by omega, by omega⟩ | exact Nat.le_of_ble_eq_true rfl) rfl ?_
        | refine r_st tab_ok rfl rfl rfl rfl ?_))
    refine a_loop (σ := {k : Nat // i + 1 ≤ k ∧ k ≤ kE}) (fun _ => [.row 0 45 4 (out.map rlD), .box 47 [.val (.int .i64 n.tok.kind), .val (.string n.tok.text), .val (.int .i64 n.tok.int), .val (.bool n.tok.whole), .val (.bool n.tok.sign), .val (.bool n.tok.id)], .box 45 [.val (.string (lowS n.tok.text)), .val (.slice none 0 0), .val (.bool false), .val (.slice none 0 0)]]) (fun x => [(4, .sl 7 (l.map nF)), (5, .row 0 0), (8, .val (.bool true)), (9, .ptr 2 0), (10, .val (.int .i64 (x.1 : Nat))), (11, .val (.int .i64 (i + 1 : Nat)))]) (fun x => l.length - x.1) ⟨i + 1, Nat.le_refl _, hkge⟩ (fits_conv (by repeat' first | exact trivial | exact rfl | (rw [List.map_append]; first | done | rfl) | exact c_sub rfl (Sub.refl _) rfl | exact c_nil rfl rfl | exact c_thaw rfl rfl rfl | exact c_row rfl rfl rfl | exact c_row rfl rfl (by rw [List.map_append]; first | done | rfl) | exact c_ptr rfl rfl rfl rfl | exact Or.inl ⟨c_sub rfl (Sub.refl _) rfl, c_ptr rfl rfl rfl rfl⟩ | exact c_alt rfl rfl rfl rfl | exact c_ro rfl rfl | exact c_eo rfl rfl | exact c_sub rfl (Sub.altl _ _) rfl | exact c_sub rfl (Sub.nil _) rfl | refine ⟨_, _, rfl, ?_, ?_⟩ | apply And.intro) ⟨c_sub rfl (Sub.refl _) rfl, c_row rfl rfl rfl, c_sub rfl (Sub.of_eq (congrArg (fun b => AV.val (.bool b)) (decide_eq_true hat3))) rfl, c_ptr rfl rfl rfl rfl, c_sub rfl (Sub.refl _) rfl, c_sub rfl (Sub.refl _) rfl, trivial⟩) ?_
    rintro ⟨k, hik, hk0⟩
    dsimp only
    have hk1 : k ≤ runE (goB true) l (i + 1) := by rw [← hkE]; exact hk0
    rcases Nat.lt_or_ge k l.length with hkl | hkl
    · have hgk := ndAt_get hkl
      have hmore := runE_more (p := goB true) hik hk1 hkl
      have hstop := fun h => runE_stop (p := goB true) hik hk1 (fun _ => h)
      rw [← hkE] at hmore hstop
      obtain ⟨m, hm⟩ : ∃ m, ndAt l k = m := ⟨_, rfl⟩
      have hmt := hk m (by rw [← hm, ← hgk]; exact List.getElem_mem hkl)
      simp only [hm] at hgk hmore hstop
      repeat (first
        | refine awp_seq ?_
        | refine a_region ?_
        | (refine r_id ?_; first
          | refine r_len tab_ok rfl rfl rfl rfl rfl rfl rfl ?_
          | refine r_ev tab_ok rfl rfl rfl rfl (by first | exact trivial | exact ⟨by omega, by omega⟩ | omega | exact ⟨by omega, by omega, by omega, by omega⟩ | exact Nat.le_of_ble_eq_true rfl) rfl ?_
          | refine r_ev_cnd tab_ok rfl rfl rfl rfl rfl rfl (by first | exact fun _ => rfl | exact cs1 | exact cs2 | exact cs3) (by first | exact fun _ => trivial | (intro h; simp at h; first | exact ⟨by omega, by omega⟩ | omega)) rfl ?_
          | refine r_idx_cnd tab_ok rfl rfl rfl rfl rfl rfl rfl (by first | exact fun _ => rfl | exact cs1 | exact cs2 | exact cs3) rfl rfl (by exact ⟨by omega, by omega⟩) rfl rfl ?_))
      simp only [Int.toNat_natCast, hgk]
      try simp only [Int.toNat_natCast, hgk]
      refine r_call_cnd (fun _ => rblock_ok m) call35 rfl rfl rfl rfl (by first | exact fun _ => rfl | exact cs1 | exact cs2 | exact cs3) ⟨Sub.refl _, trivial⟩ rfl rfl rfl rfl ?_
      repeat (first
        | refine thenA_normal ?_
        | refine r_done ?_
        | (refine r_id ?_; first
          | refine r_ev tab_ok rfl rfl rfl rfl (by first | exact trivial | exact ⟨by omega, by omega⟩ | omega | exact ⟨by omega, by omega, by omega, by omega⟩ | exact Nat.le_of_ble_eq_true rfl) rfl ?_
          | refine r_ev_cnd tab_ok rfl rfl rfl rfl rfl rfl (by first | exact fun _ => rfl | exact cs1 | exact cs2 | exact cs3) (by first | exact fun _ => trivial | (intro h; simp at h; first | exact ⟨by omega, by omega⟩ | omega)) rfl ?_
          | refine r_idx_cnd tab_ok rfl rfl rfl rfl rfl rfl rfl (by first | exact fun _ => rfl | exact cs1 | exact cs2 | exact cs3) rfl rfl (by exact ⟨by omega, by omega⟩) rfl rfl ?_
          | refine r_or_cnd rfl rfl rfl rfl rfl rfl rfl rfl rfl rfl ?_
          | refine r_and rfl rfl rfl rfl rfl rfl rfl rfl ?_))
      try simp only [Int.toNat_natCast, hgk]
      have hd : decide ((k : Int) < l.length) = true := decide_eq_true (by omega)
      refine awp_cond rfl (fun hc => ?_) (fun hc => ?_)
      · rw [hd, Bool.true_and] at hc
        have hlt2 := hmore hc
        repeat (first
          | refine thenA_normal ?_
          | refine awp_block ?_
          | refine a_region ?_
          | refine blockA_normal ?_
          | refine awp_skip ?_
          | refine r_done ?_
          | (refine r_id ?_; first
            | refine r_ev tab_ok rfl rfl rfl rfl (by first | exact trivial | exact ⟨by omega, by omega⟩ | omega | exact ⟨by omega, by omega, by omega, by omega⟩ | exact Nat.le_of_ble_eq_true rfl) rfl ?_))
        exact ⟨⟨k + 1, by omega, hlt2⟩, by dsimp only; omega, fits_of rfl (by repeat' first | exact trivial | exact Sub.refl _ | exact rfl | apply And.intro)⟩
      · rw [hd, Bool.true_and] at hc
        have he := hstop hc
        clear hmore hstop hc
        subst he
        repeat (first
          | refine awp_seq ?_
          | refine a_region ?_
          | refine awp_exit ?_
          | (refine r_id ?_; first
            | refine r_ev tab_ok rfl rfl rfl rfl (by first | exact trivial | exact ⟨by omega, by omega⟩ | omega | exact ⟨by omega, by omega, by omega, by omega⟩ | exact Nat.le_of_ble_eq_true rfl) rfl ?_))
        refine r_cut tab_ok rfl rfl rfl rfl rfl rfl rfl rfl (by show (0 : Int) ≤ (((i + 1) : Nat) : Int) ∧ (((i + 1) : Nat) : Int) ≤ ((k : Nat) : Int) ∧ ((k : Nat) : Int) ≤ (l.length : Int); omega) rfl ?_
        refine r_call (show PCalls Tryz.prog 36 [.sl 7 (((l.take ((k : Nat) : Int).toNat).drop ((((i + 1) : Nat) : Int)).toNat).map nF)] (.sl 7 ((trimF ((l.take k).drop (i + 1))).map nF)) by
            simp only [Int.toNat_natCast]
            exact rtrim_ok ((l.take k).drop (i + 1)) (by simp only [List.length_drop, List.length_take]; omega)) call36 rfl rfl ⟨Sub.refl _, trivial⟩ rfl rfl rfl rfl ?_
        repeat (first
          | refine awp_seq ?_
          | refine a_region ?_
          | refine r_done ?_
          | (refine r_id ?_; first
            | refine r_len tab_ok rfl rfl rfl rfl rfl rfl rfl ?_
            | refine r_ev tab_ok rfl rfl rfl rfl (by first | exact trivial | exact ⟨by omega, by omega⟩ | omega | exact ⟨by omega, by omega, by omega, by omega⟩ | exact Nat.le_of_ble_eq_true rfl) rfl ?_
            | refine r_st tab_ok rfl rfl rfl rfl ?_
            | refine r_ev_cnd tab_ok rfl rfl rfl rfl rfl rfl (by first | exact fun _ => rfl | exact cs1 | exact cs2 | exact cs3) (by first | exact fun _ => trivial | (intro h; simp at h; first | exact ⟨by omega, by omega⟩ | omega)) rfl ?_
            | refine r_idx_cnd tab_ok rfl rfl rfl rfl rfl rfl rfl (by first | exact fun _ => rfl | exact cs1 | exact cs2 | exact cs3) rfl rfl (by exact ⟨by omega, by omega⟩) rfl rfl ?_))
        simp only [Int.toNat_natCast, hgk]
        try simp only [Int.toNat_natCast, hgk]
        refine r_call_cnd (fun _ => rblock_ok m) call35 rfl rfl rfl rfl (by first | exact fun _ => rfl | exact cs1 | exact cs2 | exact cs3) ⟨Sub.refl _, trivial⟩ rfl rfl rfl rfl ?_
        rw [hd]
        cases hb : blkB m with
        | true =>
          have hkl2 := nszs_at hkl
          rw [hgk] at hkl2
          have hkl3 := nszs_len m.kids
          repeat (first
            | refine awp_seq ?_
            | refine thenA_normal ?_
            | refine a_region ?_
            | refine r_done ?_
            | (refine r_id ?_; first
              | refine r_ev tab_ok rfl rfl rfl rfl (by first | exact trivial | exact ⟨by omega, by omega⟩ | omega | exact ⟨by omega, by omega, by omega, by omega⟩ | exact Nat.le_of_ble_eq_true rfl) rfl ?_
              | refine r_idx tab_ok rfl rfl rfl rfl rfl rfl rfl (by first | exact ⟨by omega, by omega⟩ | (simp; omega)) rfl rfl ?_
              | refine r_st tab_ok rfl rfl rfl rfl ?_
              | refine r_and rfl rfl rfl rfl rfl rfl rfl rfl ?_)
            | refine awp_cond_t rfl ?_)
          try simp only [Int.toNat_natCast, hgk]
          refine r_call (show PCalls Tryz.prog 20 [.sl 7 (m.kids.map nD)] (.sl 3 ((decA m.kids 0).map dcD)) by rw [nD_fun]; exact rdecls_ok m.kids (by omega) hmt) call20 rfl rfl ⟨Sub.refl _, trivial⟩ rfl rfl rfl rfl ?_
          have hbl : blI l k = true := by rw [blI, hm, hb, decide_eq_true hkl]; rfl
          have hrl : rlAt l i = ⟨(lowS n.tok.text), trimF ((l.take k).drop (i + 1)), true, decA m.kids 0⟩ := by rw [rlAt, hen, hfr, hn, ha, hbl, hm]; rfl
          have hem : emI l i = [rlAt l i] := by rw [emI, hn, ha, hen, hbl]; rfl
          rw [hem, hrl] at heq
          repeat (first
            | refine awp_seq ?_
            | refine thenA_normal ?_
            | refine a_region ?_
            | refine blockA_normal ?_
            | refine r_done ?_
            | (refine r_id ?_; first
              | refine r_ev tab_ok rfl rfl rfl rfl (by first | exact trivial | exact ⟨by omega, by omega⟩ | omega | exact ⟨by omega, by omega, by omega, by omega⟩ | exact Nat.le_of_ble_eq_true rfl) rfl ?_
              | refine r_ld tab_ok rfl rfl rfl rfl rfl ?_
              | refine r_st tab_ok rfl rfl rfl rfl ?_
              | refine r_ev_cnd tab_ok rfl rfl rfl rfl rfl rfl (by first | exact fun _ => rfl | exact cs1 | exact cs2 | exact cs3) (by first | exact fun _ => trivial | (intro h; simp at h; first | exact ⟨by omega, by omega⟩ | omega)) rfl ?_
              | refine r_ld_cnd tab_ok rfl rfl rfl rfl rfl rfl (by first | exact fun _ => rfl | exact cs1 | exact cs2 | exact cs3) rfl ?_
              | refine r_or rfl rfl rfl rfl rfl rfl rfl rfl ?_
              | refine r_built tab_ok rfl rfl rfl rfl rfl rfl rfl rfl rfl ?_
              | refine r_append tab_ok rfl rfl rfl rfl rfl rfl rfl rfl rfl (by first | omega | (simp; omega)) rfl ?_)
            | refine awp_cond_t rfl ?_)
          refine ⟨⟨k + 1, out ++ [⟨(lowS n.tok.text), trimF ((l.take k).drop (i + 1)), true, decA m.kids 0⟩], by simp; omega, by omega, by rw [List.append_assoc]; exact heq⟩, by dsimp only; omega, ?_⟩
          dsimp only
          rw [show (out ++ [(⟨(lowS n.tok.text), trimF ((l.take k).drop (i + 1)), true, decA m.kids 0⟩ : Rl)]).map rlD = out.map rlD ++ [rlD ⟨(lowS n.tok.text), trimF ((l.take k).drop (i + 1)), true, decA m.kids 0⟩] from List.map_append]
          exact fits_trans (s' := ⟨[.row 0 45 4 (out.map rlD ++ [rlD ⟨(lowS n.tok.text), trimF ((l.take k).drop (i + 1)), true, decA m.kids 0⟩]), .gone, .gone], [(4, .sl 7 (l.map nF)), (5, .row 0 0), (6, .val (.int .i64 (k + 1 : Nat)))]⟩) (fits_conv (by repeat' first | exact trivial | exact rfl | (rw [List.map_append]; first | done | rfl) | exact c_sub rfl (Sub.refl _) rfl | exact c_nil rfl rfl | exact c_thaw rfl rfl rfl | exact c_row rfl rfl rfl | exact c_row rfl rfl (by rw [List.map_append]; first | done | rfl) | exact c_ptr rfl rfl rfl rfl | exact Or.inl ⟨c_sub rfl (Sub.refl _) rfl, c_ptr rfl rfl rfl rfl⟩ | exact c_alt rfl rfl rfl rfl | exact c_ro rfl rfl | exact c_eo rfl rfl | exact c_sub rfl (Sub.altl _ _) rfl | exact c_sub rfl (Sub.nil _) rfl | refine ⟨_, _, rfl, ?_, ?_⟩ | apply And.intro) ⟨c_sub rfl (Sub.refl _) rfl, c_row rfl rfl rfl, c_sub rfl (Sub.refl _) rfl, trivial⟩) (fits_drop 1 rfl rfl (by repeat' first | exact trivial | exact Sub.refl _ | exact rfl | apply And.intro))
        | false =>
          have hbl : blI l k = false := by rw [blI, hm, hb, decide_eq_true hkl]; rfl
          have hrl : rlAt l i = ⟨(lowS n.tok.text), trimF ((l.take k).drop (i + 1)), false, []⟩ := by rw [rlAt, hen, hfr, hn, ha, hbl]; rfl
          have hem : emI l i = [rlAt l i] := by rw [emI, hn, ha, hen, hbl]; rfl
          rw [hem, hrl] at heq
          repeat (first
            | refine awp_seq ?_
            | refine thenA_normal ?_
            | refine awp_skip ?_
            | refine r_done ?_
            | (refine r_id ?_; first
              | refine r_and rfl rfl rfl rfl rfl rfl rfl rfl ?_)
            | refine awp_cond_f rfl ?_)
          refine awp_fits (s' := ⟨[.row 0 45 4 (out.map rlD), .box 47 [.val (.int .i64 n.tok.kind), .val (.string n.tok.text), .val (.int .i64 n.tok.int), .val (.bool n.tok.whole), .val (.bool n.tok.sign), .val (.bool n.tok.id)], .box 45 [.val (.string (lowS n.tok.text)), .sl 7 ((trimF ((l.take k).drop (i + 1))).map nF), .val (.bool false), .sl 3 []]], [(4, .sl 7 (l.map nF)), (5, .row 0 0), (8, .val (.bool true)), (9, .ptr 2 0), (10, .val (.int .i64 (k : Nat)))]⟩) (fits_conv (by repeat' first | exact trivial | exact rfl | (rw [List.map_append]; first | done | rfl) | exact c_sub rfl (Sub.refl _) rfl | exact c_nil rfl rfl | exact c_thaw rfl rfl rfl | exact c_row rfl rfl rfl | exact c_row rfl rfl (by rw [List.map_append]; first | done | rfl) | exact c_ptr rfl rfl rfl rfl | exact Or.inl ⟨c_sub rfl (Sub.refl _) rfl, c_ptr rfl rfl rfl rfl⟩ | exact c_alt rfl rfl rfl rfl | exact c_ro rfl rfl | exact c_eo rfl rfl | exact c_sub rfl (Sub.altl _ _) rfl | exact c_sub rfl (Sub.nil _) rfl | refine ⟨_, _, rfl, ?_, ?_⟩ | apply And.intro) ⟨c_sub rfl (Sub.refl _) rfl, c_row rfl rfl rfl, c_sub rfl (Sub.refl _) rfl, c_ptr rfl rfl rfl rfl, c_sub rfl (Sub.refl _) rfl, trivial⟩) ?_
          repeat (first
            | refine thenA_normal ?_
            | refine a_region ?_
            | refine blockA_normal ?_
            | refine r_done ?_
            | (refine r_id ?_; first
              | refine r_ev tab_ok rfl rfl rfl rfl (by first | exact trivial | exact ⟨by omega, by omega⟩ | omega | exact ⟨by omega, by omega, by omega, by omega⟩ | exact Nat.le_of_ble_eq_true rfl) rfl ?_
              | refine r_ld tab_ok rfl rfl rfl rfl rfl ?_
              | refine r_ev_cnd tab_ok rfl rfl rfl rfl rfl rfl (by first | exact fun _ => rfl | exact cs1 | exact cs2 | exact cs3) (by first | exact fun _ => trivial | (intro h; simp at h; first | exact ⟨by omega, by omega⟩ | omega)) rfl ?_
              | refine r_ld_cnd tab_ok rfl rfl rfl rfl rfl rfl (by first | exact fun _ => rfl | exact cs1 | exact cs2 | exact cs3) rfl ?_
              | refine r_or rfl rfl rfl rfl rfl rfl rfl rfl ?_
              | refine r_built tab_ok rfl rfl rfl rfl rfl rfl rfl rfl rfl ?_
              | refine r_append tab_ok rfl rfl rfl rfl rfl rfl rfl rfl rfl (by first | omega | (simp; omega)) rfl ?_)
            | refine awp_cond_t rfl ?_)
          refine ⟨⟨k + 1, out ++ [⟨(lowS n.tok.text), trimF ((l.take k).drop (i + 1)), false, []⟩], by simp; omega, by omega, by rw [List.append_assoc]; exact heq⟩, by dsimp only; omega, ?_⟩
          dsimp only
          rw [show (out ++ [(⟨(lowS n.tok.text), trimF ((l.take k).drop (i + 1)), false, []⟩ : Rl)]).map rlD = out.map rlD ++ [rlD ⟨(lowS n.tok.text), trimF ((l.take k).drop (i + 1)), false, []⟩] from List.map_append]
          exact fits_trans (s' := ⟨[.row 0 45 4 (out.map rlD ++ [rlD ⟨(lowS n.tok.text), trimF ((l.take k).drop (i + 1)), false, []⟩]), .gone, .gone], [(4, .sl 7 (l.map nF)), (5, .row 0 0), (6, .val (.int .i64 (k + 1 : Nat)))]⟩) (fits_conv (by repeat' first | exact trivial | exact rfl | (rw [List.map_append]; first | done | rfl) | exact c_sub rfl (Sub.refl _) rfl | exact c_nil rfl rfl | exact c_thaw rfl rfl rfl | exact c_row rfl rfl rfl | exact c_row rfl rfl (by rw [List.map_append]; first | done | rfl) | exact c_ptr rfl rfl rfl rfl | exact Or.inl ⟨c_sub rfl (Sub.refl _) rfl, c_ptr rfl rfl rfl rfl⟩ | exact c_alt rfl rfl rfl rfl | exact c_ro rfl rfl | exact c_eo rfl rfl | exact c_sub rfl (Sub.altl _ _) rfl | exact c_sub rfl (Sub.nil _) rfl | refine ⟨_, _, rfl, ?_, ?_⟩ | apply And.intro) ⟨c_sub rfl (Sub.refl _) rfl, c_row rfl rfl rfl, c_sub rfl (Sub.refl _) rfl, trivial⟩) (fits_drop 1 rfl rfl (by repeat' first | exact trivial | exact Sub.refl _ | exact rfl | apply And.intro))
    · have he : k = kE := by omega
      subst he
      repeat (first
        | refine awp_seq ?_
        | refine a_region ?_
        | (refine r_id ?_; first
          | refine r_len tab_ok rfl rfl rfl rfl rfl rfl rfl ?_
          | refine r_ev tab_ok rfl rfl rfl rfl (by first | exact trivial | exact ⟨by omega, by omega⟩ | omega | exact ⟨by omega, by omega, by omega, by omega⟩ | exact Nat.le_of_ble_eq_true rfl) rfl ?_
          | refine r_off rfl rfl rfl rfl rfl rfl ?_)
        | refine r_pick_f rfl rfl (congrArg (fun b => AV.val (.bool b)) (decide_eq_false (by omega))) rfl rfl rfl rfl ?_
        | refine r_off rfl rfl (congrArg (fun b => AV.val (.bool b)) (decide_eq_false (by omega))) rfl rfl rfl ?_)
      repeat refine r_offu rfl rfl rfl rfl rfl rfl ?_
      repeat (first
        | refine awp_seq ?_
        | refine thenA_normal ?_
        | refine a_region ?_
        | refine awp_exit ?_
        | refine r_done ?_
        | (refine r_id ?_; first
          | refine r_ev tab_ok rfl rfl rfl rfl (by first | exact trivial | exact ⟨by omega, by omega⟩ | omega | exact ⟨by omega, by omega, by omega, by omega⟩ | exact Nat.le_of_ble_eq_true rfl) rfl ?_
          | refine r_pick_f rfl rfl rfl rfl rfl rfl rfl ?_
          | refine r_off rfl rfl rfl rfl rfl rfl ?_)
        | refine awp_cond_f rfl ?_)
      refine r_cut tab_ok rfl rfl rfl rfl rfl rfl rfl rfl (by show (0 : Int) ≤ (((i + 1) : Nat) : Int) ∧ (((i + 1) : Nat) : Int) ≤ ((k : Nat) : Int) ∧ ((k : Nat) : Int) ≤ (l.length : Int); omega) rfl ?_
      refine r_call (show PCalls Tryz.prog 36 [.sl 7 (((l.take ((k : Nat) : Int).toNat).drop ((((i + 1) : Nat) : Int)).toNat).map nF)] (.sl 7 ((trimF ((l.take k).drop (i + 1))).map nF)) by
          simp only [Int.toNat_natCast]
          exact rtrim_ok ((l.take k).drop (i + 1)) (by simp only [List.length_drop, List.length_take]; omega)) call36 rfl rfl ⟨Sub.refl _, trivial⟩ rfl rfl rfl rfl ?_
      repeat (first
        | refine awp_seq ?_
        | refine r_done ?_
        | (refine r_id ?_; first
          | refine r_ev tab_ok rfl rfl rfl rfl (by first | exact trivial | exact ⟨by omega, by omega⟩ | omega | exact ⟨by omega, by omega, by omega, by omega⟩ | exact Nat.le_of_ble_eq_true rfl) rfl ?_
          | refine r_st tab_ok rfl rfl rfl rfl ?_))
      refine a_region ?_
      repeat (first
        | refine awp_seq ?_
        | refine thenA_normal ?_
        | refine awp_skip ?_
        | refine r_done ?_
        | (refine r_id ?_; first
          | refine r_len tab_ok rfl rfl rfl rfl rfl rfl rfl ?_
          | refine r_ev tab_ok rfl rfl rfl rfl (by first | exact trivial | exact ⟨by omega, by omega⟩ | omega | exact ⟨by omega, by omega, by omega, by omega⟩ | exact Nat.le_of_ble_eq_true rfl) rfl ?_)
        | refine awp_cond_f rfl ?_
        | refine r_pick_f rfl rfl (congrArg (fun b => AV.val (.bool b)) (decide_eq_false (by omega))) rfl rfl rfl rfl ?_
        | refine r_off rfl rfl (congrArg (fun b => AV.val (.bool b)) (decide_eq_false (by omega))) rfl rfl rfl ?_)
      have hbl : blI l k = false := by rw [blI, decide_eq_false (by omega)]; rfl
      have hrl : rlAt l i = ⟨(lowS n.tok.text), trimF ((l.take k).drop (i + 1)), false, []⟩ := by rw [rlAt, hen, hfr, hn, ha, hbl]; rfl
      have hem : emI l i = [rlAt l i] := by rw [emI, hn, ha, hen, hbl]; rfl
      rw [hem, hrl] at heq
      refine awp_fits (s' := ⟨[.row 0 45 4 (out.map rlD), .box 47 [.val (.int .i64 n.tok.kind), .val (.string n.tok.text), .val (.int .i64 n.tok.int), .val (.bool n.tok.whole), .val (.bool n.tok.sign), .val (.bool n.tok.id)], .box 45 [.val (.string (lowS n.tok.text)), .sl 7 ((trimF ((l.take k).drop (i + 1))).map nF), .val (.bool false), .sl 3 []]], [(4, .sl 7 (l.map nF)), (5, .row 0 0), (8, .val (.bool true)), (9, .ptr 2 0), (10, .val (.int .i64 (k : Nat)))]⟩) (fits_conv (by repeat' first | exact trivial | exact rfl | (rw [List.map_append]; first | done | rfl) | exact c_sub rfl (Sub.refl _) rfl | exact c_nil rfl rfl | exact c_thaw rfl rfl rfl | exact c_row rfl rfl rfl | exact c_row rfl rfl (by rw [List.map_append]; first | done | rfl) | exact c_ptr rfl rfl rfl rfl | exact Or.inl ⟨c_sub rfl (Sub.refl _) rfl, c_ptr rfl rfl rfl rfl⟩ | exact c_alt rfl rfl rfl rfl | exact c_ro rfl rfl | exact c_eo rfl rfl | exact c_sub rfl (Sub.altl _ _) rfl | exact c_sub rfl (Sub.nil _) rfl | refine ⟨_, _, rfl, ?_, ?_⟩ | apply And.intro) ⟨c_sub rfl (Sub.refl _) rfl, c_row rfl rfl rfl, c_sub rfl (Sub.refl _) rfl, c_ptr rfl rfl rfl rfl, c_sub rfl (Sub.refl _) rfl, trivial⟩) ?_
      repeat (first
        | refine thenA_normal ?_
        | refine a_region ?_
        | refine blockA_normal ?_
        | refine r_done ?_
        | (refine r_id ?_; first
          | refine r_ev tab_ok rfl rfl rfl rfl (by first | exact trivial | exact ⟨by omega, by omega⟩ | omega | exact ⟨by omega, by omega, by omega, by omega⟩ | exact Nat.le_of_ble_eq_true rfl) rfl ?_
          | refine r_ld tab_ok rfl rfl rfl rfl rfl ?_
          | refine r_ev_cnd tab_ok rfl rfl rfl rfl rfl rfl (by first | exact fun _ => rfl | exact cs1 | exact cs2 | exact cs3) (by first | exact fun _ => trivial | (intro h; simp at h; first | exact ⟨by omega, by omega⟩ | omega)) rfl ?_
          | refine r_ld_cnd tab_ok rfl rfl rfl rfl rfl rfl (by first | exact fun _ => rfl | exact cs1 | exact cs2 | exact cs3) rfl ?_
          | refine r_or rfl rfl rfl rfl rfl rfl rfl rfl ?_
          | refine r_built tab_ok rfl rfl rfl rfl rfl rfl rfl rfl rfl ?_
          | refine r_append tab_ok rfl rfl rfl rfl rfl rfl rfl rfl rfl (by first | omega | (simp; omega)) rfl ?_)
        | refine awp_cond_t rfl ?_)
      refine ⟨⟨k + 1, out ++ [⟨(lowS n.tok.text), trimF ((l.take k).drop (i + 1)), false, []⟩], by simp; omega, by omega, by rw [List.append_assoc]; exact heq⟩, by dsimp only; omega, ?_⟩
      dsimp only
      rw [show (out ++ [(⟨(lowS n.tok.text), trimF ((l.take k).drop (i + 1)), false, []⟩ : Rl)]).map rlD = out.map rlD ++ [rlD ⟨(lowS n.tok.text), trimF ((l.take k).drop (i + 1)), false, []⟩] from List.map_append]
      exact fits_trans (s' := ⟨[.row 0 45 4 (out.map rlD ++ [rlD ⟨(lowS n.tok.text), trimF ((l.take k).drop (i + 1)), false, []⟩]), .gone, .gone], [(4, .sl 7 (l.map nF)), (5, .row 0 0), (6, .val (.int .i64 (k + 1 : Nat)))]⟩) (fits_conv (by repeat' first | exact trivial | exact rfl | (rw [List.map_append]; first | done | rfl) | exact c_sub rfl (Sub.refl _) rfl | exact c_nil rfl rfl | exact c_thaw rfl rfl rfl | exact c_row rfl rfl rfl | exact c_row rfl rfl (by rw [List.map_append]; first | done | rfl) | exact c_ptr rfl rfl rfl rfl | exact Or.inl ⟨c_sub rfl (Sub.refl _) rfl, c_ptr rfl rfl rfl rfl⟩ | exact c_alt rfl rfl rfl rfl | exact c_ro rfl rfl | exact c_eo rfl rfl | exact c_sub rfl (Sub.altl _ _) rfl | exact c_sub rfl (Sub.nil _) rfl | refine ⟨_, _, rfl, ?_, ?_⟩ | apply And.intro) ⟨c_sub rfl (Sub.refl _) rfl, c_row rfl rfl rfl, c_sub rfl (Sub.refl _) rfl, trivial⟩) (fits_drop 1 rfl rfl (by repeat' first | exact trivial | exact Sub.refl _ | exact rfl | apply And.intro))
  | false =>
    have hfr : frI l i = i := by rw [frI, hn, ha]; rfl
    obtain ⟨kE, hkE⟩ : ∃ kE, kE = runE (goB false) l (i) := ⟨_, rfl⟩
    have hen : enI l i = kE := by rw [enI, hfr, hn, ha, hkE]
    have hfl : i ≤ l.length := by omega
    have hkge : i ≤ kE := by rw [hkE]; exact runE_ge _ _ _
    have hkle : kE ≤ l.length := by rw [hkE]; exact runE_le hfl
    rw [hen] at heq
    have hat3 : ¬ n.tok.kind = 3 := by simpa [atKB] using ha
    repeat (first
      | refine awp_seq ?_
      | refine thenA_normal ?_
      | refine a_region ?_
      | refine awp_skip ?_
      | refine r_done ?_
      | (refine r_id ?_; first
        | refine r_ev tab_ok rfl rfl rfl rfl (by first | exact trivial | exact ⟨by omega, by omega⟩ | omega | exact ⟨by omega, by omega, by omega, by omega⟩ | exact Nat.le_of_ble_eq_true rfl) rfl ?_
        | refine r_ld tab_ok rfl rfl rfl rfl rfl ?_
        | refine r_wr tab_ok rfl rfl rfl rfl rfl ?_))
    refine awp_cond_p rfl (fun h => absurd h hat3) (fun _ => ?_)
    repeat (first
      | refine awp_seq ?_
      | refine awp_block ?_
      | refine a_region ?_
      | refine awp_skip ?_
      | refine r_done ?_
      | (refine r_id ?_; first
        | refine r_ev tab_ok rfl rfl rfl rfl (by first | exact trivial | exact ⟨by omega, by omega⟩ | omega | exact ⟨by omega, by omega, by omega, by omega⟩ | exact Nat.le_of_ble_eq_true rfl) rfl ?_))
    refine a_loop (σ := {k : Nat // i ≤ k ∧ k ≤ kE}) (fun _ => [.row 0 45 4 (out.map rlD), .box 47 [.val (.int .i64 n.tok.kind), .val (.string n.tok.text), .val (.int .i64 n.tok.int), .val (.bool n.tok.whole), .val (.bool n.tok.sign), .val (.bool n.tok.id)], .box 45 [.val (.string ⟨#[]⟩), .val (.slice none 0 0), .val (.bool false), .val (.slice none 0 0)]]) (fun x => [(4, .sl 7 (l.map nF)), (5, .row 0 0), (8, .val (.bool false)), (9, .ptr 2 0), (10, .val (.int .i64 (x.1 : Nat))), (11, .val (.int .i64 (i : Nat)))]) (fun x => l.length - x.1) ⟨i, Nat.le_refl _, hkge⟩ (fits_conv (by repeat' first | exact trivial | exact rfl | (rw [List.map_append]; first | done | rfl) | exact c_sub rfl (Sub.refl _) rfl | exact c_nil rfl rfl | exact c_thaw rfl rfl rfl | exact c_row rfl rfl rfl | exact c_row rfl rfl (by rw [List.map_append]; first | done | rfl) | exact c_ptr rfl rfl rfl rfl | exact Or.inl ⟨c_sub rfl (Sub.refl _) rfl, c_ptr rfl rfl rfl rfl⟩ | exact c_alt rfl rfl rfl rfl | exact c_ro rfl rfl | exact c_eo rfl rfl | exact c_sub rfl (Sub.altl _ _) rfl | exact c_sub rfl (Sub.nil _) rfl | refine ⟨_, _, rfl, ?_, ?_⟩ | apply And.intro) ⟨c_sub rfl (Sub.refl _) rfl, c_row rfl rfl rfl, c_sub rfl (Sub.of_eq (congrArg (fun b => AV.val (.bool b)) (decide_eq_false hat3))) rfl, c_ptr rfl rfl rfl rfl, c_sub rfl (Sub.refl _) rfl, c_sub rfl (Sub.refl _) rfl, trivial⟩) ?_
    rintro ⟨k, hik, hk0⟩
    dsimp only
    have hk1 : k ≤ runE (goB false) l (i) := by rw [← hkE]; exact hk0
    rcases Nat.lt_or_ge k l.length with hkl | hkl
    · have hgk := ndAt_get hkl
      have hmore := runE_more (p := goB false) hik hk1 hkl
      have hstop := fun h => runE_stop (p := goB false) hik hk1 (fun _ => h)
      rw [← hkE] at hmore hstop
      obtain ⟨m, hm⟩ : ∃ m, ndAt l k = m := ⟨_, rfl⟩
      have hmt := hk m (by rw [← hm, ← hgk]; exact List.getElem_mem hkl)
      simp only [hm] at hgk hmore hstop
      repeat (first
        | refine awp_seq ?_
        | refine a_region ?_
        | (refine r_id ?_; first
          | refine r_len tab_ok rfl rfl rfl rfl rfl rfl rfl ?_
          | refine r_ev tab_ok rfl rfl rfl rfl (by first | exact trivial | exact ⟨by omega, by omega⟩ | omega | exact ⟨by omega, by omega, by omega, by omega⟩ | exact Nat.le_of_ble_eq_true rfl) rfl ?_
          | refine r_ev_cnd tab_ok rfl rfl rfl rfl rfl rfl (by first | exact fun _ => rfl | exact cs1 | exact cs2 | exact cs3) (by first | exact fun _ => trivial | (intro h; simp at h; first | exact ⟨by omega, by omega⟩ | omega)) rfl ?_
          | refine r_idx_cnd tab_ok rfl rfl rfl rfl rfl rfl rfl (by first | exact fun _ => rfl | exact cs1 | exact cs2 | exact cs3) rfl rfl (by exact ⟨by omega, by omega⟩) rfl rfl ?_))
      simp only [Int.toNat_natCast, hgk]
      try simp only [Int.toNat_natCast, hgk]
      refine r_call_cnd (fun _ => rblock_ok m) call35 rfl rfl rfl rfl (by first | exact fun _ => rfl | exact cs1 | exact cs2 | exact cs3) ⟨Sub.refl _, trivial⟩ rfl rfl rfl rfl ?_
      repeat (first
        | refine thenA_normal ?_
        | refine r_done ?_
        | (refine r_id ?_; first
          | refine r_ev tab_ok rfl rfl rfl rfl (by first | exact trivial | exact ⟨by omega, by omega⟩ | omega | exact ⟨by omega, by omega, by omega, by omega⟩ | exact Nat.le_of_ble_eq_true rfl) rfl ?_
          | refine r_ev_cnd tab_ok rfl rfl rfl rfl rfl rfl (by first | exact fun _ => rfl | exact cs1 | exact cs2 | exact cs3) (by first | exact fun _ => trivial | (intro h; simp at h; first | exact ⟨by omega, by omega⟩ | omega)) rfl ?_
          | refine r_idx_cnd tab_ok rfl rfl rfl rfl rfl rfl rfl (by first | exact fun _ => rfl | exact cs1 | exact cs2 | exact cs3) rfl rfl (by exact ⟨by omega, by omega⟩) rfl rfl ?_
          | refine r_or_cnd rfl rfl rfl rfl rfl rfl rfl rfl rfl rfl ?_
          | refine r_and rfl rfl rfl rfl rfl rfl rfl rfl ?_))
      try simp only [Int.toNat_natCast, hgk]
      have hd : decide ((k : Int) < l.length) = true := decide_eq_true (by omega)
      refine awp_cond rfl (fun hc => ?_) (fun hc => ?_)
      · rw [hd, Bool.true_and] at hc
        have hlt2 := hmore hc
        repeat (first
          | refine thenA_normal ?_
          | refine awp_block ?_
          | refine a_region ?_
          | refine blockA_normal ?_
          | refine awp_skip ?_
          | refine r_done ?_
          | (refine r_id ?_; first
            | refine r_ev tab_ok rfl rfl rfl rfl (by first | exact trivial | exact ⟨by omega, by omega⟩ | omega | exact ⟨by omega, by omega, by omega, by omega⟩ | exact Nat.le_of_ble_eq_true rfl) rfl ?_))
        exact ⟨⟨k + 1, by omega, hlt2⟩, by dsimp only; omega, fits_of rfl (by repeat' first | exact trivial | exact Sub.refl _ | exact rfl | apply And.intro)⟩
      · rw [hd, Bool.true_and] at hc
        have he := hstop hc
        clear hmore hstop hc
        subst he
        repeat (first
          | refine awp_seq ?_
          | refine a_region ?_
          | refine awp_exit ?_
          | (refine r_id ?_; first
            | refine r_ev tab_ok rfl rfl rfl rfl (by first | exact trivial | exact ⟨by omega, by omega⟩ | omega | exact ⟨by omega, by omega, by omega, by omega⟩ | exact Nat.le_of_ble_eq_true rfl) rfl ?_))
        refine r_cut tab_ok rfl rfl rfl rfl rfl rfl rfl rfl (by show (0 : Int) ≤ ((i : Nat) : Int) ∧ ((i : Nat) : Int) ≤ ((k : Nat) : Int) ∧ ((k : Nat) : Int) ≤ (l.length : Int); omega) rfl ?_
        refine r_call (show PCalls Tryz.prog 36 [.sl 7 (((l.take ((k : Nat) : Int).toNat).drop (((i : Nat) : Int)).toNat).map nF)] (.sl 7 ((trimF ((l.take k).drop i)).map nF)) by
            simp only [Int.toNat_natCast]
            exact rtrim_ok ((l.take k).drop i) (by simp only [List.length_drop, List.length_take]; omega)) call36 rfl rfl ⟨Sub.refl _, trivial⟩ rfl rfl rfl rfl ?_
        repeat (first
          | refine awp_seq ?_
          | refine a_region ?_
          | refine r_done ?_
          | (refine r_id ?_; first
            | refine r_len tab_ok rfl rfl rfl rfl rfl rfl rfl ?_
            | refine r_ev tab_ok rfl rfl rfl rfl (by first | exact trivial | exact ⟨by omega, by omega⟩ | omega | exact ⟨by omega, by omega, by omega, by omega⟩ | exact Nat.le_of_ble_eq_true rfl) rfl ?_
            | refine r_st tab_ok rfl rfl rfl rfl ?_
            | refine r_ev_cnd tab_ok rfl rfl rfl rfl rfl rfl (by first | exact fun _ => rfl | exact cs1 | exact cs2 | exact cs3) (by first | exact fun _ => trivial | (intro h; simp at h; first | exact ⟨by omega, by omega⟩ | omega)) rfl ?_
            | refine r_idx_cnd tab_ok rfl rfl rfl rfl rfl rfl rfl (by first | exact fun _ => rfl | exact cs1 | exact cs2 | exact cs3) rfl rfl (by exact ⟨by omega, by omega⟩) rfl rfl ?_))
        simp only [Int.toNat_natCast, hgk]
        try simp only [Int.toNat_natCast, hgk]
        refine r_call_cnd (fun _ => rblock_ok m) call35 rfl rfl rfl rfl (by first | exact fun _ => rfl | exact cs1 | exact cs2 | exact cs3) ⟨Sub.refl _, trivial⟩ rfl rfl rfl rfl ?_
        rw [hd]
        cases hb : blkB m with
        | true =>
          have hkl2 := nszs_at hkl
          rw [hgk] at hkl2
          have hkl3 := nszs_len m.kids
          repeat (first
            | refine awp_seq ?_
            | refine thenA_normal ?_
            | refine a_region ?_
            | refine r_done ?_
            | (refine r_id ?_; first
              | refine r_ev tab_ok rfl rfl rfl rfl (by first | exact trivial | exact ⟨by omega, by omega⟩ | omega | exact ⟨by omega, by omega, by omega, by omega⟩ | exact Nat.le_of_ble_eq_true rfl) rfl ?_
              | refine r_idx tab_ok rfl rfl rfl rfl rfl rfl rfl (by first | exact ⟨by omega, by omega⟩ | (simp; omega)) rfl rfl ?_
              | refine r_st tab_ok rfl rfl rfl rfl ?_
              | refine r_and rfl rfl rfl rfl rfl rfl rfl rfl ?_)
            | refine awp_cond_t rfl ?_)
          try simp only [Int.toNat_natCast, hgk]
          refine r_call (show PCalls Tryz.prog 20 [.sl 7 (m.kids.map nD)] (.sl 3 ((decA m.kids 0).map dcD)) by rw [nD_fun]; exact rdecls_ok m.kids (by omega) hmt) call20 rfl rfl ⟨Sub.refl _, trivial⟩ rfl rfl rfl rfl ?_
          have hbl : blI l k = true := by rw [blI, hm, hb, decide_eq_true hkl]; rfl
          have hrl : rlAt l i = ⟨⟨#[]⟩, trimF ((l.take k).drop i), true, decA m.kids 0⟩ := by rw [rlAt, hen, hfr, hn, ha, hbl, hm]; rfl
          have hem : emI l i = [rlAt l i] := by rw [emI, hn, ha, hen, hbl]; rfl
          rw [hem, hrl] at heq
          repeat (first
            | refine awp_seq ?_
            | refine thenA_normal ?_
            | refine a_region ?_
            | refine blockA_normal ?_
            | refine r_done ?_
            | (refine r_id ?_; first
              | refine r_ev tab_ok rfl rfl rfl rfl (by first | exact trivial | exact ⟨by omega, by omega⟩ | omega | exact ⟨by omega, by omega, by omega, by omega⟩ | exact Nat.le_of_ble_eq_true rfl) rfl ?_
              | refine r_ld tab_ok rfl rfl rfl rfl rfl ?_
              | refine r_st tab_ok rfl rfl rfl rfl ?_
              | refine r_ev_cnd tab_ok rfl rfl rfl rfl rfl rfl (by first | exact fun _ => rfl | exact cs1 | exact cs2 | exact cs3) (by first | exact fun _ => trivial | (intro h; simp at h; first | exact ⟨by omega, by omega⟩ | omega)) rfl ?_
              | refine r_ld_cnd tab_ok rfl rfl rfl rfl rfl rfl (by first | exact fun _ => rfl | exact cs1 | exact cs2 | exact cs3) rfl ?_
              | refine r_or rfl rfl rfl rfl rfl rfl rfl rfl ?_
              | refine r_built tab_ok rfl rfl rfl rfl rfl rfl rfl rfl rfl ?_
              | refine r_append tab_ok rfl rfl rfl rfl rfl rfl rfl rfl rfl (by first | omega | (simp; omega)) rfl ?_)
            | refine awp_cond_t rfl ?_)
          refine ⟨⟨k + 1, out ++ [⟨⟨#[]⟩, trimF ((l.take k).drop i), true, decA m.kids 0⟩], by simp; omega, by omega, by rw [List.append_assoc]; exact heq⟩, by dsimp only; omega, ?_⟩
          dsimp only
          rw [show (out ++ [(⟨⟨#[]⟩, trimF ((l.take k).drop i), true, decA m.kids 0⟩ : Rl)]).map rlD = out.map rlD ++ [rlD ⟨⟨#[]⟩, trimF ((l.take k).drop i), true, decA m.kids 0⟩] from List.map_append]
          exact fits_trans (s' := ⟨[.row 0 45 4 (out.map rlD ++ [rlD ⟨⟨#[]⟩, trimF ((l.take k).drop i), true, decA m.kids 0⟩]), .gone, .gone], [(4, .sl 7 (l.map nF)), (5, .row 0 0), (6, .val (.int .i64 (k + 1 : Nat)))]⟩) (fits_conv (by repeat' first | exact trivial | exact rfl | (rw [List.map_append]; first | done | rfl) | exact c_sub rfl (Sub.refl _) rfl | exact c_nil rfl rfl | exact c_thaw rfl rfl rfl | exact c_row rfl rfl rfl | exact c_row rfl rfl (by rw [List.map_append]; first | done | rfl) | exact c_ptr rfl rfl rfl rfl | exact Or.inl ⟨c_sub rfl (Sub.refl _) rfl, c_ptr rfl rfl rfl rfl⟩ | exact c_alt rfl rfl rfl rfl | exact c_ro rfl rfl | exact c_eo rfl rfl | exact c_sub rfl (Sub.altl _ _) rfl | exact c_sub rfl (Sub.nil _) rfl | refine ⟨_, _, rfl, ?_, ?_⟩ | apply And.intro) ⟨c_sub rfl (Sub.refl _) rfl, c_row rfl rfl rfl, c_sub rfl (Sub.refl _) rfl, trivial⟩) (fits_drop 1 rfl rfl (by repeat' first | exact trivial | exact Sub.refl _ | exact rfl | apply And.intro))
        | false =>
          have hbl : blI l k = false := by rw [blI, hm, hb, decide_eq_true hkl]; rfl
          have hem : emI l i = [] := by rw [emI, hn, ha, hen, hbl]; rfl
          rw [hem, List.nil_append] at heq
          repeat (first
            | refine awp_seq ?_
            | refine thenA_normal ?_
            | refine a_region ?_
            | refine blockA_normal ?_
            | refine awp_skip ?_
            | refine r_done ?_
            | (refine r_id ?_; first
              | refine r_ev tab_ok rfl rfl rfl rfl (by first | exact trivial | exact ⟨by omega, by omega⟩ | omega | exact ⟨by omega, by omega, by omega, by omega⟩ | exact Nat.le_of_ble_eq_true rfl) rfl ?_
              | refine r_ev_cnd tab_ok rfl rfl rfl rfl rfl rfl (by first | exact fun _ => rfl | exact cs1 | exact cs2 | exact cs3) (by first | exact fun _ => trivial | (intro h; simp at h; first | exact ⟨by omega, by omega⟩ | omega)) rfl ?_
              | refine r_ld_cnd tab_ok rfl rfl rfl rfl rfl rfl (by first | exact fun _ => rfl | exact cs1 | exact cs2 | exact cs3) rfl ?_
              | refine r_or rfl rfl rfl rfl rfl rfl rfl rfl ?_
              | refine r_and rfl rfl rfl rfl rfl rfl rfl rfl ?_)
            | refine awp_cond_f rfl ?_)
          exact ⟨⟨k + 1, out, by omega, by omega, heq⟩, by dsimp only; omega, fits_drop 1 rfl rfl (by repeat' first | exact trivial | exact Sub.refl _ | exact rfl | apply And.intro)⟩
    · have he : k = kE := by omega
      subst he
      repeat (first
        | refine awp_seq ?_
        | refine a_region ?_
        | (refine r_id ?_; first
          | refine r_len tab_ok rfl rfl rfl rfl rfl rfl rfl ?_
          | refine r_ev tab_ok rfl rfl rfl rfl (by first | exact trivial | exact ⟨by omega, by omega⟩ | omega | exact ⟨by omega, by omega, by omega, by omega⟩ | exact Nat.le_of_ble_eq_true rfl) rfl ?_
          | refine r_off rfl rfl rfl rfl rfl rfl ?_)
        | refine r_pick_f rfl rfl (congrArg (fun b => AV.val (.bool b)) (decide_eq_false (by omega))) rfl rfl rfl rfl ?_
        | refine r_off rfl rfl (congrArg (fun b => AV.val (.bool b)) (decide_eq_false (by omega))) rfl rfl rfl ?_)
      repeat refine r_offu rfl rfl rfl rfl rfl rfl ?_
      repeat (first
        | refine awp_seq ?_
        | refine thenA_normal ?_
        | refine a_region ?_
        | refine awp_exit ?_
        | refine r_done ?_
        | (refine r_id ?_; first
          | refine r_ev tab_ok rfl rfl rfl rfl (by first | exact trivial | exact ⟨by omega, by omega⟩ | omega | exact ⟨by omega, by omega, by omega, by omega⟩ | exact Nat.le_of_ble_eq_true rfl) rfl ?_
          | refine r_pick_f rfl rfl rfl rfl rfl rfl rfl ?_
          | refine r_off rfl rfl rfl rfl rfl rfl ?_)
        | refine awp_cond_f rfl ?_)
      refine r_cut tab_ok rfl rfl rfl rfl rfl rfl rfl rfl (by show (0 : Int) ≤ ((i : Nat) : Int) ∧ ((i : Nat) : Int) ≤ ((k : Nat) : Int) ∧ ((k : Nat) : Int) ≤ (l.length : Int); omega) rfl ?_
      refine r_call (show PCalls Tryz.prog 36 [.sl 7 (((l.take ((k : Nat) : Int).toNat).drop (((i : Nat) : Int)).toNat).map nF)] (.sl 7 ((trimF ((l.take k).drop i)).map nF)) by
          simp only [Int.toNat_natCast]
          exact rtrim_ok ((l.take k).drop i) (by simp only [List.length_drop, List.length_take]; omega)) call36 rfl rfl ⟨Sub.refl _, trivial⟩ rfl rfl rfl rfl ?_
      repeat (first
        | refine awp_seq ?_
        | refine thenA_normal ?_
        | refine a_region ?_
        | refine blockA_normal ?_
        | refine awp_skip ?_
        | refine r_done ?_
        | (refine r_id ?_; first
          | refine r_len tab_ok rfl rfl rfl rfl rfl rfl rfl ?_
          | refine r_ev tab_ok rfl rfl rfl rfl (by first | exact trivial | exact ⟨by omega, by omega⟩ | omega | exact ⟨by omega, by omega, by omega, by omega⟩ | exact Nat.le_of_ble_eq_true rfl) rfl ?_
          | refine r_st tab_ok rfl rfl rfl rfl ?_
          | refine r_pick_f rfl rfl rfl rfl rfl rfl rfl ?_
          | refine r_ev_on tab_ok rfl rfl rfl rfl rfl rfl (by first | exact trivial | exact ⟨by omega, by omega⟩ | omega) rfl ?_
          | refine r_ld_on tab_ok rfl rfl rfl rfl rfl rfl rfl ?_)
        | refine awp_cond_f rfl ?_
        | refine r_pick_f rfl rfl (congrArg (fun b => AV.val (.bool b)) (decide_eq_false (by omega))) rfl rfl rfl rfl ?_
        | refine r_off rfl rfl (congrArg (fun b => AV.val (.bool b)) (decide_eq_false (by omega))) rfl rfl rfl ?_)
      have hbl : blI l k = false := by rw [blI, decide_eq_false (by omega)]; rfl
      have hem : emI l i = [] := by rw [emI, hn, ha, hen, hbl]; rfl
      rw [hem, List.nil_append] at heq
      exact ⟨⟨k + 1, out, by omega, by omega, heq⟩, by dsimp only; omega, fits_drop 1 rfl rfl (by repeat' first | exact trivial | exact Sub.refl _ | exact rfl | apply And.intro)⟩
end Go.Proofs.YtiolnmfaeenlmaaGreatDoor
