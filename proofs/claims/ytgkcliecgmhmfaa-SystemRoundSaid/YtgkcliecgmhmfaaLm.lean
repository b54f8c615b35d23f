/- law9: SystemAdds. Numbers of law9's seat. -/
import Derived.Test.YtgkcliecgmhmfaaLk
import Derived.Test.YtgkcliecgmhmfaaL8
namespace Go.Proofs.Ytgkcliecgmhmfaa
open Go Go.RowKit Go.Shelf

theorem Fits.then_ {cx : Cx} {s s1 s2 : AS} (h : Fits cx s s1) (k : Fits cx s1 s2) : Fits cx s s2 := fun a w x => k a w (h a w x)
def symsB (l : List Int) (pl : List Nat) : List UInt8 := (pl.map (fun p : Nat => symB (addD l) p)).flatten
theorem symB_add (l : List Int) (p : Nat) (h : p < l.length) : symB (addD l) (p : Int) = [letB (l.length - 1 - p)] := by
  have e : (addD l).syms = sl l.length := rfl
  unfold symB
  rw [e, Int.toNat_natCast, sl_get l.length p h]
  rfl
structure LS (l : List Int) (n0 : Nat) where
  m : Nat
  pl : List Nat
  j : Nat
  want : ByteArray
  hn : m ≤ n0
  hj : j ≤ l.length
  len : pl.length ≤ 61
  lt : ∀ p ∈ pl, p < l.length
  eq : addGo m pl j ((wl l l.length).drop j) = addGo n0 [] 0 (wl l l.length)
  hw : want.data.toList = symsB l pl
  hs : want.size = pl.length
structure IS (l : List Int) (n0 w j m0 : Nat) (pl0 : List Nat) where
  m : Nat
  pl : List Nat
  want : ByteArray
  hn : m ≤ n0
  len : pl.length ≤ 61
  lt : ∀ p ∈ pl, p < l.length
  eq : inGo w j m pl = inGo w j m0 pl0
  hw : want.data.toList = symsB l pl
  hs : want.size = pl.length
set_option maxHeartbeats 8000000 in
theorem adds_ok (l : List Int) (n : Int) (hl : l.length ≤ 9223372036854775807) : PCalls Try.prog 5 [.sl 1 (l.map iD), .val (.int .i64 n)] (.val (.bool true)) := by
  refine p_start Try.func5 Try.ntmps5 rfl rfl rfl fun S w => ?_
  repeat (first
    | refine awp_seq ?_
    | refine thenA_normal ?_
    | refine a_region ?_
    | refine r_done ?_
    | (refine r_id ?_; first
      | refine r_len tab_ok rfl rfl rfl rfl rfl rfl rfl ?_
      | refine r_ev tab_ok rfl rfl rfl rfl (by first | exact trivial | exact ⟨by omega, by omega⟩ | omega | exact ⟨by omega, by omega, by omega, by omega⟩ | exact Nat.le_of_ble_eq_true rfl) rfl ?_
      | refine r_len_cnd tab_ok rfl rfl rfl rfl rfl rfl (by first | exact fun _ => rfl | exact cs1) rfl rfl rfl ?_
      | refine r_ev_cnd tab_ok rfl rfl rfl rfl rfl rfl (by first | exact fun _ => rfl | exact cs1 | exact cs2 | exact cs3) (by first | exact fun _ => trivial | (intro h; simp at h; first | exact ⟨by omega, by omega⟩ | omega)) rfl ?_
      | refine r_or rfl rfl rfl rfl rfl rfl rfl rfl ?_))
  refine awp_cond rfl (fun h => ?_) (fun h => ?_)
  · repeat (first
      | refine awp_seq ?_
      | refine a_region ?_)
    refine r_call awake_ok call9 rfl rfl trivial rfl rfl rfl rfl ?_
    repeat (first
      | refine thenA_normal ?_
      | refine awp_ret ?_
      | refine thenA_ret ?_
      | refine r_done ?_
      | (refine r_id ?_; first
        | refine r_ev tab_ok rfl rfl rfl rfl (by first | exact trivial | exact ⟨by omega, by omega⟩ | omega | exact ⟨by omega, by omega, by omega, by omega⟩ | exact Nat.le_of_ble_eq_true rfl) rfl ?_)
      | refine ret1 (by first | exact .inl rfl | exact .inr rfl) rfl rfl rfl ?_)
    exact Sub.refl _
  simp only [Bool.or_eq_false_iff, decide_eq_false_iff_not] at h
  obtain ⟨m, rfl⟩ : ∃ m : Nat, n = m := ⟨n.toNat, by omega⟩
  have hl1 : 1 ≤ l.length := by omega
  have hl2 : l.length ≤ 12 := by omega
  repeat (first
    | refine awp_seq ?_
    | refine a_region ?_
    | refine awp_skip ?_)
  refine r_call (made0_ok additiveS) call10 rfl rfl ⟨Sub.refl _, Sub.refl _, trivial⟩ rfl rfl rfl rfl ?_
  repeat (first
    | refine awp_seq ?_
    | refine thenA_normal ?_
    | refine awp_block ?_
    | refine a_region ?_
    | refine r_done ?_
    | (refine r_id ?_; first
      | refine r_ev tab_ok rfl rfl rfl rfl (by first | exact trivial | exact ⟨by omega, by omega⟩ | omega | exact ⟨by omega, by omega, by omega, by omega⟩ | exact Nat.le_of_ble_eq_true rfl) rfl ?_
      | refine r_wr tab_ok rfl rfl rfl rfl rfl ?_
      | refine r_st tab_ok rfl rfl rfl rfl ?_))
  refine a_loop (σ := {i : Nat // i ≤ l.length}) (fun x => [.box 28 (dfG additiveS 1 (.sl 1 ((sl x.1).map sD)) (.sl 1 ((wl l x.1).map iD)) nilA true)]) (fun x => [(0, .sl 1 (l.map iD)), (1, .val (.int .i64 m)), (5, .ptr 0 0), (6, .val (.int .i64 (cw l x.1))), (7, .val (.int .i64 x.1))]) (fun x => l.length - x.1) ⟨0, Nat.zero_le _⟩ (fits_conv (by repeat' first | exact trivial | exact rfl | (rw [List.map_append]; first | done | rfl) | exact c_sub rfl (Sub.refl _) rfl | exact c_nil rfl rfl | exact c_thaw rfl rfl rfl | exact c_row rfl rfl rfl | exact c_row rfl rfl (by rw [List.map_append]; first | done | rfl) | exact c_ptr rfl rfl rfl rfl | exact Or.inl ⟨c_sub rfl (Sub.refl _) rfl, c_ptr rfl rfl rfl rfl⟩ | exact c_alt rfl rfl rfl rfl | exact c_ro rfl rfl | exact c_eo rfl rfl | exact c_sub rfl (Sub.altl _ _) rfl | exact c_sub rfl (Sub.nil _) rfl | refine ⟨_, _, rfl, ?_, ?_⟩ | apply And.intro) (by repeat' first | exact trivial | exact rfl | (rw [List.map_append]; first | done | rfl) | exact c_sub rfl (Sub.refl _) rfl | exact c_nil rfl rfl | exact c_thaw rfl rfl rfl | exact c_row rfl rfl rfl | exact c_row rfl rfl (by rw [List.map_append]; first | done | rfl) | exact c_ptr rfl rfl rfl rfl | exact Or.inl ⟨c_sub rfl (Sub.refl _) rfl, c_ptr rfl rfl rfl rfl⟩ | exact c_alt rfl rfl rfl rfl | exact c_ro rfl rfl | exact c_eo rfl rfl | exact c_sub rfl (Sub.altl _ _) rfl | exact c_sub rfl (Sub.nil _) rfl | refine ⟨_, _, rfl, ?_, ?_⟩ | apply And.intro)) ?_
  rintro ⟨i, hi⟩
  dsimp only
  have hwl := wl_len l i
  have hsl := sl_len i
  have hcb := cw_bound l i
  repeat (first
    | refine awp_seq ?_
    | refine thenA_normal ?_
    | refine a_region ?_
    | refine r_done ?_
    | (refine r_id ?_; first
      | refine r_len tab_ok rfl rfl rfl rfl rfl rfl rfl ?_
      | refine r_ev tab_ok rfl rfl rfl rfl (by first | exact trivial | exact ⟨by omega, by omega⟩ | omega | exact ⟨by omega, by omega, by omega, by omega⟩ | exact Nat.le_of_ble_eq_true rfl) rfl ?_))
  refine awp_cond_p rfl (fun hlt => ?_) (fun hge => ?_)
  · have hil : i < l.length := by omega
    have hW : cw l i + 1 + (l[((i : Nat) : Int).toNat]'(by omega)) % 1000 = cw l (i + 1) := by
      rw [cw, List.getD_eq_getElem?_getD, List.getElem?_eq_getElem hil]
      rfl
    have hE1 : [D.val (.int .i64 (cw l i + 1 + (l[((i : Nat) : Int).toNat]'(by omega)) % 1000))] ++ (wl l i).map iD = (wl l (i + 1)).map iD := by
      rw [hW]
      rfl
    have hE2 : [D.val (.string (bytesStr [97 + (i : Int)]))] ++ (sl i).map sD = (sl (i + 1)).map sD := rfl
    repeat (first
      | refine awp_seq ?_
      | refine awp_block ?_
      | refine a_region ?_
      | refine awp_skip ?_
      | (refine r_id ?_; first
        | refine r_ev tab_ok rfl rfl rfl rfl (by first | exact trivial | exact ⟨by omega, by omega⟩ | omega | exact ⟨by omega, by omega, by omega, by omega⟩ | exact Nat.le_of_ble_eq_true rfl) rfl ?_
        | refine r_idx tab_ok rfl rfl rfl rfl rfl rfl rfl (by first | exact ⟨by omega, by omega⟩ | (simp; omega)) rfl rfl ?_))
    refine r_call (round_ok (l[((i : Nat) : Int).toNat]'(by omega)) 1000 (by decide) (by decide)) call12 rfl rfl ⟨Sub.refl _, Sub.refl _, trivial⟩ rfl rfl rfl rfl ?_
    repeat (first
      | refine awp_seq ?_
      | refine a_region ?_
      | refine r_done ?_
      | (refine r_id ?_; first
        | refine r_ev tab_ok rfl rfl rfl rfl (by first | exact trivial | exact ⟨by omega, by omega⟩ | omega | exact ⟨by omega, by omega, by omega, by omega⟩ | exact Nat.le_of_ble_eq_true rfl) rfl ?_))
    refine r_built_row tab_ok rfl rfl rfl rfl rfl rfl rfl rfl rfl ?_
    repeat (first
      | refine thenA_normal ?_
      | refine a_region ?_
      | refine r_done ?_
      | (refine r_id ?_; first
        | refine r_ev tab_ok rfl rfl rfl rfl (by first | exact trivial | exact ⟨by omega, by omega⟩ | omega | exact ⟨by omega, by omega, by omega, by omega⟩ | exact Nat.le_of_ble_eq_true rfl) rfl ?_
        | refine r_ld tab_ok rfl rfl rfl rfl rfl ?_
        | refine r_st tab_ok rfl rfl rfl rfl ?_
        | refine r_append tab_ok rfl rfl rfl rfl rfl rfl rfl rfl rfl (by first | omega | (simp; omega)) rfl ?_))
    refine r_built tab_ok rfl rfl rfl rfl rfl rfl rfl rfl rfl ?_
    repeat (first
      | (refine r_id ?_; first
        | refine r_bstr tab_ok rfl rfl rfl rfl rfl rfl rfl rfl rfl rfl ?_))
    refine r_built_row tab_ok rfl rfl rfl rfl rfl rfl rfl rfl rfl ?_
    repeat (first
      | refine thenA_normal ?_
      | refine a_region ?_
      | refine r_done ?_
      | (refine r_id ?_; first
        | refine r_ev tab_ok rfl rfl rfl rfl (by first | exact trivial | exact ⟨by omega, by omega⟩ | omega | exact ⟨by omega, by omega, by omega, by omega⟩ | exact Nat.le_of_ble_eq_true rfl) rfl ?_
        | refine r_ld tab_ok rfl rfl rfl rfl rfl ?_
        | refine r_st tab_ok rfl rfl rfl rfl ?_
        | refine r_append tab_ok rfl rfl rfl rfl rfl rfl rfl rfl rfl (by first | omega | (simp; omega)) rfl ?_))
    refine ⟨⟨i + 1, by omega⟩, by dsimp only; omega, ?_⟩
    refine Fits.then_ (fits_conv (M' := [.box 28 (dfG additiveS 1 (.sl 1 ((sl (i + 1)).map sD)) (.sl 1 ((wl l (i + 1)).map iD)) nilA true), .gone, .gone]) (F' := [(0, .sl 1 (l.map iD)), (1, .val (.int .i64 m)), (5, .ptr 0 0), (6, .val (.int .i64 (cw l (i + 1)))), (7, .val (.int .i64 ((i + 1 : Nat) : Int)))]) ?_ ?_)
      (fits_drop 1 rfl rfl ⟨⟨rfl, Sub.refl _⟩, ⟨rfl, Sub.refl _⟩, ⟨rfl, Sub.refl _⟩, ⟨rfl, Sub.refl _⟩, ⟨rfl, Sub.refl _⟩, trivial⟩)
    · repeat' first | exact trivial | exact rfl | exact c_sub rfl (Sub.refl _) rfl | exact c_thaw rfl rfl hE1 | exact c_thaw rfl rfl hE2 | exact c_ptr rfl rfl rfl rfl | refine ⟨_, _, rfl, ?_, ?_⟩ | apply And.intro
    · exact ⟨c_sub rfl (Sub.refl _) rfl, c_sub rfl (Sub.refl _) rfl, c_ptr rfl rfl rfl rfl, c_sub rfl (Sub.of_eq (congrArg (fun z => AV.val (.int .i64 z)) hW)) rfl, c_sub rfl (Sub.refl _) rfl, trivial⟩
  · have hie : i = l.length := by omega
    subst hie
    have hp := signs_ok (addD l) (m : Int) (by show (-9223372036854775808 : Int) ≤ 1; decide) (by show (sl l.length).length ≤ _; omega) (by show (wl l l.length).length ≤ _; omega) (by show 0 ≤ _; omega)
    rw [signs_add hl1 hl2 (by omega)] at hp
    have hr : addTB (addD l) m = if 0 < (addGo m [] 0 (wl l l.length)).1 ∨ 60 < (addGo m [] 0 (wl l l.length)).2.length then noTB else (ustr (symsB l (addGo m [] 0 (wl l l.length)).2), true) := by
      rw [addTB, if_neg (by omega)]
      rfl
    generalize addTB (addD l) m = r at hp hr
    obtain ⟨r1, r2⟩ := r
    have hmay := may_ok (addD l) (by show (sl l.length).length ≤ _; omega) (by show (wl l l.length).length ≤ _; omega) (by show 0 ≤ _; omega)
    rw [may_add hl1 hl2] at hmay
    repeat (first
      | refine awp_seq ?_
      | refine a_region ?_
      | refine awp_exit ?_
      | (refine r_id ?_; first
        | refine r_ev tab_ok rfl rfl rfl rfl (by first | exact trivial | exact ⟨by omega, by omega⟩ | omega | exact ⟨by omega, by omega, by omega, by omega⟩ | exact Nat.le_of_ble_eq_true rfl) rfl ?_
        | refine r_ld tab_ok rfl rfl rfl rfl rfl ?_))
    refine r_call hp call11 rfl rfl ⟨Sub.agg (by repeat' first | exact trivial | exact Sub.refl _ | exact Sub.nil _ | refine Sub.agg ?_ | apply And.intro), Sub.refl _, trivial⟩ rfl rfl rfl rfl ?_
    repeat (first
      | refine awp_seq ?_
      | refine a_region ?_
      | refine r_done ?_
      | (refine r_id ?_; first
        | refine r_ev tab_ok rfl rfl rfl rfl (by first | exact trivial | exact ⟨by omega, by omega⟩ | omega | exact ⟨by omega, by omega, by omega, by omega⟩ | exact Nat.le_of_ble_eq_true rfl) rfl ?_
        | refine r_ld tab_ok rfl rfl rfl rfl rfl ?_))
    refine r_call hmay call13 rfl rfl ⟨Sub.agg (by repeat' first | exact trivial | exact Sub.refl _ | exact Sub.nil _ | refine Sub.agg ?_ | apply And.intro), trivial⟩ rfl rfl rfl rfl ?_
    repeat (first
      | refine awp_seq ?_
      | refine thenA_normal ?_
      | refine awp_block ?_
      | refine a_region ?_
      | refine awp_skip ?_
      | refine r_done ?_
      | (refine r_id ?_; first
        | refine r_ev tab_ok rfl rfl rfl rfl (by first | exact trivial | exact ⟨by omega, by omega⟩ | omega | exact ⟨by omega, by omega, by omega, by omega⟩ | exact Nat.le_of_ble_eq_true rfl) rfl ?_)
      | refine awp_cond_f rfl ?_)
    refine a_loop (σ := LS l m) (fun _ => [.box 28 (dfG additiveS 1 (.sl 1 ((sl l.length).map sD)) (.sl 1 ((wl l l.length).map iD)) nilA true)]) (fun x => [(5, .ptr 0 0), (8, .val (.string r1)), (9, .val (.bool r2)), (10, .val (.int .i64 x.m)), (11, .val (.string x.want)), (12, .val (.int .i64 x.j))]) (fun x => l.length - x.j)
      ⟨m, [], 0, ⟨#[]⟩, Nat.le_refl _, Nat.zero_le _, by simp, by simp, rfl, rfl, rfl⟩ (fits_conv (by repeat' first | exact trivial | exact rfl | (rw [List.map_append]; first | done | rfl) | exact c_sub rfl (Sub.refl _) rfl | exact c_nil rfl rfl | exact c_thaw rfl rfl rfl | exact c_row rfl rfl rfl | exact c_row rfl rfl (by rw [List.map_append]; first | done | rfl) | exact c_ptr rfl rfl rfl rfl | exact Or.inl ⟨c_sub rfl (Sub.refl _) rfl, c_ptr rfl rfl rfl rfl⟩ | exact c_alt rfl rfl rfl rfl | exact c_ro rfl rfl | exact c_eo rfl rfl | exact c_sub rfl (Sub.altl _ _) rfl | exact c_sub rfl (Sub.nil _) rfl | refine ⟨_, _, rfl, ?_, ?_⟩ | apply And.intro) (by repeat' first | exact trivial | exact rfl | (rw [List.map_append]; first | done | rfl) | exact c_sub rfl (Sub.refl _) rfl | exact c_nil rfl rfl | exact c_thaw rfl rfl rfl | exact c_row rfl rfl rfl | exact c_row rfl rfl (by rw [List.map_append]; first | done | rfl) | exact c_ptr rfl rfl rfl rfl | exact Or.inl ⟨c_sub rfl (Sub.refl _) rfl, c_ptr rfl rfl rfl rfl⟩ | exact c_alt rfl rfl rfl rfl | exact c_ro rfl rfl | exact c_eo rfl rfl | exact c_sub rfl (Sub.altl _ _) rfl | exact c_sub rfl (Sub.nil _) rfl | refine ⟨_, _, rfl, ?_, ?_⟩ | apply And.intro)) ?_
    rintro ⟨m1, pl, j, want, hm1, hj, hlen, hlt, heq, hw, hs⟩
    dsimp only at hm1 hj hlen hlt heq hw hs ⊢
    repeat (first
      | refine awp_seq ?_
      | refine thenA_normal ?_
      | refine a_region ?_
      | refine r_done ?_
      | (refine r_id ?_; first
        | refine r_len tab_ok rfl rfl rfl rfl rfl rfl rfl ?_
        | refine r_ev tab_ok rfl rfl rfl rfl (by first | exact trivial | exact ⟨by omega, by omega⟩ | omega | exact ⟨by omega, by omega, by omega, by omega⟩ | exact Nat.le_of_ble_eq_true rfl) rfl ?_
        | refine r_ld tab_ok rfl rfl rfl rfl rfl ?_))
    refine awp_cond_p rfl (fun hc => ?_) (fun hc => ?_)
    · have hj' : j < (wl l l.length).length := by omega
      have hdr : (wl l l.length).drop j = (wl l l.length)[j] :: (wl l l.length).drop (j + 1) := List.drop_eq_getElem_cons hj'
      obtain ⟨hw1, hw2⟩ := wl_mem l l.length _ (List.getElem_mem hj')
      obtain ⟨wn, hwn⟩ : ∃ wn : Nat, (wl l l.length)[j] = wn := ⟨((wl l l.length)[j]).toNat, by omega⟩
      have hwn' : (wl l l.length)[((j : Nat) : Int).toNat]'(by omega) = wn := hwn
      have hss : ((sl l.length)[((j : Nat) : Int).toNat]'(by omega)).size = 1 := sl_size _ _ (List.getElem_mem _)
      have hsb : symB (addD l) (j : Int) = ((sl l.length)[((j : Nat) : Int).toNat]'(by omega)).data.toList := by
        have e : (addD l).syms = sl l.length := rfl
        unfold symB
        rw [e, List.getD_eq_getElem?_getD, List.getElem?_eq_getElem (by omega)]
        rfl
      rw [hwn] at hdr hw1 hw2
      repeat (first
        | refine awp_seq ?_
        | refine awp_block ?_
        | refine awp_skip ?_)
      refine a_loop (σ := IS l m wn j m1 pl) (fun _ => [.box 28 (dfG additiveS 1 (.sl 1 ((sl l.length).map sD)) (.sl 1 ((wl l l.length).map iD)) nilA true)]) (fun x => [(5, .ptr 0 0), (8, .val (.string r1)), (9, .val (.bool r2)), (10, .val (.int .i64 x.m)), (11, .val (.string x.want)), (12, .val (.int .i64 j))]) (fun x => 61 - x.pl.length)
        ⟨m1, pl, want, hm1, hlen, hlt, rfl, hw, hs⟩ (fits_conv (by repeat' first | exact trivial | exact rfl | (rw [List.map_append]; first | done | rfl) | exact c_sub rfl (Sub.refl _) rfl | exact c_nil rfl rfl | exact c_thaw rfl rfl rfl | exact c_row rfl rfl rfl | exact c_row rfl rfl (by rw [List.map_append]; first | done | rfl) | exact c_ptr rfl rfl rfl rfl | exact Or.inl ⟨c_sub rfl (Sub.refl _) rfl, c_ptr rfl rfl rfl rfl⟩ | exact c_alt rfl rfl rfl rfl | exact c_ro rfl rfl | exact c_eo rfl rfl | exact c_sub rfl (Sub.altl _ _) rfl | exact c_sub rfl (Sub.nil _) rfl | refine ⟨_, _, rfl, ?_, ?_⟩ | apply And.intro) (by repeat' first | exact trivial | exact rfl | (rw [List.map_append]; first | done | rfl) | exact c_sub rfl (Sub.refl _) rfl | exact c_nil rfl rfl | exact c_thaw rfl rfl rfl | exact c_row rfl rfl rfl | exact c_row rfl rfl (by rw [List.map_append]; first | done | rfl) | exact c_ptr rfl rfl rfl rfl | exact Or.inl ⟨c_sub rfl (Sub.refl _) rfl, c_ptr rfl rfl rfl rfl⟩ | exact c_alt rfl rfl rfl rfl | exact c_ro rfl rfl | exact c_eo rfl rfl | exact c_sub rfl (Sub.altl _ _) rfl | exact c_sub rfl (Sub.nil _) rfl | refine ⟨_, _, rfl, ?_, ?_⟩ | apply And.intro)) ?_
      rintro ⟨m2, ql, want2, hm2, hlen2, hlt2, heq2, hw2', hs2⟩
      dsimp only at hm2 hlen2 hlt2 heq2 hw2' hs2 ⊢
      repeat (first
        | refine awp_seq ?_
        | refine thenA_normal ?_
        | refine a_region ?_
        | refine r_done ?_
        | (refine r_id ?_; first
          | refine r_ev tab_ok rfl rfl rfl rfl (by first | exact trivial | exact ⟨by omega, by omega⟩ | omega | exact ⟨by omega, by omega, by omega, by omega⟩ | exact Nat.le_of_ble_eq_true rfl) rfl ?_
          | refine r_ld tab_ok rfl rfl rfl rfl rfl ?_
          | refine r_idx tab_ok rfl rfl rfl rfl rfl rfl rfl (by first | exact ⟨by omega, by omega⟩ | (simp; omega)) rfl rfl ?_
          | refine r_ev_cnd tab_ok rfl rfl rfl rfl rfl rfl (by first | exact fun _ => rfl | exact cs1 | exact cs2 | exact cs3) (by first | exact fun _ => trivial | (intro h; simp at h; first | exact ⟨by omega, by omega⟩ | omega)) rfl ?_
          | refine r_and rfl rfl rfl rfl rfl rfl rfl rfl ?_))
      refine awp_cond rfl (fun hb => ?_) (fun hb => ?_)
      · simp only [Bool.and_eq_true, decide_eq_true_eq] at hb
        have hy : wn ≤ m2 ∧ ql.length ≤ 60 := by omega
        repeat (first
          | refine awp_seq ?_
          | refine thenA_normal ?_
          | refine awp_block ?_
          | refine a_region ?_
          | refine blockA_normal ?_
          | refine awp_skip ?_
          | refine r_done ?_
          | (refine r_id ?_; first
            | refine r_ev tab_ok rfl rfl rfl rfl (by first | exact trivial | exact ⟨by omega, by omega⟩ | omega | exact ⟨by omega, by omega, by omega, by omega⟩ | exact Nat.le_of_ble_eq_true rfl) rfl ?_
            | refine r_ld tab_ok rfl rfl rfl rfl rfl ?_
            | refine r_idx tab_ok rfl rfl rfl rfl rfl rfl rfl (by first | exact ⟨by omega, by omega⟩ | (simp; omega)) rfl rfl ?_))
        refine ⟨⟨m2 - wn, ql ++ [j], want2 ++ (sl l.length)[((j : Nat) : Int).toNat]'(by omega), by omega, by simp; omega, ?_, by rw [← heq2, inGo_yes hy], ?_, ?_⟩, by simp; omega, fits_conv (by repeat' first | exact trivial | exact rfl | (rw [List.map_append]; first | done | rfl) | exact c_sub rfl (Sub.refl _) rfl | exact c_nil rfl rfl | exact c_thaw rfl rfl rfl | exact c_row rfl rfl rfl | exact c_row rfl rfl (by rw [List.map_append]; first | done | rfl) | exact c_ptr rfl rfl rfl rfl | exact Or.inl ⟨c_sub rfl (Sub.refl _) rfl, c_ptr rfl rfl rfl rfl⟩ | exact c_alt rfl rfl rfl rfl | exact c_ro rfl rfl | exact c_eo rfl rfl | exact c_sub rfl (Sub.altl _ _) rfl | exact c_sub rfl (Sub.nil _) rfl | refine ⟨_, _, rfl, ?_, ?_⟩ | apply And.intro) ⟨c_ptr rfl rfl rfl rfl, c_sub rfl (Sub.refl _) rfl, c_sub rfl (Sub.refl _) rfl, c_sub rfl (Sub.of_eq (congrArg (fun z => AV.val (.int .i64 z)) (show (m2 : Int) - (wl l l.length)[((j : Nat) : Int).toNat]'(by omega) = ((m2 - wn : Nat) : Int) by omega))) rfl, c_sub rfl (Sub.refl _) rfl, c_sub rfl (Sub.refl _) rfl, trivial⟩⟩
        · intro p hp
          rcases List.mem_append.1 hp with hp | hp
          · exact hlt2 p hp
          · simp at hp; omega
        · rw [ByteArray.data_append, Array.toList_append, hw2', symsB, symsB, List.map_append, List.flatten_append]
          congr 1
          rw [List.map_cons, List.map_nil, List.flatten_cons, List.flatten_nil, List.append_nil, hsb]
        · rw [ByteArray.size_append, hss, hs2]
          simp
      · have hy : ¬ (wn ≤ m2 ∧ ql.length ≤ 60) := by
          rintro ⟨k1, k2⟩
          simp only [Bool.and_eq_false_iff, decide_eq_false_iff_not] at hb
          omega
        rw [inGo_no hy] at heq2
        repeat (first
          | refine thenA_normal ?_
          | refine a_region ?_
          | refine awp_exit ?_
          | refine r_done ?_
          | (refine r_id ?_; first
            | refine r_ev tab_ok rfl rfl rfl rfl (by first | exact trivial | exact ⟨by omega, by omega⟩ | omega | exact ⟨by omega, by omega, by omega, by omega⟩ | exact Nat.le_of_ble_eq_true rfl) rfl ?_))
        exact ⟨⟨m2, ql, j + 1, want2, by omega, by omega, hlen2, hlt2, by
          rw [← heq, hdr, addGo, if_neg (by omega), Int.toNat_natCast, ← heq2], hw2', hs2⟩, by dsimp only; omega, fits_conv (by repeat' first | exact trivial | exact rfl | (rw [List.map_append]; first | done | rfl) | exact c_sub rfl (Sub.refl _) rfl | exact c_nil rfl rfl | exact c_thaw rfl rfl rfl | exact c_row rfl rfl rfl | exact c_row rfl rfl (by rw [List.map_append]; first | done | rfl) | exact c_ptr rfl rfl rfl rfl | exact Or.inl ⟨c_sub rfl (Sub.refl _) rfl, c_ptr rfl rfl rfl rfl⟩ | exact c_alt rfl rfl rfl rfl | exact c_ro rfl rfl | exact c_eo rfl rfl | exact c_sub rfl (Sub.altl _ _) rfl | exact c_sub rfl (Sub.nil _) rfl | refine ⟨_, _, rfl, ?_, ?_⟩ | apply And.intro) (by repeat' first | exact trivial | exact rfl | (rw [List.map_append]; first | done | rfl) | exact c_sub rfl (Sub.refl _) rfl | exact c_nil rfl rfl | exact c_thaw rfl rfl rfl | exact c_row rfl rfl rfl | exact c_row rfl rfl (by rw [List.map_append]; first | done | rfl) | exact c_ptr rfl rfl rfl rfl | exact Or.inl ⟨c_sub rfl (Sub.refl _) rfl, c_ptr rfl rfl rfl rfl⟩ | exact c_alt rfl rfl rfl rfl | exact c_ro rfl rfl | exact c_eo rfl rfl | exact c_sub rfl (Sub.altl _ _) rfl | exact c_sub rfl (Sub.nil _) rfl | refine ⟨_, _, rfl, ?_, ?_⟩ | apply And.intro)⟩
    · have hje : j = (wl l l.length).length := by omega
      rw [hje, List.drop_length, addGo] at heq
      have e1 : (addGo m [] 0 (wl l l.length)).1 = m1 := by rw [← heq]
      have e2 : (addGo m [] 0 (wl l l.length)).2 = pl := by rw [← heq]
      rw [e1, e2] at hr
      repeat (first
        | refine awp_seq ?_
        | refine thenA_normal ?_
        | refine a_region ?_
        | refine awp_exit ?_
        | refine r_done ?_
        | (refine r_id ?_; first
          | refine r_ev tab_ok rfl rfl rfl rfl (by first | exact trivial | exact ⟨by omega, by omega⟩ | omega | exact ⟨by omega, by omega, by omega, by omega⟩ | exact Nat.le_of_ble_eq_true rfl) rfl ?_
          | refine r_ev_cnd tab_ok rfl rfl rfl rfl rfl rfl (by first | exact fun _ => rfl | exact cs1 | exact cs2 | exact cs3) (by first | exact fun _ => trivial | (intro h; simp at h; first | exact ⟨by omega, by omega⟩ | omega)) rfl ?_
          | refine r_or rfl rfl rfl rfl rfl rfl rfl rfl ?_))
      refine awp_cond rfl (fun hb => ?_) (fun hb => ?_)
      · simp only [Bool.or_eq_true, decide_eq_true_eq] at hb
        rw [if_pos (by omega)] at hr
        cases hr
        repeat (first
          | refine awp_seq ?_
          | refine a_region ?_
          | (refine r_id ?_; first
            | refine r_ev tab_ok rfl rfl rfl rfl (by first | exact trivial | exact ⟨by omega, by omega⟩ | omega | exact ⟨by omega, by omega, by omega, by omega⟩ | exact Nat.le_of_ble_eq_true rfl) rfl ?_
            | refine r_ev_cnd tab_ok rfl rfl rfl rfl rfl rfl (by first | exact fun _ => rfl | exact cs1 | exact cs2 | exact cs3) (by first | exact fun _ => trivial | (intro h; simp at h; first | exact ⟨by omega, by omega⟩ | omega)) rfl ?_
            | refine r_and rfl rfl rfl rfl rfl rfl rfl rfl ?_))
        refine r_call_cnd (fun _ => awake_ok) call9 rfl rfl rfl rfl (by first | exact fun _ => rfl | exact cs1 | exact cs2 | exact cs3) trivial rfl rfl rfl rfl ?_
        repeat (first
          | refine thenA_normal ?_
          | refine awp_ret ?_
          | refine thenA_ret ?_
          | refine r_done ?_
          | (refine r_id ?_; first
            | refine r_ev tab_ok rfl rfl rfl rfl (by first | exact trivial | exact ⟨by omega, by omega⟩ | omega | exact ⟨by omega, by omega, by omega, by omega⟩ | exact Nat.le_of_ble_eq_true rfl) rfl ?_
            | refine r_and rfl rfl rfl rfl rfl rfl rfl rfl ?_)
          | refine ret1 (by first | exact .inl rfl | exact .inr rfl) rfl rfl rfl ?_)
        exact Sub.refl _
      · simp only [Bool.or_eq_false_iff, decide_eq_false_iff_not] at hb
        rw [if_neg (by omega)] at hr
        have hwe : ustr (symsB l pl) = want := by
          rw [← hw]
          rfl
        rw [hwe] at hr
        cases hr
        repeat (first
          | refine awp_seq ?_
          | refine a_region ?_
          | refine awp_skip ?_
          | (refine r_id ?_; first
            | refine r_ev tab_ok rfl rfl rfl rfl (by first | exact trivial | exact ⟨by omega, by omega⟩ | omega | exact ⟨by omega, by omega, by omega, by omega⟩ | exact Nat.le_of_ble_eq_true rfl) rfl ?_
            | refine r_ev_cnd tab_ok rfl rfl rfl rfl rfl rfl (by first | exact fun _ => rfl | exact cs1 | exact cs2 | exact cs3) (by first | exact fun _ => trivial | (intro h; simp at h; first | exact ⟨by omega, by omega⟩ | omega)) rfl ?_
            | refine r_and rfl rfl rfl rfl rfl rfl rfl rfl ?_))
        refine r_call_cnd (fun _ => awake_ok) call9 rfl rfl rfl rfl (by first | exact fun _ => rfl | exact cs1 | exact cs2 | exact cs3) trivial rfl rfl rfl rfl ?_
        repeat (first
          | refine thenA_normal ?_
          | refine awp_ret ?_
          | refine r_done ?_
          | (refine r_id ?_; first
            | refine r_ev tab_ok rfl rfl rfl rfl (by first | exact trivial | exact ⟨by omega, by omega⟩ | omega | exact ⟨by omega, by omega, by omega, by omega⟩ | exact Nat.le_of_ble_eq_true rfl) rfl ?_
            | refine r_and rfl rfl rfl rfl rfl rfl rfl rfl ?_)
          | refine ret1 (by first | exact .inl rfl | exact .inr rfl) rfl rfl rfl ?_)
        exact Sub.of_eq (by simp)
end Go.Proofs.Ytgkcliecgmhmfaa
