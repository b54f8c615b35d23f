/- The law TokenHashes. -/
import Derived.Test.YtbjinibmkkmhkaaDooru2
import Derived.Test.YtbjinibmkkmhkaaDoorr9
namespace Go.Proofs.YtbjinibmkkmhkaaDoor
open Go Go.RowKit
set_option maxRecDepth 20000

def hnB (c : UInt8) : Bool := nameF (c.toNat : Int) && decide (c.toNat < 128)
/-- May the name begin a name? -/
def hid1 : List UInt8 → Bool
  | [] => false
  | d :: _ => decide (d.toNat = 45) || letF (bI d)
def hidF : List UInt8 → Bool
  | [] => false
  | c :: r => letF (bI c) || (decide (c.toNat = 45) && hid1 r)
theorem hn_facts {c : UInt8} (h : hnB c = true) : nameF (bI c) = true ∧ c.toNat < 128 ∧ plB c = true ∧ c.toNat ≠ 92 := by
  rw [hnB, Bool.and_eq_true, decide_eq_true_eq] at h
  have h1 := h.1
  simp only [nameF, letF, digF, Bool.or_eq_true, Bool.and_eq_true, decide_eq_true_eq] at h1
  refine ⟨h.1, h.2, ?_, by omega⟩
  simp only [plB, Bool.and_eq_true, decide_eq_true_eq, Bool.not_eq_true', decide_eq_false_iff_not]
  omega
theorem hash_toks (l : List UInt8) (hl : l ≠ []) (h : l.all hnB = true) : toks ⟨(35 :: l ++ [59, 35]).toArray⟩ = [⟨4, ⟨l.toArray⟩, 0, false, false, hidF l⟩, tkK 17 ⟨#[]⟩, tkK 9 ⟨#[35]⟩] := by
  have hall : ∀ c ∈ l, hnB c = true := List.all_eq_true.1 h
  have hp : (35 :: l ++ [59, 35]).all plB = true := by
    rw [List.all_append, List.all_cons, Bool.and_eq_true, Bool.and_eq_true]
    exact ⟨⟨rfl, List.all_eq_true.2 fun c hc => (hn_facts (hall c hc)).2.2.1⟩, rfl⟩
  have hr : readL ⟨(35 :: l ++ [59, 35]).toArray⟩ = 35 :: (l.map bI ++ [59, 35]) := by
    rw [read_pl _ hp, List.map_append, List.map_cons]; rfl
  rw [toks, hr, ← toks_L]
  have hw : (l.map bI).all nameF = true := by
    rw [List.all_map]
    exact List.all_eq_true.2 fun c hc => (hn_facts (hall c hc)).1
  have hn := nameL_word (l.map bI) [59, 35] hw rfl (by decide)
  have hrun : runesBytes (l.map bI) = ⟨l.toArray⟩ := runes_ascii l (List.all_eq_true.2 fun c hc => decide_eq_true (hn_facts (hall c hc)).2.1)
  obtain ⟨c, r, rfl⟩ : ∃ c r, l = c :: r := by
    cases l with
    | nil => exact absurd rfl hl
    | cons c r => exact ⟨c, r, rfl⟩
  have hc := hn_facts (hall c (by simp))
  have hid : namesL ((c :: r).map bI ++ [59, 35]) = hidF (c :: r) := by
    have h45 : (bI c = 45) = (c.toNat = 45) := by unfold bI; apply propext; omega
    have g0 : gt ((c :: r).map bI ++ [59, 35]) 0 = bI c := rfl
    rw [namesL, g0]
    have hesc : ∀ (d : UInt8) (q : List Int), d.toNat ≠ 92 → escL (bI d :: q) = false := fun d q hd => by
      rw [escL]
      show (decide (bI d = 92) && _) = false
      rw [decide_eq_false (by unfold bI; omega), Bool.false_and]
    by_cases h1 : c.toNat = 45
    · have e1 : bI c = 45 := by unfold bI; omega
      have e2 : letF (45 : Int) = false := by decide
      rw [if_pos e1, hidF, e1, e2, decide_eq_true h1, Bool.false_or, Bool.true_and]
      cases r with
      | nil =>
        have g1 : gt ([c].map bI ++ [59, 35]) 1 = 59 := rfl
        have g2 : ([c].map bI ++ [59, 35]).drop 1 = [59, 35] := rfl
        rw [g1, g2]
        decide
      | cons d q =>
        have hd := hn_facts (hall d (by simp))
        have g1 : gt ((c :: d :: q).map bI ++ [59, 35]) 1 = bI d := rfl
        have g2 : ((c :: d :: q).map bI ++ [59, 35]).drop 1 = bI d :: (q.map bI ++ [59, 35]) := rfl
        have g3 : decide (bI d = 45) = decide (d.toNat = 45) := by rw [decide_eq_decide]; unfold bI; omega
        rw [g1, g2, hesc d _ hd.2.2.2, Bool.or_false, Bool.or_comm, g3, hid1]
    · have e1 : ¬ bI c = 45 := by unfold bI; omega
      rw [if_neg e1, hidF, decide_eq_false h1, Bool.false_and, Bool.or_false]
      have g2 : (c :: r).map bI ++ [59, 35] = bI c :: (r.map bI ++ [59, 35]) := rfl
      rw [g2, hesc c _ hc.2.2.2, Bool.or_false]
  have htok : tokL (35 :: ((c :: r).map bI ++ [59, 35])) = (⟨4, ⟨(c :: r).toArray⟩, 0, false, false, hidF (c :: r)⟩, [59, 35]) := by
    have h0 : gt (35 :: ((c :: r).map bI ++ [59, 35])) 0 = 35 := rfl
    have hh : hashL (35 :: ((c :: r).map bI ++ [59, 35])) = true := by
      rw [hashL]
      show (true && (nameF (bI c) || _)) = true
      rw [hc.1]; rfl
    rw [tokL, h0, if_neg (plI_no (by decide)), if_neg (by decide), if_neg (by decide), if_pos hh]
    show ((⟨4, runesBytes (nameL ((c :: r).map bI ++ [59, 35])).1, 0, false, false, namesL ((c :: r).map bI ++ [59, 35])⟩ : Tk), (nameL ((c :: r).map bI ++ [59, 35])).2) = _
    rw [hn, hid, hrun]
  rw [toksL_at (l := 35 :: ((c :: r).map bI ++ [59, 35])) (by show (0 : Int) ≤ 35; decide) (by left; show (35 : Int) ≠ 47; decide), htok]
  have h3 : toksL [59, 35] = [tkK 17 ⟨#[]⟩, tkK 9 ⟨#[35]⟩] := by kernel_rfl
  simp only
  rw [h3]
set_option maxHeartbeats 8000000 in
theorem lawHashes (s : ByteArray) (hs : s.size ≤ 9223372036854775807) : PCalls Tryd.prog 11 [.val (.string s)] (.val (.bool true)) := by
  refine p_start Tryd.func11 Tryd.ntmps11 rfl rfl rfl fun S w => ?_
  have hsz := str_size s
  repeat (first | refine awp_seq ?_ | refine thenA_normal ?_ | refine a_region ?_ | refine r_done ?_ | (refine r_id ?_; first | refine r_ev tab_ok rfl rfl rfl rfl (by first | exact trivial | exact ⟨by omega, by omega⟩ | omega | exact ⟨by omega, by omega, by omega, by omega⟩ | exact Nat.le_of_ble_eq_true rfl) rfl ?_ | refine r_ev_cnd tab_ok rfl rfl rfl rfl rfl rfl (by first | exact fun _ => rfl | exact cs1 | exact cs2 | exact cs3) (by first | exact fun _ => trivial | (intro h; simp at h; first | exact ⟨by omega, by omega⟩ | omega)) rfl ?_ | refine r_or rfl rfl rfl rfl rfl rfl rfl rfl ?_))
  refine awp_cond rfl (fun h => ?_) (fun h => ?_)
  · repeat (first | refine awp_seq ?_ | refine a_region ?_)
    refine r_call awake2_ok call12 rfl rfl trivial rfl rfl rfl rfl ?_
    repeat (first | refine thenA_normal ?_ | refine awp_ret ?_ | refine thenA_ret ?_ | refine r_done ?_ | (refine r_id ?_; first | refine r_ev tab_ok rfl rfl rfl rfl (by first | exact trivial | exact ⟨by omega, by omega⟩ | omega | exact ⟨by omega, by omega, by omega, by omega⟩ | exact Nat.le_of_ble_eq_true rfl) rfl ?_) | refine ret1 (by first | exact .inl rfl | exact .inr rfl) rfl rfl rfl ?_)
    exact Sub.refl _
  rw [Bool.or_eq_false_iff, decide_eq_false_iff_not, decide_eq_false_iff_not] at h
  repeat (first | refine awp_seq ?_ | refine thenA_normal ?_ | refine awp_block ?_ | refine a_region ?_ | refine awp_skip ?_ | refine r_done ?_ | (refine r_id ?_; first | refine r_ev tab_ok rfl rfl rfl rfl (by first | exact trivial | exact ⟨by omega, by omega⟩ | omega | exact ⟨by omega, by omega, by omega, by omega⟩ | exact Nat.le_of_ble_eq_true rfl) rfl ?_))
  refine a_loop (σ := {i : Nat // i ≤ s.data.toList.length ∧ (s.data.toList.take i).all hnB = true}) (fun _ => []) (fun x => [(0, .val (.string s)), (3, .val (.int .i64 x.1))]) (fun x => s.data.toList.length - x.1) ⟨0, Nat.zero_le _, rfl⟩ (fits_of rfl (by repeat' first | exact trivial | exact Sub.refl _ | exact rfl | apply And.intro)) ?_
  rintro ⟨i, hi, hall⟩
  dsimp only
  repeat (first | refine awp_seq ?_ | refine thenA_normal ?_ | refine a_region ?_ | refine r_done ?_ | (refine r_id ?_; first | refine r_ev tab_ok rfl rfl rfl rfl (by first | exact trivial | exact ⟨by omega, by omega⟩ | omega | exact ⟨by omega, by omega, by omega, by omega⟩ | exact Nat.le_of_ble_eq_true rfl) rfl ?_))
  refine awp_cond_p rfl (fun hlt => ?_) (fun hge => ?_)
  · have hi' : i < s.data.toList.length := by omega
    have h256 := (s.data.toList.getD ((i : Nat) : Int).toNat 0).toNat_lt
    have hgb : s.data.toList.getD ((i : Nat) : Int).toNat 0 = s.data.toList[i] := by rw [Int.toNat_natCast, getD_byte hi']
    repeat (first | refine awp_seq ?_ | refine awp_block ?_ | refine a_region ?_ | refine awp_skip ?_ | (refine r_id ?_; first | refine r_ev tab_ok rfl rfl rfl rfl (by first | exact trivial | exact ⟨by omega, by omega⟩ | omega | exact ⟨by omega, by omega, by omega, by omega⟩ | exact Nat.le_of_ble_eq_true rfl) rfl ?_))
    refine r_call (refName _) call24 rfl rfl ⟨Sub.refl _, trivial⟩ rfl rfl rfl rfl ?_
    repeat (first | refine thenA_normal ?_ | refine r_done ?_ | (refine r_id ?_; first | refine r_ev tab_ok rfl rfl rfl rfl (by first | exact trivial | exact ⟨by omega, by omega⟩ | omega | exact ⟨by omega, by omega, by omega, by omega⟩ | exact Nat.le_of_ble_eq_true rfl) rfl ?_ | refine r_ev_cnd tab_ok rfl rfl rfl rfl rfl rfl (by first | exact fun _ => rfl | exact cs1 | exact cs2 | exact cs3) (by first | exact fun _ => trivial | (intro h; simp at h; first | exact ⟨by omega, by omega⟩ | omega)) rfl ?_ | refine r_or rfl rfl rfl rfl rfl rfl rfl rfl ?_))
    rw [hgb]
    refine awp_cond rfl (fun h2 => ?_) (fun h2 => ?_)
    · repeat (first | refine awp_seq ?_ | refine a_region ?_)
      refine r_call awake2_ok call12 rfl rfl trivial rfl rfl rfl rfl ?_
      repeat (first | refine thenA_normal ?_ | refine awp_ret ?_ | refine thenA_ret ?_ | refine blockA_ret ?_ | refine r_done ?_ | (refine r_id ?_; first | refine r_ev tab_ok rfl rfl rfl rfl (by first | exact trivial | exact ⟨by omega, by omega⟩ | omega | exact ⟨by omega, by omega, by omega, by omega⟩ | exact Nat.le_of_ble_eq_true rfl) rfl ?_) | refine ret1 (by first | exact .inl rfl | exact .inr rfl) rfl rfl rfl ?_)
      exact Sub.refl _
    · have hb : hnB s.data.toList[i] = true := by
        rw [Bool.or_eq_false_iff, Bool.not_eq_false', decide_eq_false_iff_not] at h2
        rw [hnB, h2.1, Bool.true_and, decide_eq_true_eq]
        omega
      repeat (first | refine thenA_normal ?_ | refine a_region ?_ | refine awp_skip ?_ | refine r_done ?_ | (refine r_id ?_; first | refine r_ev tab_ok rfl rfl rfl rfl (by first | exact trivial | exact ⟨by omega, by omega⟩ | omega | exact ⟨by omega, by omega, by omega, by omega⟩ | exact Nat.le_of_ble_eq_true rfl) rfl ?_))
      exact ⟨⟨i + 1, hi', by
        rw [List.take_add_one, List.getElem?_eq_getElem hi', List.all_append, hall, Bool.true_and]
        show (hnB s.data.toList[i] && true) = true
        rw [hb]; rfl⟩, by dsimp only; omega, fits_of rfl (by repeat' first | exact trivial | exact Sub.refl _ | exact rfl | apply And.intro)⟩
  have hie : i = s.data.toList.length := by omega
  subst hie
  rw [List.take_length] at hall
  obtain ⟨l⟩ := s
  obtain ⟨l⟩ := l
  have hlen : l.length = (⟨⟨l⟩⟩ : ByteArray).size := hsz
  change l.all hnB = true at hall
  match l, hlen, hall, h with
  | [], hlen, _, h => exact absurd (show ((0 : Nat) : Int) < 1 by decide) (by rw [← hlen] at h; exact h.1)
  | c :: r, hlen, hall, h =>
  have ht := hash_toks (c :: r) (by simp) hall
  have hb0 := ((⟨⟨c :: r⟩⟩ : ByteArray).data.toList.getD (Int.toNat 0) 0).toNat_lt
  have hb1 := ((⟨⟨c :: r⟩⟩ : ByteArray).data.toList.getD (Int.toNat 1) 0).toNat_lt
  have hz1 : (⟨#[35]⟩ : ByteArray).size = 1 := rfl
  have hz2 : (⟨#[59, 35]⟩ : ByteArray).size = 2 := rfl
  have hz3 : ((⟨#[35]⟩ : ByteArray) ++ (⟨⟨c :: r⟩⟩ : ByteArray)).size = 1 + (⟨⟨c :: r⟩⟩ : ByteArray).size := by rw [ByteArray.size_append]; rfl
  have hcat : (⟨#[35]⟩ : ByteArray) ++ (⟨⟨c :: r⟩⟩ : ByteArray) ++ (⟨#[59, 35]⟩ : ByteArray) = ⟨(35 :: c :: r ++ [59, 35]).toArray⟩ := by
    rw [show (⟨#[35]⟩ : ByteArray) = ⟨[35].toArray⟩ from rfl, show (⟨⟨c :: r⟩⟩ : ByteArray) = ⟨(c :: r).toArray⟩ from rfl, show (⟨#[59, 35]⟩ : ByteArray) = ⟨[59, 35].toArray⟩ from rfl, bytes_cat, bytes_cat]
    rfl
  have hid : (letF (((⟨⟨c :: r⟩⟩ : ByteArray).data.toList.getD (Int.toNat 0) 0).toNat : Int) || decide ((((⟨⟨c :: r⟩⟩ : ByteArray).data.toList.getD (Int.toNat 0) 0).toNat : Int) = 45) && decide ((1 : Int) < ((⟨⟨c :: r⟩⟩ : ByteArray).size : Int)) && (decide ((((⟨⟨c :: r⟩⟩ : ByteArray).data.toList.getD (Int.toNat 1) 0).toNat : Int) = 45) || letF (((⟨⟨c :: r⟩⟩ : ByteArray).data.toList.getD (Int.toNat 1) 0).toNat : Int))) = hidF (c :: r) := by
    have e0 : (⟨⟨c :: r⟩⟩ : ByteArray).data.toList.getD (Int.toNat 0) 0 = c := rfl
    have e45 : ∀ x : UInt8, decide ((x.toNat : Int) = 45) = decide (x.toNat = 45) := fun x => by rw [decide_eq_decide]; omega
    rw [e0, hidF, e45]
    cases r with
    | nil =>
      have e1 : decide ((1 : Int) < ((⟨⟨[c]⟩⟩ : ByteArray).size : Int)) = false := by rw [decide_eq_false_iff_not, ← hlen]; simp
      rw [e1, hid1, Bool.and_false, Bool.false_and]
      rfl
    | cons d q =>
      have e1 : decide ((1 : Int) < ((⟨⟨c :: d :: q⟩⟩ : ByteArray).size : Int)) = true := by
        rw [decide_eq_true_eq, ← hlen]
        simp only [List.length_cons]
        omega
      have e2 : (⟨⟨c :: d :: q⟩⟩ : ByteArray).data.toList.getD (Int.toNat 1) 0 = d := rfl
      rw [e1, e2, e45, hid1, Bool.and_true]
      rfl
  repeat (first | refine awp_seq ?_ | refine a_region ?_ | refine awp_exit ?_ | refine r_done ?_ | (refine r_id ?_; first | refine r_ev tab_ok rfl rfl rfl rfl (by first | exact trivial | exact ⟨by omega, by omega⟩ | omega | exact ⟨by omega, by omega, by omega, by omega⟩ | exact Nat.le_of_ble_eq_true rfl) rfl ?_ | refine r_ev_cnd tab_ok rfl rfl rfl rfl rfl rfl (by first | exact fun _ => rfl | exact cs1 | exact cs2 | exact cs3) (by first | exact fun _ => trivial | (intro h; simp at h; first | exact ⟨by omega, by omega⟩ | omega)) rfl ?_ | refine r_and_cnd rfl rfl rfl rfl rfl rfl rfl rfl rfl rfl ?_ | refine r_or_cnd rfl rfl rfl rfl rfl rfl rfl rfl rfl rfl ?_ | refine r_or rfl rfl rfl rfl rfl rfl rfl rfl ?_) | refine r_call (refLetter _) call25 rfl rfl ⟨Sub.refl _, trivial⟩ rfl rfl rfl rfl ?_ | refine r_call_cnd (fun _ => refLetter _) call25 rfl rfl rfl rfl (by first | exact fun _ => rfl | exact cs1 | exact cs2 | exact cs3) ⟨Sub.refl _, trivial⟩ rfl rfl rfl rfl ?_)
  rw [hid]
  have hsz4 : (⟨(35 :: c :: r ++ [59, 35]).toArray⟩ : ByteArray).size ≤ 549755813888 := by
    rw [sz_list, List.length_append, List.length_cons, hlen]
    simp only [List.length_cons, List.length_nil]
    omega
  refine r_call (show PCalls Tryd.prog 19 [.val (.string ((⟨#[35]⟩ : ByteArray) ++ (⟨⟨c :: r⟩⟩ : ByteArray) ++ (⟨#[59, 35]⟩ : ByteArray)))] (.sl 6 (([⟨4, ⟨(c :: r).toArray⟩, 0, false, false, hidF (c :: r)⟩, tkK 17 ⟨#[]⟩, tkK 9 ⟨#[35]⟩] : List Tk).map tD)) by
    rw [hcat, ← ht]; exact all2_ok _ hsz4) call19 rfl rfl ⟨Sub.refl _, trivial⟩ rfl rfl rfl rfl ?_
  repeat (first | refine awp_seq ?_ | refine a_region ?_ | refine r_done ?_ | (refine r_id ?_; first | refine r_len tab_ok rfl rfl rfl rfl rfl rfl rfl ?_ | refine r_ev tab_ok rfl rfl rfl rfl (by first | exact trivial | exact ⟨by omega, by omega⟩ | omega | exact ⟨by omega, by omega, by omega, by omega⟩ | exact Nat.le_of_ble_eq_true rfl) rfl ?_ | refine r_idxd tab_ok rfl rfl rfl rfl rfl rfl rfl (by decide) rfl rfl rfl ?_ | refine r_ev_on tab_ok rfl rfl rfl rfl rfl rfl (by first | exact trivial | exact ⟨by omega, by omega⟩ | omega) rfl ?_ | refine r_build tab_ok rfl rfl rfl rfl rfl rfl ?_) | refine r_g rfl rfl rfl ?_)
  refine r_eqT (c := ⟨4, ⟨(c :: r).toArray⟩, 0, false, false, hidF (c :: r)⟩) (d := ⟨4, ⟨(c :: r).toArray⟩, 0, false, false, hidF (c :: r)⟩) rfl rfl rfl rfl rfl rfl rfl ?_
  rw [eqT_self]
  repeat (first | (refine r_id ?_; first | refine r_ev tab_ok rfl rfl rfl rfl (by first | exact trivial | exact ⟨by omega, by omega⟩ | omega | exact ⟨by omega, by omega, by omega, by omega⟩ | exact Nat.le_of_ble_eq_true rfl) rfl ?_ | refine r_idxd tab_ok rfl rfl rfl rfl rfl rfl rfl (by decide) rfl rfl rfl ?_ | refine r_pick_t rfl rfl rfl rfl rfl rfl rfl ?_ | refine r_ev_on tab_ok rfl rfl rfl rfl rfl rfl (by first | exact trivial | exact ⟨by omega, by omega⟩ | omega) rfl ?_ | refine r_build tab_ok rfl rfl rfl rfl rfl rfl ?_) | refine r_g rfl rfl rfl ?_)
  refine r_eqT (c := tkK 9 ⟨#[35]⟩) (d := tkK 9 ⟨#[35]⟩) rfl rfl rfl rfl rfl rfl rfl ?_
  repeat (first | (refine r_id ?_; first | refine r_ev tab_ok rfl rfl rfl rfl (by first | exact trivial | exact ⟨by omega, by omega⟩ | omega | exact ⟨by omega, by omega, by omega, by omega⟩ | exact Nat.le_of_ble_eq_true rfl) rfl ?_ | refine r_pick_t rfl rfl rfl rfl rfl rfl rfl ?_) | refine r_g rfl rfl rfl ?_)
  refine r_call awake2_ok call12 rfl rfl trivial rfl rfl rfl rfl ?_
  repeat (first | refine thenA_normal ?_ | refine awp_ret ?_ | refine r_done ?_ | (refine r_id ?_; first | refine r_ev tab_ok rfl rfl rfl rfl (by first | exact trivial | exact ⟨by omega, by omega⟩ | omega | exact ⟨by omega, by omega, by omega, by omega⟩ | exact Nat.le_of_ble_eq_true rfl) rfl ?_ | refine r_pick_t rfl rfl rfl rfl rfl rfl rfl ?_) | refine ret1 (by first | exact .inl rfl | exact .inr rfl) rfl rfl rfl ?_)
  exact Sub.refl _
end Go.Proofs.YtbjinibmkkmhkaaDoor
