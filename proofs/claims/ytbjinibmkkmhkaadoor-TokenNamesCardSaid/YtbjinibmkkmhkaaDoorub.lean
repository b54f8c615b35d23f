/- The law TokenNames, walked. -/
import Derived.Test.YtbjinibmkkmhkaaDooru7
import Derived.Test.YtbjinibmkkmhkaaDoorua
namespace Go.Proofs.YtbjinibmkkmhkaaDoor
open Go Go.RowKit
set_option maxRecDepth 20000

theorem nmB_len (l : List Int) : (nmB l).length ≤ 1 + 8 * l.length := by
  have : ∀ l : List Int, (l.flatMap esB).length ≤ 8 * l.length := by
    intro l
    induction l with
    | nil => exact Nat.le_refl _
    | cons r l ih =>
      rw [List.flatMap_cons, List.length_append, List.length_cons]
      have := esB_len r
      omega
  have := this l
  rw [nmB, List.length_cons]; omega
def hexS : ByteArray := ⟨#[48, 49, 50, 51, 52, 53, 54, 55, 56, 57, 97, 98, 99, 100, 101, 102]⟩
theorem hex_cut (d : Nat) (h : d < 16) : (⟨#[48, 49, 50, 51, 52, 53, 54, 55, 56, 57, 97, 98, 99, 100, 101, 102]⟩ : ByteArray).extract d (d + 1) = ⟨[hxC d].toArray⟩ := by
  have : d = 0 ∨ d = 1 ∨ d = 2 ∨ d = 3 ∨ d = 4 ∨ d = 5 ∨ d = 6 ∨ d = 7 ∨ d = 8 ∨ d = 9 ∨ d = 10 ∨ d = 11 ∨ d = 12 ∨ d = 13 ∨ d = 14 ∨ d = 15 := by omega
  rcases this with rfl | rfl | rfl | rfl | rfl | rfl | rfl | rfl | rfl | rfl | rfl | rfl | rfl | rfl | rfl | rfl <;> rfl
set_option maxHeartbeats 16000000 in
theorem lawNames (l : List Int) (kind : Int) (hm : ∀ i ∈ l, i ≤ 2147483647 ∧ -2147483648 ≤ i) (hl : l.length ≤ 9223372036854775807) : PCalls Tryd.prog 5 [.sl 1 (l.map rD), .val (.int .i64 kind)] (.val (.bool true)) := by
  refine p_start Tryd.func5 Tryd.ntmps5 rfl rfl rfl fun S w => ?_
  have hlm : (l.map rD).length = l.length := List.length_map _
  repeat (first | refine awp_seq ?_ | refine thenA_normal ?_ | refine a_region ?_ | refine r_done ?_ | (refine r_id ?_; first | refine r_len tab_ok rfl rfl rfl rfl rfl rfl rfl ?_ | refine r_ev tab_ok rfl rfl rfl rfl (by first | exact trivial | exact ⟨by omega, by omega⟩ | omega | exact ⟨by omega, by omega, by omega, by omega⟩ | exact Nat.le_of_ble_eq_true rfl) rfl ?_ | refine r_len_cnd tab_ok rfl rfl rfl rfl rfl rfl (by first | exact fun _ => rfl | exact cs1) rfl rfl rfl ?_ | refine r_ev_cnd tab_ok rfl rfl rfl rfl rfl rfl (by first | exact fun _ => rfl | exact cs1 | exact cs2 | exact cs3) (by first | exact fun _ => trivial | (intro h; simp at h; first | exact ⟨by omega, by omega⟩ | omega)) rfl ?_ | refine r_or rfl rfl rfl rfl rfl rfl rfl rfl ?_))
  refine awp_cond rfl (fun h => ?_) (fun h => ?_)
  · repeat (first | refine awp_seq ?_ | refine a_region ?_)
    refine r_call awake2_ok call12 rfl rfl trivial rfl rfl rfl rfl ?_
    repeat (first | refine thenA_normal ?_ | refine awp_ret ?_ | refine thenA_ret ?_ | refine r_done ?_ | (refine r_id ?_; first | refine r_ev tab_ok rfl rfl rfl rfl (by first | exact trivial | exact ⟨by omega, by omega⟩ | omega | exact ⟨by omega, by omega, by omega, by omega⟩ | exact Nat.le_of_ble_eq_true rfl) rfl ?_) | refine ret1 (by first | exact .inl rfl | exact .inr rfl) rfl rfl rfl ?_)
    exact Sub.refl _
  rw [Bool.or_eq_false_iff, decide_eq_false_iff_not, decide_eq_false_iff_not] at h
  repeat (first | refine awp_seq ?_ | refine thenA_normal ?_ | refine awp_block ?_ | refine a_region ?_ | refine awp_skip ?_ | refine r_done ?_ | (refine r_id ?_; first | refine r_ev tab_ok rfl rfl rfl rfl (by first | exact trivial | exact ⟨by omega, by omega⟩ | omega | exact ⟨by omega, by omega, by omega, by omega⟩ | exact Nat.le_of_ble_eq_true rfl) rfl ?_))
  refine a_loop (σ := {i : Nat // i ≤ l.length ∧ (l.take i).all okR = true}) (fun _ => []) (fun x => [(0, .sl 1 (l.map rD)), (1, .val (.int .i64 kind)), (5, .val (.string ⟨(nmB (l.take x.1)).toArray⟩)), (6, .val (.string (runesBytes (97 :: l.take x.1)))), (7, .val (.int .i64 x.1))]) (fun x => l.length - x.1) ⟨0, Nat.zero_le _, rfl⟩ (fits_of rfl (by repeat' first | exact trivial | exact Sub.refl _ | exact rfl | apply And.intro)) ?_
  rintro ⟨i, hi, hall⟩
  dsimp only
  have hn1 := nmB_len (l.take i)
  have hn2 : (⟨(nmB (l.take i)).toArray⟩ : ByteArray).size = (nmB (l.take i)).length := sz_list _
  have hn3 := runesBytes_size_le (97 :: l.take i)
  have hn4 : (l.take i).length = i := by rw [List.length_take]; omega
  rw [List.length_cons, hn4] at hn3
  rw [hn4] at hn1
  repeat (first | refine awp_seq ?_ | refine thenA_normal ?_ | refine a_region ?_ | refine r_done ?_ | (refine r_id ?_; first | refine r_len tab_ok rfl rfl rfl rfl rfl rfl rfl ?_ | refine r_ev tab_ok rfl rfl rfl rfl (by first | exact trivial | exact ⟨by omega, by omega⟩ | omega | exact ⟨by omega, by omega, by omega, by omega⟩ | exact Nat.le_of_ble_eq_true rfl) rfl ?_))
  refine awp_cond_p rfl (fun hlt => ?_) (fun hge => ?_)
  · have hi' : i < l.length := by omega
    have htk : l.take (i + 1) = l.take i ++ [l[((i : Nat) : Int).toNat]'(by simpa using hi')] := by rw [List.take_add_one, List.getElem?_eq_getElem hi']; rfl
    have hmr := hm _ (List.getElem_mem (show ((i : Nat) : Int).toNat < l.length by simpa using hi'))
    repeat (first | refine awp_seq ?_ | refine thenA_normal ?_ | refine awp_block ?_ | refine a_region ?_ | refine awp_skip ?_ | refine r_done ?_ | (refine r_id ?_; first | refine r_ev tab_ok rfl rfl rfl rfl (by first | exact trivial | exact ⟨by omega, by omega⟩ | omega | exact ⟨by omega, by omega, by omega, by omega⟩ | exact Nat.le_of_ble_eq_true rfl) rfl ?_ | refine r_idx tab_ok rfl rfl rfl rfl rfl rfl rfl (by first | exact ⟨by omega, by omega⟩ | (simp; omega)) rfl rfl ?_ | refine r_ev_cnd tab_ok rfl rfl rfl rfl rfl rfl (by first | exact fun _ => rfl | exact cs1 | exact cs2 | exact cs3) (by first | exact fun _ => trivial | (intro h; simp at h; first | exact ⟨by omega, by omega⟩ | omega)) rfl ?_ | refine r_and_cnd rfl rfl rfl rfl rfl rfl rfl rfl rfl rfl ?_ | refine r_or rfl rfl rfl rfl rfl rfl rfl rfl ?_))
    generalize (l[((i : Nat) : Int).toNat]'(by simpa using hi')) = r at htk hmr ⊢
    refine awp_cond rfl (fun h2 => ?_) (fun h2 => ?_)
    · repeat (first | refine awp_seq ?_ | refine a_region ?_)
      refine r_call awake2_ok call12 rfl rfl trivial rfl rfl rfl rfl ?_
      repeat (first | refine thenA_normal ?_ | refine awp_ret ?_ | refine thenA_ret ?_ | refine blockA_ret ?_ | refine r_done ?_ | (refine r_id ?_; first | refine r_ev tab_ok rfl rfl rfl rfl (by first | exact trivial | exact ⟨by omega, by omega⟩ | omega | exact ⟨by omega, by omega, by omega, by omega⟩ | exact Nat.le_of_ble_eq_true rfl) rfl ?_) | refine ret1 (by first | exact .inl rfl | exact .inr rfl) rfl rfl rfl ?_)
      exact Sub.refl _
    have hok : okR r = true := by
      simp only [Bool.or_eq_false_iff, Bool.and_eq_false_iff, decide_eq_false_iff_not] at h2
      simp only [okR, Bool.and_eq_true, decide_eq_true_eq, Bool.not_eq_true', Bool.and_eq_false_iff, decide_eq_false_iff_not]
      omega
    have hrr := okR_facts hok
    clear h2
    obtain ⟨m, rfl⟩ : ∃ m : Nat, r = (m : Int) := ⟨r.toNat, by omega⟩
    repeat (first | refine awp_seq ?_ | refine thenA_normal ?_ | refine awp_block ?_ | refine a_region ?_ | refine awp_skip ?_ | refine r_done ?_ | (refine r_id ?_; first | refine r_ev tab_ok rfl rfl rfl rfl (by first | exact trivial | exact ⟨by omega, by omega⟩ | omega | exact ⟨by omega, by omega, by omega, by omega⟩ | exact Nat.le_of_ble_eq_true rfl) rfl ?_))
    refine a_loop (σ := {p : Nat × Nat × List UInt8 // p.2.1 < 16 ^ p.1 ∧ p.1 ≤ 6 ∧ (dgs p.1 p.2.1).map hxC ++ p.2.2 = hx m}) (fun _ => []) (fun x => [(0, .sl 1 (l.map rD)), (1, .val (.int .i64 kind)), (5, .val (.string ⟨(nmB (l.take i)).toArray⟩)), (6, .val (.string (runesBytes (97 :: l.take i)))), (7, .val (.int .i64 i)), (8, .val (.int .i32 m)), (9, .val (.string ⟨x.1.2.2.toArray⟩)), (10, .val (.int .i64 x.1.2.1))]) (fun x => x.1.1) ⟨(6, m, []), by dsimp only; omega, Nat.le_refl _, by rw [List.append_nil]; rfl⟩ (fits_of rfl (by repeat' first | exact trivial | exact Sub.refl _ | exact rfl | apply And.intro)) ?_
    rintro ⟨⟨f, n, h⟩, hn, hf, hh⟩
    dsimp only at hn hf hh ⊢
    have hhl : h.length ≤ 6 := by
      have h1 := congrArg List.length hh
      have h2 := dgs_len 6 m
      rw [List.length_append, hx, List.length_map, List.length_map] at h1
      omega
    have hhz : (⟨h.toArray⟩ : ByteArray).size = h.length := sz_list _
    have hnb : (n : Int) < 16777216 := by have := Nat.lt_of_lt_of_le hn (Nat.pow_le_pow_right (by omega) hf); omega
    have hstep : 0 < n → ∃ f', f = f' + 1 ∧ n / 16 < 16 ^ f' := fun h0 => by
      cases f with
      | zero => exfalso; rw [Nat.pow_zero] at hn; omega
      | succ f' => exact ⟨f', rfl, by rw [Nat.pow_succ] at hn; omega⟩
    clear hn
    have em : ((n : Nat) : Int).tmod 16 = ((n % 16 : Nat) : Int) := by rw [Int.tmod_eq_emod_of_nonneg (by omega)]; rfl
    have ed : ((n : Nat) : Int).tdiv 16 = ((n / 16 : Nat) : Int) := by rw [Int.tdiv_eq_ediv_of_nonneg (by omega)]; rfl
    repeat (first | refine awp_seq ?_ | refine thenA_normal ?_ | refine a_region ?_ | refine r_done ?_ | (refine r_id ?_; first | refine r_ev tab_ok rfl rfl rfl rfl (by first | exact trivial | exact ⟨by omega, by omega⟩ | omega | exact ⟨by omega, by omega, by omega, by omega⟩ | exact Nat.le_of_ble_eq_true rfl) rfl ?_))
    refine awp_cond_p rfl (fun hlt2 => ?_) (fun hge2 => ?_)
    · obtain ⟨f', rfl, hn'⟩ := hstep (by omega)
      have hnw : ∃ f'', f'' = f' ∧ n / 16 < 16 ^ f'' := ⟨f', rfl, hn'⟩
      clear hn' hstep
      repeat (first | refine awp_seq ?_ | refine awp_block ?_ | refine a_region ?_ | refine awp_skip ?_ | (refine r_id ?_; first | refine r_ev tab_ok rfl rfl rfl rfl (by first | exact trivial | exact ⟨by omega, by omega⟩ | omega | exact ⟨by omega, by omega, by omega, by omega⟩ | exact Nat.le_of_ble_eq_true rfl) rfl ?_))
      refine r_scutE (e := ⟨[hxC (n % 16)].toArray⟩) tab_ok rfl rfl rfl rfl rfl rfl rfl rfl (by show (0 : Int) ≤ (n : Int) % 16 ∧ (n : Int) % 16 ≤ (n : Int) % 16 + 1 ∧ (n : Int) % 16 + 1 ≤ 16; omega) (by
        have e1 : ((n : Int) % 16).toNat = n % 16 := by omega
        have e2 : ((n : Int) % 16 + 1).toNat = n % 16 + 1 := by omega
        show ByteArray.extract _ ((n : Int) % 16).toNat ((n : Int) % 16 + 1).toNat = _
        rw [e1, e2]
        exact hex_cut _ (by omega)) rfl ?_
      have hz1 : (⟨[hxC (n % 16)].toArray⟩ : ByteArray).size = 1 := rfl
      have hcat : (⟨[hxC (n % 16)].toArray⟩ : ByteArray) ++ (⟨h.toArray⟩ : ByteArray) = ⟨(hxC (n % 16) :: h).toArray⟩ := by rw [cat_l]; rfl
      repeat (first | refine thenA_normal ?_ | refine a_region ?_ | refine r_done ?_ | (refine r_id ?_; first | refine r_ev tab_ok rfl rfl rfl rfl (by first | exact trivial | exact ⟨by omega, by omega⟩ | omega | exact ⟨by omega, by omega, by omega, by omega⟩ | exact Nat.le_of_ble_eq_true rfl) rfl ?_))
      rw [hcat]
      obtain ⟨f'', rfl, hn'⟩ := hnw
      exact ⟨⟨(f'', n / 16, hxC (n % 16) :: h), hn', by dsimp only; omega, by
        dsimp only
        rw [dgs, if_neg (by omega)] at hh
        rw [← hh]; simp⟩, by dsimp only; omega, fits_of rfl (by repeat' first | exact trivial | exact Sub.refl _ | exact rfl | apply And.intro)⟩
    have hn0 : n = 0 := by omega
    subst hn0
    rw [dgs_zero, List.map_nil, List.nil_append] at hh
    subst hh
    have hes : (⟨(nmB (l.take i)).toArray⟩ : ByteArray) ++ (⟨#[92]⟩ : ByteArray) ++ (⟨(hx m).toArray⟩ : ByteArray) ++ (⟨#[32]⟩ : ByteArray) = ⟨(nmB (l.take (i + 1))).toArray⟩ := by
      rw [show (⟨#[92]⟩ : ByteArray) = ⟨[92].toArray⟩ from rfl, show (⟨#[32]⟩ : ByteArray) = ⟨[32].toArray⟩ from rfl, cat_l, cat_l, cat_l, htk, nmB_snoc, esB]
      simp
    have hwn : runesBytes (97 :: l.take i) ++ runesBytes [(m : Int)] = runesBytes (97 :: l.take (i + 1)) := by
      rw [← runes_append, htk]; rfl
    have hz1 : (⟨#[92]⟩ : ByteArray).size = 1 := rfl
    have hz2 : (⟨#[32]⟩ : ByteArray).size = 1 := rfl
    have hz3 := runesBytes_size_le [(m : Int)]
    rw [List.length_singleton] at hz3
    repeat (first | refine awp_seq ?_ | refine thenA_normal ?_ | refine a_region ?_ | refine awp_exit ?_ | refine r_done ?_ | (refine r_id ?_; first | refine r_ev tab_ok rfl rfl rfl rfl (by first | exact trivial | exact ⟨by omega, by omega⟩ | omega | exact ⟨by omega, by omega, by omega, by omega⟩ | exact Nat.le_of_ble_eq_true rfl) rfl ?_) | refine r_ev tab_ok rfl rfl rfl rfl (by simp only [ByteArray.size_append]; omega) rfl ?_)
    refine r_call (refPut (m : Int)) call20 rfl rfl ⟨Sub.refl _, trivial⟩ rfl rfl rfl rfl ?_
    repeat (first | refine thenA_normal ?_ | refine a_region ?_ | refine r_done ?_ | (refine r_id ?_; first | refine r_ev tab_ok rfl rfl rfl rfl (by first | exact trivial | exact ⟨by omega, by omega⟩ | omega | exact ⟨by omega, by omega, by omega, by omega⟩ | exact Nat.le_of_ble_eq_true rfl) rfl ?_))
    rw [hes, hwn]
    exact ⟨⟨i + 1, hi', by rw [htk, List.all_append, hall, List.all_cons, hok]; rfl⟩, by dsimp only; omega, fits_of rfl (by repeat' first | exact trivial | exact Sub.refl _ | exact rfl | apply And.intro)⟩
  have hie : i = l.length := by omega
  subst hie
  rw [List.take_length] at hall hn1 hn2 hn3 ⊢
  repeat (first | refine awp_seq ?_ | refine a_region ?_ | refine awp_exit ?_ | (refine r_id ?_; first | refine r_ev tab_ok rfl rfl rfl rfl (by first | exact trivial | exact ⟨by omega, by omega⟩ | omega | exact ⟨by omega, by omega, by omega, by omega⟩ | exact Nat.le_of_ble_eq_true rfl) rfl ?_))
  refine r_call (round_ok kind 4 (by decide) (by decide)) call21 rfl rfl ⟨Sub.refl _, Sub.refl _, trivial⟩ rfl rfl rfl rfl ?_
  have hk : kind % 4 = 0 ∨ kind % 4 = 1 ∨ kind % 4 = 2 ∨ kind % 4 = 3 := by omega
  generalize kind % 4 = k at hk
  have h0 := name0 l hall
  have h1 := name1 l hall
  have h2 := name2 l hall
  have h3 := name3 l hall
  generalize nmB l = NB at h0 h1 h2 h3 hn1 hn2 ⊢
  generalize runesBytes (97 :: l) = WT at h0 h1 h2 h3 hn3 ⊢
  have hz1 : (⟨#[35]⟩ : ByteArray).size = 1 := rfl
  have hz2 : (⟨#[64]⟩ : ByteArray).size = 1 := rfl
  have hz3 : (⟨#[40]⟩ : ByteArray).size = 1 := rfl
  have hz4 : (⟨#[]⟩ : ByteArray).size = 0 := rfl
  have hz : ∀ l : List UInt8, l.length ≤ 900 → (⟨l.toArray⟩ : ByteArray).size ≤ 549755813888 := fun l h => by rw [sz_list]; omega
  rcases hk with rfl | rfl | rfl | rfl
  · have hc : (⟨#[]⟩ : ByteArray) ++ (⟨NB.toArray⟩ : ByteArray) ++ (⟨#[]⟩ : ByteArray) = ⟨(NB).toArray⟩ := by
      rw [show (⟨#[]⟩ : ByteArray) = ⟨[].toArray⟩ from rfl, cat_l, cat_l]; simp
    repeat (first | refine awp_seq ?_ | refine a_draw1 mixed_ok (by kernel_rfl) ?_ | refine r_done ?_ | (refine r_id ?_; first | refine r_ev tab_ok rfl rfl rfl rfl (by first | exact trivial | exact ⟨by omega, by omega⟩ | omega | exact ⟨by omega, by omega, by omega, by omega⟩ | exact Nat.le_of_ble_eq_true rfl) rfl ?_ | refine r_idxd tab_ok rfl rfl rfl rfl rfl rfl rfl (by decide) rfl rfl rfl ?_ | refine r_built tab_ok rfl rfl rfl rfl rfl rfl rfl rfl rfl ?_) | refine r_ev tab_ok rfl rfl rfl rfl (by simp only [ByteArray.size_append]; omega) rfl ?_)
    refine r_call (show PCalls Tryd.prog 19 [.val (.string ((⟨#[]⟩ : ByteArray) ++ (⟨NB.toArray⟩ : ByteArray) ++ (⟨#[]⟩ : ByteArray)))] (.sl 6 (([tkK 1 WT] : List Tk).map tD)) by
      rw [hc, ← h0]; exact all2_ok _ (hz _ (by first | omega | (simp; omega)))) call19 rfl rfl ⟨Sub.refl _, trivial⟩ rfl rfl rfl rfl ?_
    repeat (first | refine awp_seq ?_ | refine thenA_normal ?_ | refine a_region ?_ | refine a_draw1 mixed_ok (by kernel_rfl) ?_ | refine awp_skip ?_ | refine r_done ?_ | refine r_done' ?_ | (refine r_id ?_; first | refine r_len tab_ok rfl rfl rfl rfl rfl rfl rfl ?_ | refine r_ev tab_ok rfl rfl rfl rfl (by first | exact trivial | exact ⟨by omega, by omega⟩ | omega | exact ⟨by omega, by omega, by omega, by omega⟩ | exact Nat.le_of_ble_eq_true rfl) rfl ?_ | refine r_idxd tab_ok rfl rfl rfl rfl rfl rfl rfl (by decide) rfl rfl rfl ?_ | refine r_wr tab_ok rfl rfl rfl rfl rfl ?_ | refine r_st tab_ok rfl rfl rfl rfl ?_ | refine r_pick_f rfl rfl rfl rfl rfl rfl rfl ?_ | refine r_off rfl rfl rfl rfl rfl rfl ?_ | refine r_ev_on tab_ok rfl rfl rfl rfl rfl rfl (by first | exact trivial | exact ⟨by omega, by omega⟩ | omega) rfl ?_ | refine r_ld_on tab_ok rfl rfl rfl rfl rfl rfl rfl ?_ | refine r_build tab_ok rfl rfl rfl rfl rfl rfl ?_ | refine r_built tab_ok rfl rfl rfl rfl rfl rfl rfl rfl rfl ?_) | refine awp_cond_f rfl ?_ | refine r_g rfl rfl rfl ?_)
    refine r_eqT (c := tkK 1 WT) (d := tkK 1 WT) rfl rfl rfl rfl rfl rfl rfl ?_
    rw [eqT_self]
    repeat (first | (refine r_id ?_; first | refine r_ev tab_ok rfl rfl rfl rfl (by first | exact trivial | exact ⟨by omega, by omega⟩ | omega | exact ⟨by omega, by omega, by omega, by omega⟩ | exact Nat.le_of_ble_eq_true rfl) rfl ?_ | refine r_pick_t rfl rfl rfl rfl rfl rfl rfl ?_) | refine r_g rfl rfl rfl ?_)
    refine r_call awake2_ok call12 rfl rfl trivial rfl rfl rfl rfl ?_
    repeat (first | refine thenA_normal ?_ | refine awp_ret ?_ | refine r_done' ?_ | (refine r_id ?_; first | refine r_ev tab_ok rfl rfl rfl rfl (by first | exact trivial | exact ⟨by omega, by omega⟩ | omega | exact ⟨by omega, by omega, by omega, by omega⟩ | exact Nat.le_of_ble_eq_true rfl) rfl ?_ | refine r_pick_t rfl rfl rfl rfl rfl rfl rfl ?_) | refine ret1 (by first | exact .inl rfl | exact .inr rfl) rfl rfl rfl ?_)
    exact Sub.refl _
  · have hc : (⟨#[35]⟩ : ByteArray) ++ (⟨NB.toArray⟩ : ByteArray) ++ (⟨#[]⟩ : ByteArray) = ⟨(35 :: NB).toArray⟩ := by
      rw [show (⟨#[35]⟩ : ByteArray) = ⟨[35].toArray⟩ from rfl, show (⟨#[]⟩ : ByteArray) = ⟨[].toArray⟩ from rfl, cat_l, cat_l]; simp
    repeat (first | refine awp_seq ?_ | refine a_draw1 mixed_ok (by kernel_rfl) ?_ | refine r_done ?_ | (refine r_id ?_; first | refine r_ev tab_ok rfl rfl rfl rfl (by first | exact trivial | exact ⟨by omega, by omega⟩ | omega | exact ⟨by omega, by omega, by omega, by omega⟩ | exact Nat.le_of_ble_eq_true rfl) rfl ?_ | refine r_idxd tab_ok rfl rfl rfl rfl rfl rfl rfl (by decide) rfl rfl rfl ?_ | refine r_built tab_ok rfl rfl rfl rfl rfl rfl rfl rfl rfl ?_) | refine r_ev tab_ok rfl rfl rfl rfl (by simp only [ByteArray.size_append]; omega) rfl ?_)
    refine r_call (show PCalls Tryd.prog 19 [.val (.string ((⟨#[35]⟩ : ByteArray) ++ (⟨NB.toArray⟩ : ByteArray) ++ (⟨#[]⟩ : ByteArray)))] (.sl 6 (([(⟨4, WT, 0, false, false, true⟩ : Tk)] : List Tk).map tD)) by
      rw [hc, ← h1]; exact all2_ok _ (hz _ (by first | omega | (simp; omega)))) call19 rfl rfl ⟨Sub.refl _, trivial⟩ rfl rfl rfl rfl ?_
    repeat (first | refine awp_seq ?_ | refine thenA_normal ?_ | refine a_region ?_ | refine a_draw1 mixed_ok (by kernel_rfl) ?_ | refine awp_skip ?_ | refine r_done ?_ | refine r_done' ?_ | (refine r_id ?_; first | refine r_len tab_ok rfl rfl rfl rfl rfl rfl rfl ?_ | refine r_ev tab_ok rfl rfl rfl rfl (by first | exact trivial | exact ⟨by omega, by omega⟩ | omega | exact ⟨by omega, by omega, by omega, by omega⟩ | exact Nat.le_of_ble_eq_true rfl) rfl ?_ | refine r_idxd tab_ok rfl rfl rfl rfl rfl rfl rfl (by decide) rfl rfl rfl ?_ | refine r_wr tab_ok rfl rfl rfl rfl rfl ?_ | refine r_st tab_ok rfl rfl rfl rfl ?_ | refine r_pick_f rfl rfl rfl rfl rfl rfl rfl ?_ | refine r_off rfl rfl rfl rfl rfl rfl ?_ | refine r_ev_on tab_ok rfl rfl rfl rfl rfl rfl (by first | exact trivial | exact ⟨by omega, by omega⟩ | omega) rfl ?_ | refine r_ld_on tab_ok rfl rfl rfl rfl rfl rfl rfl ?_ | refine r_build tab_ok rfl rfl rfl rfl rfl rfl ?_ | refine r_built tab_ok rfl rfl rfl rfl rfl rfl rfl rfl rfl ?_) | refine awp_cond_f rfl ?_ | refine r_g rfl rfl rfl ?_)
    refine r_eqT (c := (⟨4, WT, 0, false, false, true⟩ : Tk)) (d := (⟨4, WT, 0, false, false, true⟩ : Tk)) rfl rfl rfl rfl rfl rfl rfl ?_
    rw [eqT_self]
    repeat (first | (refine r_id ?_; first | refine r_ev tab_ok rfl rfl rfl rfl (by first | exact trivial | exact ⟨by omega, by omega⟩ | omega | exact ⟨by omega, by omega, by omega, by omega⟩ | exact Nat.le_of_ble_eq_true rfl) rfl ?_ | refine r_pick_t rfl rfl rfl rfl rfl rfl rfl ?_) | refine r_g rfl rfl rfl ?_)
    refine r_call awake2_ok call12 rfl rfl trivial rfl rfl rfl rfl ?_
    repeat (first | refine thenA_normal ?_ | refine awp_ret ?_ | refine r_done' ?_ | (refine r_id ?_; first | refine r_ev tab_ok rfl rfl rfl rfl (by first | exact trivial | exact ⟨by omega, by omega⟩ | omega | exact ⟨by omega, by omega, by omega, by omega⟩ | exact Nat.le_of_ble_eq_true rfl) rfl ?_ | refine r_pick_t rfl rfl rfl rfl rfl rfl rfl ?_) | refine ret1 (by first | exact .inl rfl | exact .inr rfl) rfl rfl rfl ?_)
    exact Sub.refl _
  · have hc : (⟨#[64]⟩ : ByteArray) ++ (⟨NB.toArray⟩ : ByteArray) ++ (⟨#[]⟩ : ByteArray) = ⟨(64 :: NB).toArray⟩ := by
      rw [show (⟨#[64]⟩ : ByteArray) = ⟨[64].toArray⟩ from rfl, show (⟨#[]⟩ : ByteArray) = ⟨[].toArray⟩ from rfl, cat_l, cat_l]; simp
    repeat (first | refine awp_seq ?_ | refine a_draw1 mixed_ok (by kernel_rfl) ?_ | refine r_done ?_ | (refine r_id ?_; first | refine r_ev tab_ok rfl rfl rfl rfl (by first | exact trivial | exact ⟨by omega, by omega⟩ | omega | exact ⟨by omega, by omega, by omega, by omega⟩ | exact Nat.le_of_ble_eq_true rfl) rfl ?_ | refine r_idxd tab_ok rfl rfl rfl rfl rfl rfl rfl (by decide) rfl rfl rfl ?_ | refine r_built tab_ok rfl rfl rfl rfl rfl rfl rfl rfl rfl ?_) | refine r_ev tab_ok rfl rfl rfl rfl (by simp only [ByteArray.size_append]; omega) rfl ?_)
    refine r_call (show PCalls Tryd.prog 19 [.val (.string ((⟨#[64]⟩ : ByteArray) ++ (⟨NB.toArray⟩ : ByteArray) ++ (⟨#[]⟩ : ByteArray)))] (.sl 6 (([tkK 3 WT] : List Tk).map tD)) by
      rw [hc, ← h2]; exact all2_ok _ (hz _ (by first | omega | (simp; omega)))) call19 rfl rfl ⟨Sub.refl _, trivial⟩ rfl rfl rfl rfl ?_
    repeat (first | refine awp_seq ?_ | refine thenA_normal ?_ | refine a_region ?_ | refine a_draw1 mixed_ok (by kernel_rfl) ?_ | refine awp_skip ?_ | refine r_done ?_ | refine r_done' ?_ | (refine r_id ?_; first | refine r_len tab_ok rfl rfl rfl rfl rfl rfl rfl ?_ | refine r_ev tab_ok rfl rfl rfl rfl (by first | exact trivial | exact ⟨by omega, by omega⟩ | omega | exact ⟨by omega, by omega, by omega, by omega⟩ | exact Nat.le_of_ble_eq_true rfl) rfl ?_ | refine r_idxd tab_ok rfl rfl rfl rfl rfl rfl rfl (by decide) rfl rfl rfl ?_ | refine r_wr tab_ok rfl rfl rfl rfl rfl ?_ | refine r_st tab_ok rfl rfl rfl rfl ?_ | refine r_pick_f rfl rfl rfl rfl rfl rfl rfl ?_ | refine r_off rfl rfl rfl rfl rfl rfl ?_ | refine r_ev_on tab_ok rfl rfl rfl rfl rfl rfl (by first | exact trivial | exact ⟨by omega, by omega⟩ | omega) rfl ?_ | refine r_ld_on tab_ok rfl rfl rfl rfl rfl rfl rfl ?_ | refine r_build tab_ok rfl rfl rfl rfl rfl rfl ?_ | refine r_built tab_ok rfl rfl rfl rfl rfl rfl rfl rfl rfl ?_) | refine awp_cond_f rfl ?_ | refine r_g rfl rfl rfl ?_)
    refine r_eqT (c := tkK 3 WT) (d := tkK 3 WT) rfl rfl rfl rfl rfl rfl rfl ?_
    rw [eqT_self]
    repeat (first | (refine r_id ?_; first | refine r_ev tab_ok rfl rfl rfl rfl (by first | exact trivial | exact ⟨by omega, by omega⟩ | omega | exact ⟨by omega, by omega, by omega, by omega⟩ | exact Nat.le_of_ble_eq_true rfl) rfl ?_ | refine r_pick_t rfl rfl rfl rfl rfl rfl rfl ?_) | refine r_g rfl rfl rfl ?_)
    refine r_call awake2_ok call12 rfl rfl trivial rfl rfl rfl rfl ?_
    repeat (first | refine thenA_normal ?_ | refine awp_ret ?_ | refine r_done' ?_ | (refine r_id ?_; first | refine r_ev tab_ok rfl rfl rfl rfl (by first | exact trivial | exact ⟨by omega, by omega⟩ | omega | exact ⟨by omega, by omega, by omega, by omega⟩ | exact Nat.le_of_ble_eq_true rfl) rfl ?_ | refine r_pick_t rfl rfl rfl rfl rfl rfl rfl ?_) | refine ret1 (by first | exact .inl rfl | exact .inr rfl) rfl rfl rfl ?_)
    exact Sub.refl _
  · have hc : (⟨#[]⟩ : ByteArray) ++ (⟨NB.toArray⟩ : ByteArray) ++ (⟨#[40]⟩ : ByteArray) = ⟨(NB ++ [40]).toArray⟩ := by
      rw [show (⟨#[]⟩ : ByteArray) = ⟨[].toArray⟩ from rfl, show (⟨#[40]⟩ : ByteArray) = ⟨[40].toArray⟩ from rfl, cat_l, cat_l]; simp
    repeat (first | refine awp_seq ?_ | refine a_draw1 mixed_ok (by kernel_rfl) ?_ | refine r_done ?_ | (refine r_id ?_; first | refine r_ev tab_ok rfl rfl rfl rfl (by first | exact trivial | exact ⟨by omega, by omega⟩ | omega | exact ⟨by omega, by omega, by omega, by omega⟩ | exact Nat.le_of_ble_eq_true rfl) rfl ?_ | refine r_idxd tab_ok rfl rfl rfl rfl rfl rfl rfl (by decide) rfl rfl rfl ?_ | refine r_built tab_ok rfl rfl rfl rfl rfl rfl rfl rfl rfl ?_) | refine r_ev tab_ok rfl rfl rfl rfl (by simp only [ByteArray.size_append]; omega) rfl ?_)
    by_cases hu : lowS WT = urlS
    · refine r_call (all2_ok _ (by rw [hc]; exact hz _ (by first | omega | (simp; omega)))) call19 rfl rfl ⟨Sub.refl _, trivial⟩ rfl rfl rfl rfl ?_
      repeat (first | refine awp_seq ?_ | refine a_region ?_ | refine r_done ?_ | refine r_done' ?_ | (refine r_id ?_; first | refine r_ev tab_ok rfl rfl rfl rfl (by first | exact trivial | exact ⟨by omega, by omega⟩ | omega | exact ⟨by omega, by omega, by omega, by omega⟩ | exact Nat.le_of_ble_eq_true rfl) rfl ?_ | refine r_idxd tab_ok rfl rfl rfl rfl rfl rfl rfl (by decide) rfl rfl rfl ?_ | refine r_wr tab_ok rfl rfl rfl rfl rfl ?_ | refine r_st tab_ok rfl rfl rfl rfl ?_ | refine r_ev_on tab_ok rfl rfl rfl rfl rfl rfl (by first | exact trivial | exact ⟨by omega, by omega⟩ | omega) rfl ?_ | refine r_build tab_ok rfl rfl rfl rfl rfl rfl ?_ | refine r_built tab_ok rfl rfl rfl rfl rfl rfl rfl rfl rfl ?_) | refine r_g rfl rfl rfl ?_)
      refine r_call (refLower WT (by omega)) call22 rfl rfl ⟨Sub.refl _, trivial⟩ rfl rfl rfl rfl ?_
      rw [hu]
      repeat (first | refine awp_seq ?_ | refine thenA_normal ?_ | refine a_region ?_ | refine r_done ?_ | (refine r_id ?_; first | refine r_pick_t rfl rfl rfl rfl rfl rfl rfl ?_ | refine r_ev_on tab_ok rfl rfl rfl rfl rfl rfl (by first | exact trivial | exact ⟨by omega, by omega⟩ | omega) rfl ?_) | refine awp_cond_t rfl ?_)
      refine r_call awake2_ok call12 rfl rfl trivial rfl rfl rfl rfl ?_
      repeat (first | refine thenA_normal ?_ | refine awp_ret ?_ | refine thenA_ret ?_ | refine r_done ?_ | (refine r_id ?_; first | refine r_ev tab_ok rfl rfl rfl rfl (by first | exact trivial | exact ⟨by omega, by omega⟩ | omega | exact ⟨by omega, by omega, by omega, by omega⟩ | exact Nat.le_of_ble_eq_true rfl) rfl ?_) | refine ret1 (by first | exact .inl rfl | exact .inr rfl) rfl rfl rfl ?_)
      exact Sub.refl _
    · refine r_call (show PCalls Tryd.prog 19 [.val (.string ((⟨#[]⟩ : ByteArray) ++ (⟨NB.toArray⟩ : ByteArray) ++ (⟨#[40]⟩ : ByteArray)))] (.sl 6 (([tkK 2 WT] : List Tk).map tD)) by
        rw [hc, ← h3 hu]; exact all2_ok _ (hz _ (by first | omega | (simp; omega)))) call19 rfl rfl ⟨Sub.refl _, trivial⟩ rfl rfl rfl rfl ?_
      repeat (first | refine awp_seq ?_ | refine a_region ?_ | refine r_done ?_ | refine r_done' ?_ | (refine r_id ?_; first | refine r_ev tab_ok rfl rfl rfl rfl (by first | exact trivial | exact ⟨by omega, by omega⟩ | omega | exact ⟨by omega, by omega, by omega, by omega⟩ | exact Nat.le_of_ble_eq_true rfl) rfl ?_ | refine r_idxd tab_ok rfl rfl rfl rfl rfl rfl rfl (by decide) rfl rfl rfl ?_ | refine r_wr tab_ok rfl rfl rfl rfl rfl ?_ | refine r_st tab_ok rfl rfl rfl rfl ?_ | refine r_ev_on tab_ok rfl rfl rfl rfl rfl rfl (by first | exact trivial | exact ⟨by omega, by omega⟩ | omega) rfl ?_ | refine r_build tab_ok rfl rfl rfl rfl rfl rfl ?_ | refine r_built tab_ok rfl rfl rfl rfl rfl rfl rfl rfl rfl ?_) | refine r_g rfl rfl rfl ?_)
      refine r_call (refLower WT (by omega)) call22 rfl rfl ⟨Sub.refl _, trivial⟩ rfl rfl rfl rfl ?_
      repeat (first | refine thenA_normal ?_ | refine r_done ?_ | (refine r_id ?_; first | refine r_pick_t rfl rfl rfl rfl rfl rfl rfl ?_ | refine r_ev_on tab_ok rfl rfl rfl rfl rfl rfl (by first | exact trivial | exact ⟨by omega, by omega⟩ | omega) rfl ?_))
      refine awp_cond rfl (fun h9 => ?_) (fun _ => ?_)
      · exact absurd (of_decide_eq_true h9) hu
      repeat (first | refine awp_seq ?_ | refine a_draw1 mixed_ok (by kernel_rfl) ?_ | refine awp_skip ?_ | (refine r_id ?_; first | refine r_len tab_ok rfl rfl rfl rfl rfl rfl rfl ?_ | refine r_ev tab_ok rfl rfl rfl rfl (by first | exact trivial | exact ⟨by omega, by omega⟩ | omega | exact ⟨by omega, by omega, by omega, by omega⟩ | exact Nat.le_of_ble_eq_true rfl) rfl ?_ | refine r_idxd tab_ok rfl rfl rfl rfl rfl rfl rfl (by decide) rfl rfl rfl ?_ | refine r_ev_on tab_ok rfl rfl rfl rfl rfl rfl (by first | exact trivial | exact ⟨by omega, by omega⟩ | omega) rfl ?_ | refine r_ld_on tab_ok rfl rfl rfl rfl rfl rfl rfl ?_) | refine r_g rfl rfl rfl ?_)
      refine r_eqT (c := tkK 2 WT) (d := tkK 2 WT) rfl rfl rfl rfl rfl rfl rfl ?_
      rw [eqT_self]
      repeat (first | (refine r_id ?_; first | refine r_ev tab_ok rfl rfl rfl rfl (by first | exact trivial | exact ⟨by omega, by omega⟩ | omega | exact ⟨by omega, by omega, by omega, by omega⟩ | exact Nat.le_of_ble_eq_true rfl) rfl ?_ | refine r_pick_t rfl rfl rfl rfl rfl rfl rfl ?_) | refine r_g rfl rfl rfl ?_)
      refine r_call awake2_ok call12 rfl rfl trivial rfl rfl rfl rfl ?_
      repeat (first | refine thenA_normal ?_ | refine awp_ret ?_ | refine r_done' ?_ | (refine r_id ?_; first | refine r_ev tab_ok rfl rfl rfl rfl (by first | exact trivial | exact ⟨by omega, by omega⟩ | omega | exact ⟨by omega, by omega, by omega, by omega⟩ | exact Nat.le_of_ble_eq_true rfl) rfl ?_ | refine r_pick_t rfl rfl rfl rfl rfl rfl rfl ?_) | refine ret1 (by first | exact .inl rfl | exact .inr rfl) rfl rfl rfl ?_)
      exact Sub.refl _
end Go.Proofs.YtbjinibmkkmhkaaDoor
