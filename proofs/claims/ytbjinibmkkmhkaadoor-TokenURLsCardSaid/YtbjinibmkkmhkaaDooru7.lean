/- The law TokenStrings, walked. -/
import Derived.Test.YtbjinibmkkmhkaaDooru6
namespace Go.Proofs.YtbjinibmkkmhkaaDoor
open Go Go.RowKit
set_option maxRecDepth 20000

set_option maxHeartbeats 16000000 in
theorem lawStrings (s : ByteArray) (dbl : Bool) (en : Int) (hs : s.size ≤ 9223372036854775807) : PCalls Tryd.prog 7 [.val (.string s), .val (.bool dbl), .val (.int .i64 en)] (.val (.bool true)) := by
  refine p_start Tryd.func7 Tryd.ntmps7 rfl rfl rfl fun S w => ?_
  have hsz := str_size s
  repeat (first | refine awp_seq ?_ | refine thenA_normal ?_ | refine a_region ?_ | refine r_done ?_ | (refine r_id ?_; first | refine r_ev tab_ok rfl rfl rfl rfl (by first | exact trivial | exact ⟨by omega, by omega⟩ | omega | exact ⟨by omega, by omega, by omega, by omega⟩ | exact Nat.le_of_ble_eq_true rfl) rfl ?_))
  refine awp_cond_p rfl (fun h => ?_) (fun h => ?_)
  · repeat (first | refine awp_seq ?_ | refine a_region ?_)
    refine r_call awake2_ok call12 rfl rfl trivial rfl rfl rfl rfl ?_
    repeat (first | refine thenA_normal ?_ | refine awp_ret ?_ | refine thenA_ret ?_ | refine r_done ?_ | (refine r_id ?_; first | refine r_ev tab_ok rfl rfl rfl rfl (by first | exact trivial | exact ⟨by omega, by omega⟩ | omega | exact ⟨by omega, by omega, by omega, by omega⟩ | exact Nat.le_of_ble_eq_true rfl) rfl ?_) | refine ret1 (by first | exact .inl rfl | exact .inr rfl) rfl rfl rfl ?_)
    exact Sub.refl _
  repeat (first | refine awp_seq ?_ | refine thenA_normal ?_ | refine a_region ?_ | refine awp_skip ?_ | refine r_done ?_ | (refine r_id ?_; first | refine r_ev tab_ok rfl rfl rfl rfl (by first | exact trivial | exact ⟨by omega, by omega⟩ | omega | exact ⟨by omega, by omega, by omega, by omega⟩ | exact Nat.le_of_ble_eq_true rfl) rfl ?_))
  refine awp_cutx (σ := {q : UInt8 // q = 34 ∨ q = 39}) (fun q => ⟨[], [(0, .val (.string s)), (2, .val (.int .i64 en)), (7, .val (.string ⟨[q.1].toArray⟩))]⟩) ?_ ?_
  · refine awp_cond rfl (fun h2 => ?_) (fun h2 => ?_)
    · repeat (first | refine a_region ?_ | refine r_done ?_ | (refine r_id ?_; first | refine r_ev tab_ok rfl rfl rfl rfl (by first | exact trivial | exact ⟨by omega, by omega⟩ | omega | exact ⟨by omega, by omega, by omega, by omega⟩ | exact Nat.le_of_ble_eq_true rfl) rfl ?_))
      exact ⟨rfl, ⟨34, .inl rfl⟩, fits_of rfl (by repeat' first | exact trivial | exact Sub.refl _ | exact rfl | apply And.intro)⟩
    · repeat (first | refine awp_skip ?_)
      exact ⟨rfl, ⟨39, .inr rfl⟩, fits_of rfl (by repeat' first | exact trivial | exact Sub.refl _ | exact rfl | apply And.intro)⟩
  rintro ⟨q, hq⟩
  dsimp only
  repeat (first | refine awp_seq ?_ | refine thenA_normal ?_ | refine awp_block ?_ | refine a_region ?_ | refine r_done ?_ | (refine r_id ?_; first | refine r_ev tab_ok rfl rfl rfl rfl (by first | exact trivial | exact ⟨by omega, by omega⟩ | omega | exact ⟨by omega, by omega, by omega, by omega⟩ | exact Nat.le_of_ble_eq_true rfl) rfl ?_))
  refine a_loop (σ := {i : Nat // i ≤ s.data.toList.length ∧ (s.data.toList.take i).all prB = true}) (fun _ => []) (fun x => [(0, .val (.string s)), (2, .val (.int .i64 en)), (7, .val (.string ⟨[q].toArray⟩)), (8, .val (.string ⟨(tqF q (s.data.toList.take x.1)).toArray⟩)), (9, .val (.int .i64 x.1))]) (fun x => s.data.toList.length - x.1) ⟨0, Nat.zero_le _, rfl⟩ (fits_of rfl (by repeat' first | exact trivial | exact Sub.refl _ | exact rfl | apply And.intro)) ?_
  rintro ⟨i, hi, hall⟩
  dsimp only
  have htl := tq_len q (s.data.toList.take i)
  rw [List.length_take] at htl
  have htz : (⟨(tqF q (s.data.toList.take i)).toArray⟩ : ByteArray).size = (tqF q (s.data.toList.take i)).length := sz_list _
  repeat (first | refine awp_seq ?_ | refine thenA_normal ?_ | refine a_region ?_ | refine r_done ?_ | (refine r_id ?_; first | refine r_ev tab_ok rfl rfl rfl rfl (by first | exact trivial | exact ⟨by omega, by omega⟩ | omega | exact ⟨by omega, by omega, by omega, by omega⟩ | exact Nat.le_of_ble_eq_true rfl) rfl ?_))
  refine awp_cond_p rfl (fun hlt => ?_) (fun hge => ?_)
  · have hi' : i < s.data.toList.length := by omega
    have hgb : s.data.toList.getD ((i : Nat) : Int).toNat 0 = s.data.toList[i] := by rw [Int.toNat_natCast, getD_byte hi']
    have htk : s.data.toList.take (i + 1) = s.data.toList.take i ++ [s.data.toList[i]] := by rw [List.take_add_one, List.getElem?_eq_getElem hi']; rfl
    repeat (first | refine awp_seq ?_ | refine thenA_normal ?_ | refine awp_block ?_ | refine a_region ?_ | refine awp_skip ?_ | refine r_done ?_ | (refine r_id ?_; first | refine r_ev tab_ok rfl rfl rfl rfl (by first | exact trivial | exact ⟨by omega, by omega⟩ | omega | exact ⟨by omega, by omega, by omega, by omega⟩ | exact Nat.le_of_ble_eq_true rfl) rfl ?_ | refine r_ev_cnd tab_ok rfl rfl rfl rfl rfl rfl (by first | exact fun _ => rfl | exact cs1 | exact cs2 | exact cs3) (by first | exact fun _ => trivial | (intro h; simp at h; first | exact ⟨by omega, by omega⟩ | omega)) rfl ?_ | refine r_or rfl rfl rfl rfl rfl rfl rfl rfl ?_))
    rw [hgb]
    generalize s.data.toList[i] = c at htk
    refine awp_cond rfl (fun h3 => ?_) (fun h3 => ?_)
    · repeat (first | refine awp_seq ?_ | refine a_region ?_)
      refine r_call awake2_ok call12 rfl rfl trivial rfl rfl rfl rfl ?_
      repeat (first | refine thenA_normal ?_ | refine awp_ret ?_ | refine thenA_ret ?_ | refine blockA_ret ?_ | refine r_done ?_ | (refine r_id ?_; first | refine r_ev tab_ok rfl rfl rfl rfl (by first | exact trivial | exact ⟨by omega, by omega⟩ | omega | exact ⟨by omega, by omega, by omega, by omega⟩ | exact Nat.le_of_ble_eq_true rfl) rfl ?_) | refine ret1 (by first | exact .inl rfl | exact .inr rfl) rfl rfl rfl ?_)
      exact Sub.refl _
    have hb : prB c = true := by
      rw [Bool.or_eq_false_iff, Bool.or_eq_false_iff, decide_eq_false_iff_not, decide_eq_false_iff_not, decide_eq_false_iff_not] at h3
      rw [prB, Bool.and_eq_true, Bool.and_eq_true, decide_eq_true_eq, decide_eq_true_eq, Bool.not_eq_true', decide_eq_false_iff_not]
      omega
    have hbs : bytesStr [(c.toNat : Int)] = ⟨[c].toArray⟩ := by simp [bytesStr]
    have hcs : (⟨[c].toArray⟩ : ByteArray).size = 1 := rfl
    have h92 : (⟨#[92]⟩ : ByteArray).size = 1 := rfl
    have hsn : tqF q (s.data.toList.take (i + 1)) = tqF q (s.data.toList.take i) ++ (if c = q then [92, c] else [c]) := by
      rw [htk, tqF, List.flatMap_append]
      simp [tqF]
    repeat (first | refine awp_seq ?_ | refine thenA_normal ?_ | refine a_region ?_ | refine awp_skip ?_ | refine r_done ?_ | (refine r_id ?_; first | refine r_ev tab_ok rfl rfl rfl rfl (by first | exact trivial | exact ⟨by omega, by omega⟩ | omega | exact ⟨by omega, by omega, by omega, by omega⟩ | exact Nat.le_of_ble_eq_true rfl) rfl ?_ | refine r_bstr tab_ok rfl rfl rfl rfl rfl rfl rfl rfl rfl rfl ?_ | refine r_built tab_ok rfl rfl rfl rfl rfl rfl rfl rfl rfl ?_))
    rw [hbs]
    refine awp_cond_p rfl (fun h4 => ?_) (fun h4 => ?_)
    · have hcq : c = q := by
        have := congrArg (fun x => x.data.toList) h4
        simpa using this
      rw [if_pos hcq] at hsn
      have hcat : (⟨(tqF q (s.data.toList.take i)).toArray⟩ : ByteArray) ++ (⟨#[92]⟩ : ByteArray) ++ (⟨[c].toArray⟩ : ByteArray) = ⟨(tqF q (s.data.toList.take (i + 1))).toArray⟩ := by
        rw [hsn, show (⟨#[92]⟩ : ByteArray) = ⟨[92].toArray⟩ from rfl, cat_l, cat_l, List.append_assoc]
        rfl
      repeat (first | refine thenA_normal ?_ | refine a_region ?_ | refine r_done ?_ | (refine r_id ?_; first | refine r_ev tab_ok rfl rfl rfl rfl (by first | exact trivial | exact ⟨by omega, by omega⟩ | omega | exact ⟨by omega, by omega, by omega, by omega⟩ | exact Nat.le_of_ble_eq_true rfl) rfl ?_ | refine r_bstr tab_ok rfl rfl rfl rfl rfl rfl rfl rfl rfl rfl ?_ | refine r_built tab_ok rfl rfl rfl rfl rfl rfl rfl rfl rfl ?_))
      rw [hbs]
      repeat (first | refine thenA_normal ?_ | refine a_region ?_ | refine r_done ?_ | (refine r_id ?_; first | refine r_ev tab_ok rfl rfl rfl rfl (by first | exact trivial | exact ⟨by omega, by omega⟩ | omega | exact ⟨by omega, by omega, by omega, by omega⟩ | exact Nat.le_of_ble_eq_true rfl) rfl ?_) | refine r_ev tab_ok rfl rfl rfl rfl (by simp only [ByteArray.size_append]; omega) rfl ?_)
      rw [hcat]
      exact ⟨⟨i + 1, hi', by rw [htk, List.all_append, hall, List.all_cons, hb]; rfl⟩, by dsimp only; omega, fits_of rfl (by repeat' first | exact trivial | exact Sub.refl _ | exact rfl | apply And.intro)⟩
    · have hcq : c ≠ q := fun h5 => h4 (by rw [h5])
      rw [if_neg hcq] at hsn
      have hcat : (⟨(tqF q (s.data.toList.take i)).toArray⟩ : ByteArray) ++ (⟨[c].toArray⟩ : ByteArray) = ⟨(tqF q (s.data.toList.take (i + 1))).toArray⟩ := by
        rw [hsn, cat_l]
      repeat (first | refine thenA_normal ?_ | refine a_region ?_ | refine awp_skip ?_ | (refine r_id ?_; first | refine r_ev tab_ok rfl rfl rfl rfl (by first | exact trivial | exact ⟨by omega, by omega⟩ | omega | exact ⟨by omega, by omega, by omega, by omega⟩ | exact Nat.le_of_ble_eq_true rfl) rfl ?_ | refine r_bstr tab_ok rfl rfl rfl rfl rfl rfl rfl rfl rfl rfl ?_ | refine r_built tab_ok rfl rfl rfl rfl rfl rfl rfl rfl rfl ?_))
      rw [hbs]
      repeat (first | refine thenA_normal ?_ | refine a_region ?_ | refine r_done ?_ | (refine r_id ?_; first | refine r_ev tab_ok rfl rfl rfl rfl (by first | exact trivial | exact ⟨by omega, by omega⟩ | omega | exact ⟨by omega, by omega, by omega, by omega⟩ | exact Nat.le_of_ble_eq_true rfl) rfl ?_))
      rw [hcat]
      exact ⟨⟨i + 1, hi', by rw [htk, List.all_append, hall, List.all_cons, hb]; rfl⟩, by dsimp only; omega, fits_of rfl (by repeat' first | exact trivial | exact Sub.refl _ | exact rfl | apply And.intro)⟩
  have hie : i = s.data.toList.length := by omega
  subst hie
  rw [List.take_length] at hall htz ⊢
  repeat (first | refine awp_seq ?_ | refine a_region ?_ | refine awp_exit ?_ | (refine r_id ?_; first | refine r_ev tab_ok rfl rfl rfl rfl (by first | exact trivial | exact ⟨by omega, by omega⟩ | omega | exact ⟨by omega, by omega, by omega, by omega⟩ | exact Nat.le_of_ble_eq_true rfl) rfl ?_))
  refine r_call (round_ok en 4 (by decide) (by decide)) call21 rfl rfl ⟨Sub.refl _, Sub.refl _, trivial⟩ rfl rfl rfl rfl ?_
  have hk : en % 4 = 0 ∨ en % 4 = 1 ∨ en % 4 = 2 ∨ en % 4 = 3 := by omega
  generalize en % 4 = k at hk
  have hL : s = ⟨s.data.toList.toArray⟩ := rfl
  have hs1 := str0 q hq s.data.toList hall
  have hs2 := str1 q hq s.data.toList hall
  have hs3 := str2 q hq s.data.toList hall
  have hs4 := str3 q hq s.data.toList hall
  have hqz : (⟨[q].toArray⟩ : ByteArray).size = 1 := rfl
  have h97 : (⟨#[97]⟩ : ByteArray).size = 1 := rfl
  have h98 : (⟨#[10, 98]⟩ : ByteArray).size = 2 := rfl
  have h92 : (⟨#[92, 10]⟩ : ByteArray).size = 2 := rfl
  have hsl : s.data.toList.length ≤ 200 := by omega
  rw [← hL] at hs1 hs2
  have hss : (⟨(s.data.toList ++ s.data.toList).toArray⟩ : ByteArray) = s ++ s := by rw [← cat_l]
  rw [hss] at hs4
  have htqz : (tqF q s.data.toList).length ≤ 400 := by have := tq_len q s.data.toList; omega
  generalize tqF q s.data.toList = T at hs1 hs2 hs3 hs4 htz htqz
  have hc0 : (⟨[q].toArray⟩ : ByteArray) ++ (⟨T.toArray⟩ : ByteArray) ++ (⟨[q].toArray⟩ : ByteArray) ++ (⟨#[97]⟩ : ByteArray) = ⟨(q :: (T ++ [q, 97])).toArray⟩ := by
    rw [show (⟨#[97]⟩ : ByteArray) = ⟨[97].toArray⟩ from rfl, cat_l, cat_l, cat_l]; simp
  have hc1 : (⟨[q].toArray⟩ : ByteArray) ++ (⟨T.toArray⟩ : ByteArray) = ⟨(q :: (T ++ [])).toArray⟩ := by
    rw [cat_l]; simp
  have hc2 : (⟨[q].toArray⟩ : ByteArray) ++ (⟨T.toArray⟩ : ByteArray) ++ (⟨#[10, 98]⟩ : ByteArray) = ⟨(q :: (T ++ [10, 98])).toArray⟩ := by
    rw [show (⟨#[10, 98]⟩ : ByteArray) = ⟨[10, 98].toArray⟩ from rfl, cat_l, cat_l]; simp
  have hc3 : (⟨[q].toArray⟩ : ByteArray) ++ (⟨T.toArray⟩ : ByteArray) ++ (⟨#[92, 10]⟩ : ByteArray) ++ (⟨T.toArray⟩ : ByteArray) ++ (⟨[q].toArray⟩ : ByteArray) = ⟨(q :: (T ++ (92 :: 10 :: (T ++ [q])))).toArray⟩ := by
    rw [show (⟨#[92, 10]⟩ : ByteArray) = ⟨[92, 10].toArray⟩ from rfl, cat_l, cat_l, cat_l, cat_l]; simp
  have hz : ∀ l : List UInt8, l.length ≤ 900 → (⟨l.toArray⟩ : ByteArray).size ≤ 549755813888 := fun l h => by rw [sz_list]; omega
  rcases hk with rfl | rfl | rfl | rfl
  · repeat (first | refine awp_seq ?_ | refine thenA_normal ?_ | refine awp_block ?_ | refine a_region ?_ | refine r_done ?_ | (refine r_id ?_; first | refine r_ev tab_ok rfl rfl rfl rfl (by first | exact trivial | exact ⟨by omega, by omega⟩ | omega | exact ⟨by omega, by omega, by omega, by omega⟩ | exact Nat.le_of_ble_eq_true rfl) rfl ?_) | refine awp_cond_t rfl ?_ | refine r_ev tab_ok rfl rfl rfl rfl (by simp only [ByteArray.size_append]; omega) rfl ?_)
    refine r_call (show PCalls Tryd.prog 19 [.val (.string ((⟨[q].toArray⟩ : ByteArray) ++ (⟨T.toArray⟩ : ByteArray) ++ (⟨[q].toArray⟩ : ByteArray) ++ (⟨#[97]⟩ : ByteArray)))] (.sl 6 (([tkK 5 s, tkK 1 ⟨#[97]⟩] : List Tk).map tD)) by
      rw [hc0, ← hs1]; exact all2_ok _ (hz _ (by simp; omega))) call19 rfl rfl ⟨Sub.refl _, trivial⟩ rfl rfl rfl rfl ?_
    repeat (first | refine awp_seq ?_ | refine a_region ?_ | refine r_done ?_ | (refine r_id ?_; first | refine r_len tab_ok rfl rfl rfl rfl rfl rfl rfl ?_ | refine r_ev tab_ok rfl rfl rfl rfl (by first | exact trivial | exact ⟨by omega, by omega⟩ | omega | exact ⟨by omega, by omega, by omega, by omega⟩ | exact Nat.le_of_ble_eq_true rfl) rfl ?_ | refine r_idxd tab_ok rfl rfl rfl rfl rfl rfl rfl (by decide) rfl rfl rfl ?_ | refine r_ev_on tab_ok rfl rfl rfl rfl rfl rfl (by first | exact trivial | exact ⟨by omega, by omega⟩ | omega) rfl ?_ | refine r_build tab_ok rfl rfl rfl rfl rfl rfl ?_) | refine r_g rfl rfl rfl ?_)
    refine r_eqT (c := tkK 5 s) (d := tkK 5 s) rfl rfl rfl rfl rfl rfl rfl ?_
    rw [eqT_self]
    repeat (first | (refine r_id ?_; first | refine r_ev tab_ok rfl rfl rfl rfl (by first | exact trivial | exact ⟨by omega, by omega⟩ | omega | exact ⟨by omega, by omega, by omega, by omega⟩ | exact Nat.le_of_ble_eq_true rfl) rfl ?_ | refine r_idxd tab_ok rfl rfl rfl rfl rfl rfl rfl (by decide) rfl rfl rfl ?_ | refine r_pick_t rfl rfl rfl rfl rfl rfl rfl ?_ | refine r_ev_on tab_ok rfl rfl rfl rfl rfl rfl (by first | exact trivial | exact ⟨by omega, by omega⟩ | omega) rfl ?_) | refine r_g rfl rfl rfl ?_)
    refine r_call awake2_ok call12 rfl rfl trivial rfl rfl rfl rfl ?_
    repeat (first | refine thenA_normal ?_ | refine awp_ret ?_ | refine thenA_ret ?_ | refine blockA_ret ?_ | refine r_done ?_ | (refine r_id ?_; first | refine r_ev tab_ok rfl rfl rfl rfl (by first | exact trivial | exact ⟨by omega, by omega⟩ | omega | exact ⟨by omega, by omega, by omega, by omega⟩ | exact Nat.le_of_ble_eq_true rfl) rfl ?_ | refine r_pick_t rfl rfl rfl rfl rfl rfl rfl ?_) | refine ret1 (by first | exact .inl rfl | exact .inr rfl) rfl rfl rfl ?_)
    exact Sub.refl _
  · repeat (first | refine awp_seq ?_ | refine thenA_normal ?_ | refine awp_block ?_ | refine a_region ?_ | refine r_done ?_ | (refine r_id ?_; first | refine r_ev tab_ok rfl rfl rfl rfl (by first | exact trivial | exact ⟨by omega, by omega⟩ | omega | exact ⟨by omega, by omega, by omega, by omega⟩ | exact Nat.le_of_ble_eq_true rfl) rfl ?_) | refine awp_cond_t rfl ?_ | refine awp_cond_f rfl ?_)
    refine r_call (show PCalls Tryd.prog 19 [.val (.string ((⟨[q].toArray⟩ : ByteArray) ++ (⟨T.toArray⟩ : ByteArray)))] (.sl 6 (([tkK 5 s] : List Tk).map tD)) by
      rw [hc1, ← hs2]; exact all2_ok _ (hz _ (by simp; omega))) call19 rfl rfl ⟨Sub.refl _, trivial⟩ rfl rfl rfl rfl ?_
    repeat (first | refine awp_seq ?_ | refine a_region ?_ | refine r_done ?_ | (refine r_id ?_; first | refine r_len tab_ok rfl rfl rfl rfl rfl rfl rfl ?_ | refine r_ev tab_ok rfl rfl rfl rfl (by first | exact trivial | exact ⟨by omega, by omega⟩ | omega | exact ⟨by omega, by omega, by omega, by omega⟩ | exact Nat.le_of_ble_eq_true rfl) rfl ?_ | refine r_idxd tab_ok rfl rfl rfl rfl rfl rfl rfl (by decide) rfl rfl rfl ?_ | refine r_ev_on tab_ok rfl rfl rfl rfl rfl rfl (by first | exact trivial | exact ⟨by omega, by omega⟩ | omega) rfl ?_ | refine r_build tab_ok rfl rfl rfl rfl rfl rfl ?_) | refine r_g rfl rfl rfl ?_)
    refine r_eqT (c := tkK 5 s) (d := tkK 5 s) rfl rfl rfl rfl rfl rfl rfl ?_
    rw [eqT_self]
    repeat (first | (refine r_id ?_; first | refine r_ev tab_ok rfl rfl rfl rfl (by first | exact trivial | exact ⟨by omega, by omega⟩ | omega | exact ⟨by omega, by omega, by omega, by omega⟩ | exact Nat.le_of_ble_eq_true rfl) rfl ?_ | refine r_pick_t rfl rfl rfl rfl rfl rfl rfl ?_) | refine r_g rfl rfl rfl ?_)
    refine r_call awake2_ok call12 rfl rfl trivial rfl rfl rfl rfl ?_
    repeat (first | refine thenA_normal ?_ | refine awp_ret ?_ | refine thenA_ret ?_ | refine blockA_ret ?_ | refine r_done ?_ | (refine r_id ?_; first | refine r_ev tab_ok rfl rfl rfl rfl (by first | exact trivial | exact ⟨by omega, by omega⟩ | omega | exact ⟨by omega, by omega, by omega, by omega⟩ | exact Nat.le_of_ble_eq_true rfl) rfl ?_ | refine r_pick_t rfl rfl rfl rfl rfl rfl rfl ?_) | refine ret1 (by first | exact .inl rfl | exact .inr rfl) rfl rfl rfl ?_)
    exact Sub.refl _
  · repeat (first | refine awp_seq ?_ | refine thenA_normal ?_ | refine awp_block ?_ | refine a_region ?_ | refine r_done ?_ | (refine r_id ?_; first | refine r_ev tab_ok rfl rfl rfl rfl (by first | exact trivial | exact ⟨by omega, by omega⟩ | omega | exact ⟨by omega, by omega, by omega, by omega⟩ | exact Nat.le_of_ble_eq_true rfl) rfl ?_) | refine awp_cond_t rfl ?_ | refine awp_cond_f rfl ?_ | refine r_ev tab_ok rfl rfl rfl rfl (by simp only [ByteArray.size_append]; omega) rfl ?_)
    refine r_call (show PCalls Tryd.prog 19 [.val (.string ((⟨[q].toArray⟩ : ByteArray) ++ (⟨T.toArray⟩ : ByteArray) ++ (⟨#[10, 98]⟩ : ByteArray)))] (.sl 6 (([tkK 6 ⟨#[]⟩, tkK 13 ⟨#[]⟩, tkK 1 ⟨#[98]⟩] : List Tk).map tD)) by
      rw [hc2, ← hs3]; exact all2_ok _ (hz _ (by simp; omega))) call19 rfl rfl ⟨Sub.refl _, trivial⟩ rfl rfl rfl rfl ?_
    repeat (first | refine awp_seq ?_ | refine a_region ?_ | refine r_done ?_ | (refine r_id ?_; first | refine r_len tab_ok rfl rfl rfl rfl rfl rfl rfl ?_ | refine r_ev tab_ok rfl rfl rfl rfl (by first | exact trivial | exact ⟨by omega, by omega⟩ | omega | exact ⟨by omega, by omega, by omega, by omega⟩ | exact Nat.le_of_ble_eq_true rfl) rfl ?_ | refine r_idxd tab_ok rfl rfl rfl rfl rfl rfl rfl (by decide) rfl rfl rfl ?_ | refine r_ev_on tab_ok rfl rfl rfl rfl rfl rfl (by first | exact trivial | exact ⟨by omega, by omega⟩ | omega) rfl ?_ | refine r_build tab_ok rfl rfl rfl rfl rfl rfl ?_) | refine r_g rfl rfl rfl ?_)
    refine r_eqT (c := tkK 6 ⟨#[]⟩) (d := tkK 6 ⟨#[]⟩) rfl rfl rfl rfl rfl rfl rfl ?_
    repeat (first | (refine r_id ?_; first | refine r_ev tab_ok rfl rfl rfl rfl (by first | exact trivial | exact ⟨by omega, by omega⟩ | omega | exact ⟨by omega, by omega, by omega, by omega⟩ | exact Nat.le_of_ble_eq_true rfl) rfl ?_ | refine r_idxd tab_ok rfl rfl rfl rfl rfl rfl rfl (by decide) rfl rfl rfl ?_ | refine r_pick_t rfl rfl rfl rfl rfl rfl rfl ?_ | refine r_ev_on tab_ok rfl rfl rfl rfl rfl rfl (by first | exact trivial | exact ⟨by omega, by omega⟩ | omega) rfl ?_) | refine r_g rfl rfl rfl ?_)
    refine r_call awake2_ok call12 rfl rfl trivial rfl rfl rfl rfl ?_
    repeat (first | refine thenA_normal ?_ | refine awp_ret ?_ | refine thenA_ret ?_ | refine blockA_ret ?_ | refine r_done ?_ | (refine r_id ?_; first | refine r_ev tab_ok rfl rfl rfl rfl (by first | exact trivial | exact ⟨by omega, by omega⟩ | omega | exact ⟨by omega, by omega, by omega, by omega⟩ | exact Nat.le_of_ble_eq_true rfl) rfl ?_ | refine r_pick_t rfl rfl rfl rfl rfl rfl rfl ?_) | refine ret1 (by first | exact .inl rfl | exact .inr rfl) rfl rfl rfl ?_)
    exact Sub.refl _
  · repeat (first | refine awp_seq ?_ | refine thenA_normal ?_ | refine awp_block ?_ | refine a_region ?_ | refine awp_skip ?_ | refine r_done ?_ | (refine r_id ?_; first | refine r_ev tab_ok rfl rfl rfl rfl (by first | exact trivial | exact ⟨by omega, by omega⟩ | omega | exact ⟨by omega, by omega, by omega, by omega⟩ | exact Nat.le_of_ble_eq_true rfl) rfl ?_) | refine awp_cond_f rfl ?_ | refine r_ev tab_ok rfl rfl rfl rfl (by simp only [ByteArray.size_append]; omega) rfl ?_)
    refine r_call (show PCalls Tryd.prog 19 [.val (.string ((⟨[q].toArray⟩ : ByteArray) ++ (⟨T.toArray⟩ : ByteArray) ++ (⟨#[92, 10]⟩ : ByteArray) ++ (⟨T.toArray⟩ : ByteArray) ++ (⟨[q].toArray⟩ : ByteArray)))] (.sl 6 (([tkK 5 (s ++ s)] : List Tk).map tD)) by
      rw [hc3, ← hs4]; exact all2_ok _ (hz _ (by simp; omega))) call19 rfl rfl ⟨Sub.refl _, trivial⟩ rfl rfl rfl rfl ?_
    repeat (first | refine awp_seq ?_ | refine a_region ?_ | refine r_done ?_ | (refine r_id ?_; first | refine r_len tab_ok rfl rfl rfl rfl rfl rfl rfl ?_ | refine r_ev tab_ok rfl rfl rfl rfl (by first | exact trivial | exact ⟨by omega, by omega⟩ | omega | exact ⟨by omega, by omega, by omega, by omega⟩ | exact Nat.le_of_ble_eq_true rfl) rfl ?_ | refine r_idxd tab_ok rfl rfl rfl rfl rfl rfl rfl (by decide) rfl rfl rfl ?_ | refine r_ev_on tab_ok rfl rfl rfl rfl rfl rfl (by first | exact trivial | exact ⟨by omega, by omega⟩ | omega) rfl ?_ | refine r_build tab_ok rfl rfl rfl rfl rfl rfl ?_) | refine r_g rfl rfl rfl ?_)
    refine r_eqT (c := tkK 5 (s ++ s)) (d := tkK 5 (s ++ s)) rfl rfl rfl rfl rfl rfl rfl ?_
    rw [eqT_self]
    repeat (first | (refine r_id ?_; first | refine r_ev tab_ok rfl rfl rfl rfl (by first | exact trivial | exact ⟨by omega, by omega⟩ | omega | exact ⟨by omega, by omega, by omega, by omega⟩ | exact Nat.le_of_ble_eq_true rfl) rfl ?_ | refine r_pick_t rfl rfl rfl rfl rfl rfl rfl ?_) | refine r_g rfl rfl rfl ?_)
    refine r_call awake2_ok call12 rfl rfl trivial rfl rfl rfl rfl ?_
    repeat (first | refine thenA_normal ?_ | refine awp_ret ?_ | refine r_done ?_ | (refine r_id ?_; first | refine r_ev tab_ok rfl rfl rfl rfl (by first | exact trivial | exact ⟨by omega, by omega⟩ | omega | exact ⟨by omega, by omega, by omega, by omega⟩ | exact Nat.le_of_ble_eq_true rfl) rfl ?_ | refine r_pick_t rfl rfl rfl rfl rfl rfl rfl ?_) | refine ret1 (by first | exact .inl rfl | exact .inr rfl) rfl rfl rfl ?_)
    exact Sub.refl _
end Go.Proofs.YtbjinibmkkmhkaaDoor
