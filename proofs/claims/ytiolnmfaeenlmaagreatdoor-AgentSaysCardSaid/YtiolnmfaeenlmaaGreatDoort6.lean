import Derived.Test.YtiolnmfaeenlmaaGreatDoort3
import Derived.Test.YtiolnmfaeenlmaaGreatDoorr9
/- strings.TrimLeft of signs; token.Int; walked. -/
namespace Go.Proofs.YtiolnmfaeenlmaaGreatDoor
open Go Go.RowKit
set_option maxRecDepth 20000

def asF (c : Nat) : Bool := decide (c = 43) || decide (c = 45)
def pmB (c : UInt8) : Bool := asF c.toNat
def asC : List AV := (List.range 256).map fun k => .val (.bool (asF k))
def asB : AB := .box 118 asC
theorem as_ld {te : TE} (h : te.kind.agg = false) (c : UInt8) : ldAV te (asC.drop (0 + (c.toNat : Int).toNat * 1)) = some (.val (.bool (asF c.toNat))) := by
  have hc := c.toNat_lt
  have e : (asC.drop (0 + (c.toNat : Int).toNat * 1))[0]? = some (.val (.bool (asF c.toNat))) := by
    rw [List.getElem?_drop, asC, List.getElem?_map, List.getElem?_range (by simp; omega)]
    simp
  rw [ldAV, loadAV, h]
  simp only [cond_false, e]
  rfl
namespace As
/-- The types, and that of a set of bytes. -/
def tab : List (Nat × TE) := (118, ⟨.array 256 4, 256, 256, List.replicate 256 (.bool false)⟩) :: Go.Proofs.YtiolnmfaeenlmaaGreatDoor.tab
theorem tab_ok : TyTab Tryz.prog tab := ⟨by kernel_rfl, Go.Proofs.YtiolnmfaeenlmaaGreatDoor.tab_ok⟩
theorem contains_as (c : UInt8) : MCalls Tryz.prog 123 [asB] [.ptr 0 0, .val (.int .u8 c.toNat)] [asB] (.val (.bool (asF c.toNat))) := by
  refine m_start Tryz.func123 Tryz.ntmps123 rfl rfl rfl fun S w β => ?_
  have hc := c.toNat_lt
  repeat (first | refine awp_seq ?_ | refine a_region ?_ | refine r_done ?_ | (refine r_id ?_; first | refine r_ev tab_ok rfl rfl rfl rfl byE rfl ?_ | refine r_nilck rfl rfl rfl rfl rfl rfl rfl ?_))
  refine r_idxa tab_ok rfl rfl rfl rfl (by simp; omega) rfl rfl rfl rfl ?_
  refine r_id ?_
  refine r_ld tab_ok rfl (by exact as_ld rfl c) rfl rfl rfl ?_
  repeat (first | refine thenA_normal ?_ | refine awp_ret ?_ | refine r_done ?_ | (refine r_id ?_; first | refine r_ev tab_ok rfl rfl rfl rfl byE rfl ?_) | refine retM1 byO rfl rfl rfl rfl rfl ?_)
  exact Sub.refl _
def asN (i : Nat) : List AV := (List.range 256).map fun k => .val (.bool ((decide (k = 43) && decide (1 ≤ i)) || (decide (k = 45) && decide (2 ≤ i))))
theorem makeAs : PCalls Tryz.prog 120 [.val (.string ⟨#[43, 45]⟩)] (.tup [.agg asC, .val (.bool true)]) := by
  refine p_start Tryz.func120 Tryz.ntmps120 rfl rfl rfl fun S w => ?_
  repeat (first | refine awp_seq ?_ | refine thenA_normal ?_ | refine awp_block ?_ | refine a_region ?_ | refine r_done ?_ | (refine r_id ?_; first | refine r_ev tab_ok rfl rfl rfl rfl byE rfl ?_ | refine r_wr tab_ok rfl rfl rfl rfl rfl ?_))
  have hsz : (⟨#[43, 45]⟩ : ByteArray).size = 2 := rfl
  have z0 : List.map AV.val (List.replicate 256 (Value.bool false)) = asN 0 := by kernel_rfl
  have z1 : (asN 0).set 43 (.val (.bool true)) = asN 1 := by kernel_rfl
  have z2 : (asN 1).set 45 (.val (.bool true)) = asN 2 := by kernel_rfl
  have z3 : asN 2 = asC := by kernel_rfl
  refine a_loop (σ := {i : Nat // i ≤ 2}) (fun x => [.box 118 (asN x.1)]) (fun x => [(0, .val (.string ⟨#[43, 45]⟩)), (2, .ptr 0 0), (4, .val (.int .i64 x.1))]) (fun x => 2 - x.1) ⟨0, Nat.zero_le _⟩ (by
    show Fits _ ⟨[.box 118 (List.map AV.val (List.replicate 256 (Value.bool false)))], _⟩ _
    rw [z0]
    exact fits_of rfl byK) ?_
  rintro ⟨i, hi⟩
  dsimp only
  have hi3 : i = 0 ∨ i = 1 ∨ i = 2 := by omega
  rcases hi3 with rfl | rfl | rfl
  · repeat (first | refine awp_seq ?_ | refine thenA_normal ?_ | refine awp_block ?_ | refine a_region ?_ | refine awp_skip ?_ | refine r_done ?_ | (refine r_id ?_; first | refine r_ev tab_ok rfl rfl rfl rfl byE rfl ?_ | refine r_st tab_ok rfl rfl rfl rfl ?_ | refine r_idxa tab_ok rfl rfl rfl rfl (by decide) rfl rfl rfl rfl ?_) | refine awp_cond_t rfl ?_ | refine awp_cond_f rfl ?_)
    exact ⟨⟨1, by decide⟩, by decide, fits_of (by kernel_rfl) byK⟩
  · repeat (first | refine awp_seq ?_ | refine thenA_normal ?_ | refine awp_block ?_ | refine a_region ?_ | refine awp_skip ?_ | refine r_done ?_ | (refine r_id ?_; first | refine r_ev tab_ok rfl rfl rfl rfl byE rfl ?_ | refine r_st tab_ok rfl rfl rfl rfl ?_ | refine r_idxa tab_ok rfl rfl rfl rfl (by decide) rfl rfl rfl rfl ?_) | refine awp_cond_t rfl ?_ | refine awp_cond_f rfl ?_)
    exact ⟨⟨2, by decide⟩, by decide, fits_of (by kernel_rfl) byK⟩
  · rw [z3]
    repeat (first | refine awp_seq ?_ | refine thenA_normal ?_ | refine a_region ?_ | refine awp_ret ?_ | refine awp_exit ?_ | refine r_done ?_ | (refine r_id ?_; first | refine r_ev tab_ok rfl rfl rfl rfl byE rfl ?_ | refine r_ld tab_ok rfl rfl rfl rfl rfl ?_ | refine r_st tab_ok rfl rfl rfl rfl ?_) | refine awp_cond_f rfl ?_)
    exact ret2ct tab_ok byO rfl rfl rfl rfl rfl rfl rfl (Sub.of_eq (by kernel_rfl)) (Sub.refl _)
theorem ext1 (c : UInt8) (r : List UInt8) : (⟨(c :: r).toArray⟩ : ByteArray).extract 1 (⟨(c :: r).toArray⟩ : ByteArray).size = ⟨r.toArray⟩ := by
  apply ByteArray.ext
  rw [ByteArray.data_extract]
  simp [ByteArray.size]
theorem trimAs (l0 : List UInt8) (hl : l0.length ≤ 8796093022208) : MCalls Tryz.prog 121 [asB] [.val (.string ⟨l0.toArray⟩), .ptr 0 0] [asB] (.val (.string ⟨(l0.dropWhile pmB).toArray⟩)) := by
  refine m_start Tryz.func121 Tryz.ntmps121 rfl rfl rfl fun S w β => ?_
  repeat (first | refine awp_seq ?_ | refine awp_block ?_ | refine a_region ?_ | refine r_done ?_ | (refine r_id ?_; first | refine r_ev tab_ok rfl rfl rfl rfl byE rfl ?_))
  refine a_loop (σ := {l : List UInt8 // l.dropWhile pmB = l0.dropWhile pmB ∧ l.length ≤ l0.length}) (fun _ => [asB]) (fun x => [(0, .val (.string ⟨x.1.toArray⟩)), (1, .ptr 0 0)]) (fun x => x.1.length) ⟨l0, rfl, Nat.le_refl _⟩ (fits_of rfl byK) ?_
  rintro ⟨l, hl1, hl2⟩
  dsimp only
  match l, hl1, hl2 with
  | [], hl1, _ =>
    have hz : (⟨([] : List UInt8).toArray⟩ : ByteArray).size = 0 := rfl
    rw [← hl1]
    repeat (first | refine awp_seq ?_ | refine thenA_normal ?_ | refine a_region ?_ | refine awp_ret ?_ | refine awp_exit ?_ | refine r_done ?_ | (refine r_id ?_; first | refine r_ev tab_ok rfl rfl rfl rfl byE rfl ?_) | refine retM1 byO rfl rfl rfl rfl rfl ?_ | refine awp_cond_f rfl ?_)
    exact Sub.refl _
  | c :: r, hl1, hl2 =>
    have hz : (⟨(c :: r).toArray⟩ : ByteArray).size = r.length + 1 := sz_list _
    have hz0 : (0 : Int) < ((⟨(c :: r).toArray⟩ : ByteArray).size : Int) := by omega
    repeat (first | refine awp_seq ?_ | refine thenA_normal ?_ | refine a_region ?_ | refine r_done ?_ | (refine r_id ?_; first | refine r_ev tab_ok rfl rfl rfl rfl byE rfl ?_))
    refine awp_cond_p rfl (fun _ => ?_) (fun h => absurd hz0 h)
    repeat (first | refine awp_seq ?_ | refine thenA_normal ?_ | refine awp_block ?_ | refine a_region ?_ | refine awp_skip ?_ | (refine r_id ?_; first | refine r_ev tab_ok rfl rfl rfl rfl byE rfl ?_))
    refine r_mro [0] (show MCalls Tryz.prog 123 [asB] [.ptr 0 0, .val (.int .u8 c.toNat)] [asB] (.val (.bool (asF c.toNat))) from contains_as c) call123 rfl rfl ⟨rfl, trivial⟩ (by decide) ⟨Sub.refl _, Sub.refl _, trivial⟩ rfl rfl rfl rfl rfl rfl ?_
    repeat (first | refine thenA_normal ?_ | refine r_done ?_ | (refine r_id ?_; first | refine r_ev tab_ok rfl rfl rfl rfl byE rfl ?_))
    refine awp_cond rfl (fun h => ?_) (fun h => ?_)
    · have h' : pmB c = false := by show asF c.toNat = false; simpa using h
      rw [List.dropWhile_cons, h', if_neg Bool.false_ne_true] at hl1
      rw [← hl1]
      repeat (first | refine awp_seq ?_ | refine thenA_normal ?_ | refine a_region ?_ | refine awp_ret ?_ | refine awp_exit ?_ | refine r_done ?_ | (refine r_id ?_; first | refine r_ev tab_ok rfl rfl rfl rfl byE rfl ?_) | refine retM1 byO rfl rfl rfl rfl rfl ?_)
      exact Sub.refl _
    · have h' : pmB c = true := by show asF c.toNat = true; simpa using h
      rw [List.dropWhile_cons, h', if_pos rfl] at hl1
      repeat (first | refine thenA_normal ?_ | refine a_region ?_ | refine blockA_normal ?_ | refine awp_skip ?_ | refine r_done ?_ | (refine r_id ?_; first | refine r_ev tab_ok rfl rfl rfl rfl byE rfl ?_ | refine r_scut tab_ok rfl rfl rfl rfl rfl rfl rfl rfl (by first | (simp; done) | exact ⟨by simp, by simp; omega, by simp; omega⟩ | (simp; omega)) rfl ?_))
      exact ⟨⟨r, hl1, by simp at hl2; omega⟩, by simp, fits_of rfl ⟨Sub.of_eq (congrArg (fun z => AV.val (.string z)) (ext1 c r)), Sub.refl _, trivial⟩⟩
theorem trimL (s : ByteArray) (hl : s.size ≤ 8796093022208) : PCalls Tryz.prog 113 [.val (.string s), .val (.string ⟨#[43, 45]⟩)] (.val (.string ⟨(s.data.toList.dropWhile pmB).toArray⟩)) := by
  refine p_start Tryz.func113 Tryz.ntmps113 rfl rfl rfl fun S w => ?_
  have hsz2 : (⟨#[43, 45]⟩ : ByteArray).size = 2 := rfl
  repeat (first | refine awp_seq ?_ | refine thenA_normal ?_ | refine a_region ?_ | refine r_done ?_ | (refine r_id ?_; first | refine r_ev tab_ok rfl rfl rfl rfl byE rfl ?_ | refine r_ev_cnd tab_ok rfl rfl rfl rfl rfl rfl byC (by first | exact fun _ => trivial | (intro h; simp at h; first | exact ⟨by omega, by omega⟩ | omega)) rfl ?_ | refine r_or rfl rfl rfl rfl rfl rfl rfl rfl ?_))
  refine awp_cond rfl (fun h => ?_) (fun h => ?_)
  · have h' : s = ⟨#[]⟩ := by simpa using h
    subst h'
    repeat (first | refine awp_seq ?_ | refine thenA_normal ?_ | refine a_region ?_ | refine awp_ret ?_ | refine thenA_ret ?_ | refine r_done ?_ | (refine r_id ?_; first | refine r_ev tab_ok rfl rfl rfl rfl byE rfl ?_) | refine ret1 byO rfl rfl rfl ?_)
    exact Sub.refl _
  · repeat (first | refine awp_seq ?_ | refine thenA_normal ?_ | refine a_region ?_ | refine awp_skip ?_ | refine r_done ?_ | (refine r_id ?_; first | refine r_ev tab_ok rfl rfl rfl rfl byE rfl ?_ | refine r_ev_cnd tab_ok rfl rfl rfl rfl rfl rfl byC (by first | exact fun _ => trivial | (intro h; simp at h; first | exact ⟨by omega, by omega⟩ | omega)) rfl ?_ | refine r_and rfl rfl rfl rfl rfl rfl rfl rfl ?_) | refine awp_cond_f rfl ?_)
    refine r_call makeAs call120 rfl rfl ⟨Sub.refl _, trivial⟩ rfl rfl rfl rfl ?_
    repeat (first | refine awp_seq ?_ | refine thenA_normal ?_ | refine a_region ?_ | refine r_done ?_ | (refine r_id ?_; first | refine r_ev tab_ok rfl rfl rfl rfl byE rfl ?_ | refine r_wr tab_ok rfl rfl rfl rfl rfl ?_ | refine r_st tab_ok rfl rfl rfl rfl ?_) | refine awp_cond_t rfl ?_)
    refine r_mro [0] (trimAs s.data.toList hl) call121 rfl rfl ⟨by kernel_rfl, trivial⟩ (by decide) ⟨Sub.refl _, Sub.refl _, trivial⟩ rfl rfl rfl rfl rfl rfl ?_
    repeat (first | refine thenA_normal ?_ | refine awp_ret ?_ | refine thenA_ret ?_ | refine r_done ?_ | (refine r_id ?_; first | refine r_ev tab_ok rfl rfl rfl rfl byE rfl ?_) | refine ret1 byO rfl rfl rfl ?_)
    exact Sub.refl _
end As
theorem dw_cases (l : List UInt8) : l.dropWhile pmB = l ∧ (∀ c r, l = c :: r → pmB c = false) ∨ ∃ c r, l = c :: r ∧ pmB c = true ∧ l.dropWhile pmB = r.dropWhile pmB := by
  match l with
  | [] => exact .inl ⟨rfl, fun c r h => by cases h⟩
  | c :: r =>
    cases h : pmB c with
    | true => exact .inr ⟨c, r, rfl, h, by rw [List.dropWhile_cons, h, if_pos rfl]⟩
    | false => exact .inl ⟨by rw [List.dropWhile_cons, h, if_neg Bool.false_ne_true], fun d q e => by cases e; exact h⟩
theorem dw_len (l : List UInt8) : (l.dropWhile pmB).length ≤ l.length := by
  induction l with
  | nil => exact Nat.le_refl _
  | cons c r ih =>
    rw [List.dropWhile_cons]
    split
    · rw [List.length_cons]; omega
    · exact Nat.le_refl _
theorem pm_sign {c : UInt8} : pmB c = true ↔ c.toNat = 43 ∨ c.toNat = 45 := by
  rw [pmB, asF, Bool.or_eq_true, decide_eq_true_eq, decide_eq_true_eq]
/-- What token.Int finds: by what is left without signs. -/
theorem intF_none {s : ByteArray} (h : s.data.toList.length - (s.data.toList.dropWhile pmB).length > 1 ∨ s.data.toList.dropWhile pmB = []) : intF s = 0 := by
  rw [intF]
  generalize s.data.toList = l at h
  have hs2 : ∀ c : UInt8, (c.toNat < 48 ∨ 57 < c.toNat) → ∀ r, (match intGo (c :: r) 0 with | none => (0 : Int) | some n => if (l.getD 0 0).toNat = 45 then max (-n) (-2147483648) else min n 2147483647) = 0 := fun c hc r => by
    rw [intGo, if_pos hc]
  rcases dw_cases l with ⟨h1, h2⟩ | ⟨c, r, rfl, hc, h1⟩
  · rw [h1] at h
    have : l = [] := by rcases h with h | h; omega; exact h
    subst this
    rfl
  · have hc' := pm_sign.1 hc
    have hk : intK (c :: r) = 1 := by rw [intK, if_pos ⟨Nat.succ_pos _, hc'⟩]
    rw [hk]
    match r, h1, h with
    | [], _, _ => rfl
    | d :: q, h1, h =>
      rw [if_neg (by simp)]
      rcases dw_cases (d :: q) with ⟨h3, h4⟩ | ⟨d', q', e, hd, _⟩
      · rw [h1, h3] at h
        rcases h with h | h
        · simp at h
        · cases h
      · cases e
        exact hs2 d (by have := pm_sign.1 hd; omega) q
theorem intF_some {s : ByteArray} (h : ¬ s.data.toList.length - (s.data.toList.dropWhile pmB).length > 1) (hd : s.data.toList.dropWhile pmB ≠ []) : intF s =
    match intGo (s.data.toList.dropWhile pmB) 0 with
    | none => 0
    | some n => if (s.data.toList.getD 0 0).toNat = 45 then max (-n) (-2147483648) else min n 2147483647 := by
  rw [intF]
  generalize s.data.toList = l at h hd
  rcases dw_cases l with ⟨h1, h2⟩ | ⟨c, r, rfl, hc, h1⟩
  · have hk : intK l = 0 := by
      rw [intK, if_neg]
      rintro ⟨h3, h4⟩
      match l, h2, h3, h4 with
      | c :: r, h2, _, h4 =>
        have := h2 c r rfl
        rw [pm_sign.2 (show c.toNat = 43 ∨ c.toNat = 45 from h4)] at this
        cases this
    rw [h1] at hd
    rw [hk, if_neg (fun h => hd (List.length_eq_zero_iff.1 h.symm)), h1, List.drop_zero]
    rfl
  · have hc' := pm_sign.1 hc
    have hk : intK (c :: r) = 1 := by rw [intK, if_pos ⟨Nat.succ_pos _, hc'⟩]
    have hr : r.dropWhile pmB = r := by
      rcases dw_cases r with ⟨h3, _⟩ | ⟨d, q, rfl, hd2, h3⟩
      · exact h3
      · exfalso
        have := dw_len q
        rw [h1, h3] at h
        simp only [List.length_cons] at h
        omega
    rw [h1, hr] at hd
    rw [hk, if_neg (fun h => hd (List.length_eq_zero_iff.1 (by simpa using h.symm))), h1, hr]
    rfl
structure PIS (l : List UInt8) where
  i : Nat
  n : Int
  m : Int
  hi : i ≤ l.length
  h0 : 0 ≤ m
  hn : m ≤ 4294967296
  hm : n = min m 2147483648
  eq : intGo (l.drop i) m = intGo l 0
set_option maxHeartbeats 4000000 in
theorem pint_ok (s : ByteArray) (hs : s.size ≤ 8796093022208) : PCalls Tryz.prog 100 [.val (.string s)] (.val (.int .i64 (intF s))) := by
  refine p_start Tryz.func100 Tryz.ntmps100 rfl rfl rfl fun S w => ?_
  have hsz := str_size s
  repeat (first | refine awp_seq ?_ | refine a_region ?_ | refine r_done ?_ | (refine r_id ?_; first | refine r_ev tab_ok rfl rfl rfl rfl byE rfl ?_))
  refine r_call (As.trimL s hs) call113 rfl rfl ⟨Sub.refl _, Sub.refl _, trivial⟩ rfl rfl rfl rfl ?_
  have hdl := dw_len s.data.toList
  have hnone := intF_none (s := s)
  have hsome := intF_some (s := s)
  generalize hD : s.data.toList.dropWhile pmB = D at hdl hnone hsome
  have hds : (⟨D.toArray⟩ : ByteArray).size = D.length := sz_list _
  have hpos : 0 < s.data.toList.length - D.length + 1 := by omega
  repeat (first | refine awp_seq ?_ | refine thenA_normal ?_ | refine a_region ?_ | refine r_done ?_ | (refine r_id ?_; first | refine r_ev tab_ok rfl rfl rfl rfl byE rfl ?_ | refine r_ev_cnd tab_ok rfl rfl rfl rfl rfl rfl byC (by first | exact fun _ => trivial | (intro h; simp at h; first | exact ⟨by omega, by omega⟩ | omega)) rfl ?_ | refine r_or rfl rfl rfl rfl rfl rfl rfl rfl ?_))
  refine awp_cond rfl (fun h => ?_) (fun h => ?_)
  · have h' : s.data.toList.length - D.length > 1 ∨ D = [] := by
      rw [Bool.or_eq_true, decide_eq_true_eq, decide_eq_true_eq] at h
      rcases h with h | h
      · left; omega
      · right
        have := congrArg ByteArray.size h
        rw [hds] at this
        exact List.length_eq_zero_iff.1 this
    rw [hnone h']
    repeat (first | refine awp_seq ?_ | refine thenA_normal ?_ | refine a_region ?_ | refine awp_ret ?_ | refine thenA_ret ?_ | refine r_done ?_ | (refine r_id ?_; first | refine r_ev tab_ok rfl rfl rfl rfl byE rfl ?_) | refine ret1 byO rfl rfl rfl ?_)
    exact Sub.refl _
  rw [Bool.or_eq_false_iff, decide_eq_false_iff_not, decide_eq_false_iff_not] at h
  have hD0 : D ≠ [] := fun h' => h.2 (by rw [h'])
  have hv := hsome (by omega) hD0
  rw [hv]
  have hDp := List.length_pos_iff.2 hD0
  repeat (first | refine awp_seq ?_ | refine thenA_normal ?_ | refine awp_block ?_ | refine a_region ?_ | refine awp_skip ?_ | refine r_done ?_ | (refine r_id ?_; first | refine r_ev tab_ok rfl rfl rfl rfl byE rfl ?_ | refine r_range tab_ok rfl rfl rfl rfl rfl rfl rfl ?_))
  refine a_loop (σ := PIS D) (fun x => [.iter ⟨D.toArray⟩ x.i]) (fun x => [(0, .val (.string s)), (4, .val (.int .i64 x.n)), (20, .ptr 0 0)]) (fun x => D.length - x.i) ⟨0, 0, 0, Nat.zero_le _, by omega, by omega, by omega, rfl⟩ (fits_conv byV byV) ?_
  rintro ⟨i, n, m, hi, h0, hn, hm, heq⟩
  dsimp only
  rcases Nat.lt_or_ge i D.length with hlt | hge
  · have hlt' : i < (⟨D.toArray⟩ : ByteArray).size := by omega
    obtain ⟨c, hc⟩ : ∃ c, D.drop i = c :: D.drop (i + 1) := ⟨_, List.drop_eq_getElem_cons hlt⟩
    have hdec : Utf8.decode ⟨D.toArray⟩ i = decL (c :: D.drop (i + 1)) := by rw [dec_drop, hc]
    rw [hc, intGo] at heq
    repeat (first | refine awp_seq ?_ | refine thenA_normal ?_ | refine awp_block ?_ | refine a_region ?_ | refine awp_skip ?_ | refine r_done ?_ | (refine r_id ?_; first | refine r_ev tab_ok rfl rfl rfl rfl byE rfl ?_ | refine r_next rfl rfl rfl rfl (by assumption) rfl rfl rfl ?_) | refine awp_cond_t rfl ?_)
    simp only [hdec]
    refine r_call (pDigit _) call97 rfl rfl ⟨Sub.refl _, trivial⟩ rfl rfl rfl rfl ?_
    repeat (first | refine thenA_normal ?_ | refine r_done ?_ | (refine r_id ?_; first | refine r_ev tab_ok rfl rfl rfl rfl byE rfl ?_))
    refine awp_cond rfl (fun hd => ?_) (fun hd => ?_)
    · have hb : c.toNat < 48 ∨ 57 < c.toNat := by
        rcases Nat.lt_or_ge c.toNat 128 with h1 | h1
        · rw [dec_ascii c _ h1] at hd
          simp [digF] at hd
          omega
        · omega
      rw [if_pos hb] at heq
      rw [← heq]
      repeat (first | refine awp_seq ?_ | refine thenA_normal ?_ | refine a_region ?_ | refine awp_ret ?_ | refine thenA_ret ?_ | refine blockA_ret ?_ | refine r_done ?_ | (refine r_id ?_; first | refine r_ev tab_ok rfl rfl rfl rfl byE rfl ?_) | refine ret1 byO rfl rfl rfl ?_)
      exact Sub.refl _
    · have hd2 : digF ((decL (c :: D.drop (i + 1))).1 : Int) = true := by simpa using hd
      simp only [digF, Bool.and_eq_true, decide_eq_true_eq] at hd2
      have h1 := dec_small c (D.drop (i + 1)) (by omega)
      have h2 := dec_ascii c (D.drop (i + 1)) h1
      simp only [h2] at hd2 ⊢
      rw [if_neg (by omega)] at heq
      repeat (first | refine thenA_normal ?_ | refine a_region ?_ | refine blockA_normal ?_ | refine awp_skip ?_ | refine r_done ?_ | (refine r_id ?_; first | refine r_ev tab_ok rfl rfl rfl rfl byE rfl ?_))
      exact ⟨⟨i + 1, min (10 * n + ((c.toNat : Int) - 48)) 2147483648, _, hlt, by omega, by omega, by omega, heq⟩, by dsimp only; omega, fits_conv byV byV⟩
  · have : i = D.length := by omega
    subst this
    rw [List.drop_length, intGo] at heq
    rw [← heq]
    have hlt' : ¬ D.length < (⟨D.toArray⟩ : ByteArray).size := by omega
    have hsp : 0 < s.size := by omega
    repeat (first | refine awp_seq ?_ | refine thenA_normal ?_ | refine a_region ?_ | refine awp_exit ?_ | refine r_done ?_ | (refine r_id ?_; first | refine r_ev tab_ok rfl rfl rfl rfl byE rfl ?_ | refine r_next_end rfl rfl rfl rfl (by assumption) rfl rfl rfl ?_) | refine awp_cond_f rfl ?_)
    refine awp_cond_p rfl (fun h45 => ?_) (fun h45 => ?_)
    · rw [show Int.toNat 0 = 0 from rfl] at h45
      dsimp only
      rw [if_pos (by omega)]
      repeat (first | refine awp_seq ?_ | refine thenA_normal ?_ | refine a_region ?_ | refine awp_ret ?_ | refine thenA_ret ?_ | refine r_done ?_ | (refine r_id ?_; first | refine r_ev tab_ok rfl rfl rfl rfl byE rfl ?_) | refine ret1 byO rfl rfl rfl ?_)
      exact Sub.of_eq (by congr 2; omega)
    · rw [show Int.toNat 0 = 0 from rfl] at h45
      dsimp only
      rw [if_neg (by omega)]
      repeat (first | refine awp_seq ?_ | refine thenA_normal ?_ | refine a_region ?_ | refine awp_ret ?_ | refine awp_skip ?_ | refine r_done ?_ | (refine r_id ?_; first | refine r_ev tab_ok rfl rfl rfl rfl byE rfl ?_) | refine ret1 byO rfl rfl rfl ?_)
      exact Sub.of_eq (by congr 2; omega)
end Go.Proofs.YtiolnmfaeenlmaaGreatDoor

/- The program's reader: numbers. -/
namespace Go.Proofs.YtiolnmfaeenlmaaGreatDoor
open Go Go.RowKit
set_option maxRecDepth 20000

theorem digL_all : ∀ (n : Nat) (l : List Int), l.length ≤ n → (digL l).1 ++ (digL l).2 = l := by
  intro n
  induction n with
  | zero =>
    intro l hl
    have : l = [] := List.length_eq_zero_iff.1 (by omega)
    subst this; rfl
  | succ n ih =>
    intro l hl
    match l, hl with
    | [], _ => rfl
    | c :: r, hl =>
      cases h : digF c with
      | true =>
        rw [digL_go (l := c :: r) h]
        show c :: ((digL r).1 ++ (digL r).2) = _
        rw [ih r (by simp at hl; omega)]
      | false => rw [digL_no (l := c :: r) h]; rfl
theorem nT_take (L : List Int) {i : Nat} (hi : i ≤ L.length) : (L.take (n2 L i)).drop i = nT L i := by
  have h1 := nT_L L hi
  have h2 := n2_L L hi
  have hle := n2_le L hi
  have h3 : nTL (L.drop i) ++ n2L (L.drop i) = L.drop i := by
    rw [nTL, n2L, List.append_assoc, digL_all _ _ (Nat.le_refl _), nT1L, n1L]
    split
    · rename_i hs
      match hl : L.drop i, hs with
      | [], hs => cases hs
      | c :: r, _ => rfl
    · rfl
  rw [h1, h2] at h3
  have h4 : (nT L i).length = n2 L i - i := by
    have := congrArg List.length h3
    rw [List.length_append, List.length_drop, List.length_drop] at this
    omega
  rw [List.drop_take, ← h3, List.take_append_of_le_length (by omega), List.take_of_length_le (by omega)]
theorem i32s_map : ∀ l : List Int, i32s (l.map rD) = some l
  | [] => rfl
  | c :: l => by
    rw [List.map_cons]
    show (match i32s (l.map rD) with | some ns => some (c :: ns) | none => none) = _
    rw [i32s_map l]
def nTa (w : Bool) (s : Bool) (n : Int) : Tk := ⟨0, ⟨#[]⟩, n, w, s, false⟩
set_option maxHeartbeats 8000000 in
theorem pnumeric_ok (L : List Int) (i : Nat) (hL : L.length ≤ 1099511627776) (hN : ∀ x ∈ L, 0 ≤ x) (hi : i ≤ L.length) : MCalls Tryz.prog 70 [rdP L i] [.ptr 0 0] [rdP L (numF L i).2] (tA (numF L i).1) := by
  refine m_start Tryz.func70 Tryz.ntmps70 rfl rfl rfl fun S w β => ?_
  have h1 := n1_le L hi
  have h2 := n2_le L hi
  have h3 := n3_le L h2.2
  have h4 := n4_le L h3.2
  have h2' := digEnd_le L h1.2
  have hz2 := runesBytes_size_le (nT L i)
  have hz2' : (nT L i).length ≤ L.length := by rw [← nT_take L hi]; simp; omega
  have hlm : (L.map rD).length = L.length := List.length_map _
  repeat (first | refine awp_seq ?_ | refine thenA_normal ?_ | refine a_region ?_ | refine r_done ?_ | (refine r_id ?_; first | refine r_ev tab_ok rfl rfl rfl rfl byE rfl ?_ | refine r_ld tab_ok rfl rfl rfl rfl rfl ?_ | refine r_wr tab_ok rfl rfl rfl rfl rfl ?_ | refine r_st tab_ok rfl rfl rfl rfl ?_ | refine r_ev_cnd tab_ok rfl rfl rfl rfl rfl rfl byC (by first | exact fun _ => trivial | (intro h; simp at h; first | exact ⟨by omega, by omega⟩ | omega)) rfl ?_ | refine r_or rfl rfl rfl rfl rfl rfl rfl rfl ?_ | refine r_build tab_ok rfl rfl rfl rfl rfl rfl ?_ | refine r_nilck rfl rfl rfl rfl rfl rfl rfl ?_) | refine r_mro [0] (see_ok _ _ _ hL (by omega) (by omega)) call66 rfl rfl ⟨rfl, trivial⟩ (by decide) ⟨Sub.refl _, Sub.refl _, trivial⟩ rfl rfl rfl rfl rfl rfl ?_ | refine r_mro_cnd [0] (fun _ => see_ok _ _ _ hL (by omega) (by omega)) call66 rfl rfl rfl rfl byC ⟨rfl, trivial⟩ (by decide) ⟨Sub.refl _, Sub.refl _, trivial⟩ rfl rfl rfl rfl rfl rfl ?_)
  rw [Int.add_zero]
  refine awp_cut ⟨[rdP L (n1 L i), tB tk0, tB (nTa true (nS L i) 0)], [(0, .ptr 0 0), (2, .ptr 1 0), (3, .val (.int .i64 i)), (4, .ptr 2 0)]⟩ ?_ ?_
  · refine awp_cond rfl (fun h => ?_) (fun h => ?_)
    · have hs : nS L i = true := h
      rw [n1, if_pos hs]
      repeat (first | refine a_region ?_ | refine r_done ?_ | (refine r_id ?_; first | refine r_ev tab_ok rfl rfl rfl rfl byE rfl ?_ | refine r_ld tab_ok rfl rfl rfl rfl rfl ?_ | refine r_st tab_ok rfl rfl rfl rfl ?_ | refine r_nilck rfl rfl rfl rfl rfl rfl rfl ?_))
      exact ⟨rfl, fits_convM byV byV ⟨trivial, trivial⟩⟩
    · have hs : ¬ nS L i = true := by rw [show nS L i = false from h]; decide
      rw [n1, if_neg hs]
      repeat (first | refine awp_skip ?_)
      exact ⟨rfl, fits_convM byV byV ⟨trivial, trivial⟩⟩
  repeat (first | refine awp_seq ?_ | refine a_region ?_ | (refine r_id ?_; first | refine r_ev tab_ok rfl rfl rfl rfl byE rfl ?_))
  refine r_mcall [0] (pdigits_ok L (n1 L i) hL h1.2) call98 rfl rfl ⟨rfl, trivial⟩ (by decide) ⟨Sub.refl _, trivial⟩ rfl rfl rfl rfl rfl rfl rfl ?_
  repeat (first | refine awp_seq ?_ | refine thenA_normal ?_ | refine a_region ?_ | refine r_done ?_ | (refine r_id ?_; first | refine r_ev tab_ok rfl rfl rfl rfl byE rfl ?_ | refine r_ev_cnd tab_ok rfl rfl rfl rfl rfl rfl byC (by first | exact fun _ => trivial | (intro h; simp at h; first | exact ⟨by omega, by omega⟩ | omega)) rfl ?_ | refine r_and rfl rfl rfl rfl rfl rfl rfl rfl ?_) | refine r_mro [0] (see_ok _ _ _ hL (by omega) (by omega)) call66 rfl rfl ⟨rfl, trivial⟩ (by decide) ⟨Sub.refl _, Sub.refl _, trivial⟩ rfl rfl rfl rfl rfl rfl ?_ | refine r_mro_cnd [0] (fun _ => see_ok _ _ _ hL (by omega) (by omega)) call66 rfl rfl rfl rfl byC ⟨rfl, trivial⟩ (by decide) ⟨Sub.refl _, Sub.refl _, trivial⟩ rfl rfl rfl rfl rfl rfl ?_ | refine r_call_cnd (fun _ => pDigit _) call97 rfl rfl rfl rfl byC ⟨Sub.refl _, trivial⟩ rfl rfl rfl rfl ?_)
  rw [Int.add_zero]
  generalize hj2 : n2 L i = j2 at h2 h3 h4
  refine awp_cut ⟨[rdP L (n3 L j2), tB tk0, tB (nTa (!nDot L j2) (nS L i) 0)], [(0, .ptr 0 0), (2, .ptr 1 0), (3, .val (.int .i64 i)), (4, .ptr 2 0)]⟩ ?_ ?_
  · rw [show digEnd L (n1 L i) = j2 from hj2]
    refine awp_cond rfl (fun h => ?_) (fun h => ?_)
    · have hd : nDot L j2 = true := h
      have hin := nDot_in hd
      rw [n3, if_pos hd, hd]
      repeat (first | refine awp_seq ?_ | refine thenA_normal ?_ | refine a_region ?_ | refine r_done ?_ | (refine r_id ?_; first | refine r_ev tab_ok rfl rfl rfl rfl byE rfl ?_ | refine r_ld tab_ok rfl rfl rfl rfl rfl ?_ | refine r_st tab_ok rfl rfl rfl rfl ?_ | refine r_nilck rfl rfl rfl rfl rfl rfl rfl ?_))
      refine r_mcall [0] (pdigits_ok L (j2 + 1) hL (by omega)) call98 rfl rfl ⟨rfl, trivial⟩ (by decide) ⟨Sub.refl _, trivial⟩ rfl rfl rfl rfl rfl rfl rfl ?_
      repeat (first | refine r_done ?_)
      exact ⟨rfl, fits_convM byV byV ⟨trivial, trivial⟩⟩
    · have hd : nDot L j2 = false := h
      rw [n3, hd, if_neg (by decide)]
      repeat (first | refine awp_skip ?_)
      exact ⟨rfl, fits_convM byV byV ⟨trivial, trivial⟩⟩
  generalize hj3 : n3 L j2 = j3 at h3 h4
  repeat (first | refine awp_seq ?_ | refine a_region ?_ | (refine r_id ?_; first | refine r_ev tab_ok rfl rfl rfl rfl byE rfl ?_))
  refine r_mcall [0] (pexp_ok L j3 hL h3.2) call99 rfl rfl ⟨rfl, trivial⟩ (by decide) ⟨Sub.refl _, trivial⟩ rfl rfl rfl rfl rfl rfl rfl ?_
  repeat (first | refine thenA_normal ?_ | refine r_done ?_)
  refine awp_cut ⟨[rdP L (n4 L j3), tB tk0, tB (nTa (!nDot L j2 && !nEx L j3) (nS L i) 0)], [(0, .ptr 0 0), (2, .ptr 1 0), (3, .val (.int .i64 i)), (4, .ptr 2 0)]⟩ ?_ ?_
  · refine awp_cond rfl (fun h => ?_) (fun h => ?_)
    · have hx : nEx L j3 = true := h
      rw [hx, Bool.not_true, Bool.and_false]
      repeat (first | refine a_region ?_ | refine r_done ?_ | (refine r_id ?_; first | refine r_ev tab_ok rfl rfl rfl rfl byE rfl ?_ | refine r_st tab_ok rfl rfl rfl rfl ?_))
      exact ⟨rfl, fits_convM byV byV ⟨trivial, trivial⟩⟩
    · have hx : nEx L j3 = false := h
      rw [hx, Bool.not_false, Bool.and_true]
      repeat (first | refine awp_skip ?_)
      exact ⟨rfl, fits_convM byV byV ⟨trivial, trivial⟩⟩
  have hW : nW L i = (!nDot L j2 && !nEx L j3) := by rw [nW, hj2, hj3]
  have hP : nP L i = n4 L j3 := by rw [nP, hj2, hj3]
  have hj24 : (!nDot L j2 && !nEx L j3) = true → n4 L j3 = j2 := fun h => by
    rw [Bool.and_eq_true, Bool.not_eq_true', Bool.not_eq_true'] at h
    rw [n4, h.2, if_neg Bool.false_ne_true, ← hj3, n3, h.1, if_neg Bool.false_ne_true]
  have hcutT : (L.take j2).drop i = nT L i := by rw [← hj2]; exact nT_take L hi
  rw [numF, hP]
  have hji : i ≤ n4 L j3 := by omega
  generalize hj4 : n4 L j3 = j4 at h4 hj24 hji
  generalize (!nDot L j2 && !nEx L j3) = wh at hW hj24
  repeat (first | refine awp_seq ?_ | refine thenA_normal ?_ | refine a_region ?_ | refine r_done ?_ | (refine r_id ?_; first | refine r_ev tab_ok rfl rfl rfl rfl byE rfl ?_ | refine r_ld tab_ok rfl rfl rfl rfl rfl ?_))
  refine awp_cut ⟨[rdP L j4, tB tk0, tB (nTa wh (nS L i) (if wh = true then intF (runesBytes (nT L i)) else 0))], [(0, .ptr 0 0), (2, .ptr 1 0), (4, .ptr 2 0)]⟩ ?_ ?_
  · refine awp_cond rfl (fun h => ?_) (fun h => ?_)
    · subst h
      have e24 := hj24 rfl
      subst e24
      rw [if_pos rfl]
      refine a_draw mixed_ok (List.replicate 13 1 ++ [2]) (by kernel_rfl) ?_
      repeat (first | (refine r_id ?_; first | refine r_ev tab_ok rfl rfl rfl rfl byE rfl ?_ | refine r_ld tab_ok rfl rfl rfl rfl rfl ?_ | refine r_nilck rfl rfl rfl rfl rfl rfl rfl ?_))
      refine r_cut tab_ok rfl rfl rfl rfl rfl rfl rfl rfl (by show (0 : Int) ≤ (i : Int) ∧ (i : Int) ≤ ((j4 : Nat) : Int) ∧ ((j4 : Nat) : Int) ≤ (L.length : Int); omega) rfl ?_
      refine r_id ?_
      refine r_rsstr tab_ok rfl rfl rfl rfl rfl rfl (i32s_map _) rfl rfl rfl ?_
      refine r_call (show PCalls Tryz.prog 100 [.val (.string (runesBytes ((L.take ((j4 : Nat) : Int).toNat).drop ((i : Nat) : Int).toNat)))] (.val (.int .i64 (intF (runesBytes (nT L i))))) by
        simp only [Int.toNat_natCast]
        rw [hcutT]
        exact pint_ok (runesBytes (nT L i)) (by omega)) call100 rfl rfl ⟨Sub.refl _, trivial⟩ rfl rfl rfl rfl ?_
      repeat (first | refine r_done' ?_ | (refine r_id ?_; first | refine r_ev tab_ok rfl rfl rfl rfl byE rfl ?_ | refine r_st tab_ok rfl rfl rfl rfl ?_))
      exact ⟨rfl, fits_convM byV byV ⟨trivial, trivial⟩⟩
    · subst h
      rw [if_neg (by decide)]
      repeat (first | refine awp_skip ?_)
      exact ⟨rfl, fits_convM byV byV ⟨trivial, trivial⟩⟩
  have hT : nTk L i = { nTa wh (nS L i) (if wh = true then intF (runesBytes (nT L i)) else 0) with kind := 10 } := by rw [nTk, hW]; rfl
  rw [hT]
  generalize nTa wh (nS L i) (if wh = true then intF (runesBytes (nT L i)) else 0) = t
  repeat (first | refine awp_seq ?_ | refine thenA_normal ?_ | refine awp_block ?_ | refine a_region ?_ | refine r_done ?_ | (refine r_id ?_; first | refine r_ev tab_ok rfl rfl rfl rfl byE rfl ?_) | refine r_mro [0] (pbegins_ok _ _ _ hL (by omega) (by omega)) call72 rfl rfl ⟨rfl, trivial⟩ (by decide) ⟨Sub.refl _, Sub.refl _, trivial⟩ rfl rfl rfl rfl rfl rfl ?_)
  rw [Int.add_zero]
  refine awp_cond rfl (fun h => ?_) (fun h => ?_)
  · rw [if_pos h]
    repeat (first | refine a_region ?_ | (refine r_id ?_; first | refine r_ev tab_ok rfl rfl rfl rfl byE rfl ?_))
    refine r_mcall [0] (pname_ok L j4 hL hN h4.2) call101 rfl rfl ⟨rfl, trivial⟩ (by decide) ⟨Sub.refl _, trivial⟩ rfl rfl rfl rfl rfl rfl rfl ?_
    repeat (first | refine awp_seq ?_ | refine thenA_normal ?_ | refine a_region ?_ | refine awp_ret ?_ | refine r_done ?_ | (refine r_id ?_; first | refine r_ev tab_ok rfl rfl rfl rfl byE rfl ?_ | refine r_ld tab_ok rfl rfl rfl rfl rfl ?_ | refine r_st tab_ok rfl rfl rfl rfl ?_))
    exact retM1c tab_ok byO rfl rfl rfl rfl rfl rfl rfl rfl (Sub.refl _)
  · rw [if_neg (by rw [h]; decide)]
    repeat (first | refine awp_seq ?_ | refine thenA_normal ?_ | refine a_region ?_ | refine r_done ?_ | (refine r_id ?_; first | refine r_ev tab_ok rfl rfl rfl rfl byE rfl ?_) | refine r_mro [0] (see_ok _ _ _ hL (by omega) (by omega)) call66 rfl rfl ⟨rfl, trivial⟩ (by decide) ⟨Sub.refl _, Sub.refl _, trivial⟩ rfl rfl rfl rfl rfl rfl ?_)
    rw [Int.add_zero]
    refine awp_cond_p rfl (fun h5 => ?_) (fun h5 => ?_)
    · rw [if_pos h5]
      have hin : j4 < L.length := sg_in (by rw [h5]; decide)
      repeat (first | refine awp_seq ?_ | refine thenA_normal ?_ | refine a_region ?_ | refine awp_ret ?_ | refine r_done ?_ | (refine r_id ?_; first | refine r_ev tab_ok rfl rfl rfl rfl byE rfl ?_ | refine r_ld tab_ok rfl rfl rfl rfl rfl ?_ | refine r_st tab_ok rfl rfl rfl rfl ?_ | refine r_nilck rfl rfl rfl rfl rfl rfl rfl ?_))
      exact retM1c tab_ok byO rfl rfl rfl rfl rfl rfl rfl rfl (Sub.refl _)
    · rw [if_neg h5]
      repeat (first | refine awp_seq ?_ | refine thenA_normal ?_ | refine a_region ?_ | refine awp_ret ?_ | refine r_done ?_ | (refine r_id ?_; first | refine r_ev tab_ok rfl rfl rfl rfl byE rfl ?_ | refine r_ld tab_ok rfl rfl rfl rfl rfl ?_ | refine r_st tab_ok rfl rfl rfl rfl ?_))
      exact retM1c tab_ok byO rfl rfl rfl rfl rfl rfl rfl rfl (Sub.refl _)
end Go.Proofs.YtiolnmfaeenlmaaGreatDoor

/- The program's reader: strings, urls. -/
namespace Go.Proofs.YtiolnmfaeenlmaaGreatDoor
open Go Go.RowKit
set_option maxRecDepth 20000

set_option maxHeartbeats 8000000 in
theorem ptext_ok (L : List Int) (i0 : Nat) (hL : L.length ≤ 1099511627776) (hN : ∀ x ∈ L, 0 ≤ x) (hi : i0 < L.length) : MCalls Tryz.prog 68 [rdP L i0] [.ptr 0 0] [rdP L (quoF (sg L i0) L (i0 + 1)).2] (tA (quoF (sg L i0) L (i0 + 1)).1) := by
  refine m_start Tryz.func68 Tryz.ntmps68 rfl rfl rfl fun S w β => ?_
  have hq0 : sg L i0 ≠ -1 := fun h => by
    have := sg_neg hN i0
    rw [sg, dif_pos ⟨by omega, by simpa using hi⟩] at h
    have := hN _ (List.getElem_mem (by simpa using hi : (i0 : Int).toNat < L.length))
    omega
  repeat (first | refine awp_seq ?_ | refine thenA_normal ?_ | refine awp_block ?_ | refine a_region ?_ | refine r_done ?_ | (refine r_id ?_; first | refine r_ev tab_ok rfl rfl rfl rfl byE rfl ?_ | refine r_ld tab_ok rfl rfl rfl rfl rfl ?_ | refine r_wr tab_ok rfl rfl rfl rfl rfl ?_ | refine r_st tab_ok rfl rfl rfl rfl ?_ | refine r_nilck rfl rfl rfl rfl rfl rfl rfl ?_) | refine r_mro [0] (see_ok _ _ _ hL (by omega) (by omega)) call66 rfl rfl ⟨rfl, trivial⟩ (by decide) ⟨Sub.refl _, Sub.refl _, trivial⟩ rfl rfl rfl rfl rfl rfl ?_)
  rw [Int.add_zero]
  generalize sg L i0 = q at hq0 ⊢
  refine a_loop (σ := GS L.length (qStep q L) (i0 + 1)) (fun x => [rdP L x.i, tB tk0, .box 89 [.alt (.val (.pointer none)) (.ptr 2 0), .row 3 0], .row 0 5 1 ((rbL x.out).map bD)]) (fun x => [(0, .ptr 0 0), (2, .ptr 1 0), (3, .val (.int .i32 q)), (4, .ptr 2 0)]) (fun x => L.length - x.i) (GS.start hi) (fits_convM byV byV ⟨trivial, trivial⟩) ?_
  intro x
  have hle := x.le
  have hlen := x.len
  have hsz := runesBytes_size_le x.out
  have hs1 := runesBytes_size_le [sg L x.i]
  have hs1' : [sg L x.i].length = 1 := rfl
  have hs2 := runesBytes_size_le [(escE L (x.i + 1)).1]
  have hs2' : [(escE L (x.i + 1)).1].length = 1 := rfl
  have hrl := rb_len x.out
  have hng := sg_neg hN (x.i : Int)
  have hng1 := sg_neg hN ((x.i : Int) + 1)
  have hlm : (L.map rD).length = L.length := List.length_map _
  repeat (first | refine awp_seq ?_ | refine thenA_normal ?_ | refine awp_block ?_ | refine a_region ?_ | refine r_done ?_ | (refine r_id ?_; first | refine r_ev tab_ok rfl rfl rfl rfl byE rfl ?_ | refine r_ev_cnd tab_ok rfl rfl rfl rfl rfl rfl byC (by first | exact fun _ => trivial | (intro h; simp at h; first | exact ⟨by omega, by omega⟩ | omega)) rfl ?_ | refine r_or rfl rfl rfl rfl rfl rfl rfl rfl ?_) | refine r_mro [0] (see_ok _ _ _ hL (by omega) (by omega)) call66 rfl rfl ⟨rfl, trivial⟩ (by decide) ⟨Sub.refl _, Sub.refl _, trivial⟩ rfl rfl rfl rfl rfl rfl ?_)
  rw [Int.add_zero]
  refine awp_cond rfl (fun h => ?_) (fun h => ?_)
  · rw [Bool.or_eq_true, decide_eq_true_eq, decide_eq_true_eq] at h
    by_cases a1 : sg L x.i < 0
    · have hst : qStep q L x.i = .inr (x.i, true) := by rw [qStep, if_pos a1]
      have hxl : x.i = L.length := by
        rcases Nat.lt_or_ge x.i L.length with h2 | h2
        · rw [sg, dif_pos ⟨by omega, by simpa using h2⟩] at a1
          have := hN _ (List.getElem_mem (by simpa using h2 : (x.i : Int).toNat < L.length))
          omega
        · omega
      rw [quoF, quoE, x.stop hst]
      repeat (first | refine awp_seq ?_)
      refine a_draw mixed_ok (List.replicate 14 1 ++ [2]) (by kernel_rfl) ?_
      repeat (first | refine awp_seq ?_ | refine a_region ?_ | refine r_done' ?_ | (refine r_id ?_; first | refine r_len tab_ok rfl rfl rfl rfl rfl rfl rfl ?_ | refine r_ev tab_ok rfl rfl rfl rfl byE rfl ?_ | refine r_ld tab_ok rfl rfl rfl rfl rfl ?_ | refine r_st tab_ok rfl rfl rfl rfl ?_ | refine r_nilck rfl rfl rfl rfl rfl rfl rfl ?_))
      rw [show (min ((x.i : Int) + 1) (L.length : Int)) = ((x.i : Nat) : Int) by omega]
      refine r_mcall [2, 3] (string_ok 0 (rbL x.out) (by omega)) call59 rfl rfl ⟨rfl, rfl, trivial⟩ (by decide) ⟨Sub.refl _, trivial⟩ rfl rfl rfl rfl rfl rfl rfl ?_
      repeat (first | refine thenA_normal ?_ | refine awp_ret ?_ | refine thenA_ret ?_ | refine blockA_ret ?_ | refine r_done ?_ | (refine r_id ?_; first | refine r_st tab_ok rfl rfl rfl rfl ?_ | refine r_build tab_ok rfl rfl rfl rfl rfl rfl ?_))
      exact retM1c tab_ok byO rfl rfl rfl rfl rfl rfl rfl rfl (Sub.refl _)
    · have a2 : sg L x.i = q := by omega
      have hst : qStep q L x.i = .inr (x.i + 1, true) := by rw [qStep, if_neg a1, if_pos a2]
      have hin := sg_ge (L := L) (i := x.i) (by omega)
      rw [quoF, quoE, x.stop hst]
      repeat (first | refine awp_seq ?_)
      refine a_draw mixed_ok (List.replicate 14 1 ++ [2]) (by kernel_rfl) ?_
      repeat (first | refine awp_seq ?_ | refine a_region ?_ | refine r_done' ?_ | (refine r_id ?_; first | refine r_len tab_ok rfl rfl rfl rfl rfl rfl rfl ?_ | refine r_ev tab_ok rfl rfl rfl rfl byE rfl ?_ | refine r_ld tab_ok rfl rfl rfl rfl rfl ?_ | refine r_st tab_ok rfl rfl rfl rfl ?_ | refine r_nilck rfl rfl rfl rfl rfl rfl rfl ?_))
      rw [show (min ((x.i : Int) + 1) (L.length : Int)) = ((x.i + 1 : Nat) : Int) by omega]
      refine r_mcall [2, 3] (string_ok 0 (rbL x.out) (by omega)) call59 rfl rfl ⟨rfl, rfl, trivial⟩ (by decide) ⟨Sub.refl _, trivial⟩ rfl rfl rfl rfl rfl rfl rfl ?_
      repeat (first | refine thenA_normal ?_ | refine awp_ret ?_ | refine thenA_ret ?_ | refine blockA_ret ?_ | refine r_done ?_ | (refine r_id ?_; first | refine r_st tab_ok rfl rfl rfl rfl ?_ | refine r_build tab_ok rfl rfl rfl rfl rfl rfl ?_))
      exact retM1c tab_ok byO rfl rfl rfl rfl rfl rfl rfl rfl (Sub.refl _)
  rw [Bool.or_eq_false_iff, decide_eq_false_iff_not, decide_eq_false_iff_not] at h
  have a1 : ¬ sg L x.i < 0 := by omega
  have a2 : ¬ sg L x.i = q := h.1
  have hin := sg_ge (L := L) (i := x.i) (by omega)
  repeat (first | refine awp_seq ?_ | refine thenA_normal ?_ | refine a_region ?_ | refine r_done ?_ | (refine r_id ?_; first | refine r_ev tab_ok rfl rfl rfl rfl byE rfl ?_))
  refine awp_cond_p rfl (fun a3 => ?_) (fun a3 => ?_)
  · have hst : qStep q L x.i = .inr (x.i, false) := by rw [qStep, if_neg a1, if_neg a2, if_pos a3]
    rw [quoF, quoE, x.stop hst]
    repeat (first | refine awp_seq ?_ | refine thenA_normal ?_ | refine a_region ?_ | refine awp_ret ?_ | refine thenA_ret ?_ | refine blockA_ret ?_ | refine r_done ?_ | (refine r_id ?_; first | refine r_st tab_ok rfl rfl rfl rfl ?_ | refine r_build tab_ok rfl rfl rfl rfl rfl rfl ?_))
    exact retM1c tab_ok byO rfl rfl rfl rfl rfl rfl rfl rfl (Sub.refl _)
  repeat (first | refine awp_seq ?_ | refine thenA_normal ?_ | refine a_region ?_ | refine r_done ?_ | (refine r_id ?_; first | refine r_ev tab_ok rfl rfl rfl rfl byE rfl ?_))
  refine awp_cond rfl (fun a4 => ?_) (fun a4 => ?_)
  · have a4' : ¬ sg L x.i = 92 := by simpa using a4
    have hst : qStep q L x.i = .inl ([sg L x.i], x.i + 1) := by rw [qStep, if_neg a1, if_neg a2, if_neg a3, if_neg (fun h => a4' h.1), if_neg (fun h => a4' h.1), if_neg a4']
    repeat (first | refine awp_seq ?_ | refine a_region ?_ | (refine r_id ?_; first | refine r_ev tab_ok rfl rfl rfl rfl byE rfl ?_) | refine r_call (pPut _) call95 rfl rfl ⟨Sub.refl _, trivial⟩ rfl rfl rfl rfl ?_)
    refine r_mcall [2, 3] (writeS_ok 0 (rbL x.out) (runesBytes [sg L x.i]) (by omega)) call94 rfl rfl ⟨rfl, rfl, trivial⟩ (by decide) ⟨Sub.refl _, Sub.refl _, trivial⟩ rfl rfl rfl rfl rfl rfl rfl ?_
    repeat (first | refine thenA_normal ?_ | refine a_region ?_ | refine blockA_normal ?_ | refine r_done ?_ | (refine r_id ?_; first | refine r_ev tab_ok rfl rfl rfl rfl byE rfl ?_ | refine r_ld tab_ok rfl rfl rfl rfl rfl ?_ | refine r_st tab_ok rfl rfl rfl rfl ?_ | refine r_nilck rfl rfl rfl rfl rfl rfl rfl ?_))
    refine ⟨x.next (qStep_goes q L) hst, by dsimp only [GS.next]; omega, ?_⟩
    dsimp only [GS.next]
    rw [rb_app]
    exact fits_convM byV byV ⟨trivial, trivial⟩
  have a4' : sg L x.i = 92 := by simpa using a4
  repeat (first | refine awp_seq ?_ | refine thenA_normal ?_ | refine a_region ?_ | refine r_done ?_ | (refine r_id ?_; first | refine r_ev tab_ok rfl rfl rfl rfl byE rfl ?_) | refine r_mro [0] (see_ok _ _ _ hL (by omega) (by omega)) call66 rfl rfl ⟨rfl, trivial⟩ (by decide) ⟨Sub.refl _, Sub.refl _, trivial⟩ rfl rfl rfl rfl rfl rfl ?_)
  refine awp_cond_p rfl (fun a5 => ?_) (fun a5 => ?_)
  · have hst : qStep q L x.i = .inl ([], x.i + 1) := by rw [qStep, if_neg a1, if_neg a2, if_neg a3, if_pos ⟨a4', by omega⟩]
    repeat (first | refine thenA_normal ?_ | refine a_region ?_ | refine blockA_normal ?_ | refine r_done ?_ | (refine r_id ?_; first | refine r_ev tab_ok rfl rfl rfl rfl byE rfl ?_ | refine r_ld tab_ok rfl rfl rfl rfl rfl ?_ | refine r_st tab_ok rfl rfl rfl rfl ?_ | refine r_nilck rfl rfl rfl rfl rfl rfl rfl ?_))
    refine ⟨x.next (qStep_goes q L) hst, by dsimp only [GS.next]; omega, ?_⟩
    dsimp only [GS.next]
    rw [List.append_nil]
    exact fits_convM byV byV ⟨trivial, trivial⟩
  have a5' : ¬ sg L ((x.i : Int) + 1) < 0 := by omega
  repeat (first | refine awp_seq ?_ | refine thenA_normal ?_ | refine a_region ?_ | refine r_done ?_ | (refine r_id ?_; first | refine r_ev tab_ok rfl rfl rfl rfl byE rfl ?_) | refine r_mro [0] (see_ok _ _ _ hL (by omega) (by omega)) call66 rfl rfl ⟨rfl, trivial⟩ (by decide) ⟨Sub.refl _, Sub.refl _, trivial⟩ rfl rfl rfl rfl rfl rfl ?_)
  refine awp_cond_p rfl (fun a6 => ?_) (fun a6 => ?_)
  · have hst : qStep q L x.i = .inl ([], x.i + 2) := by rw [qStep, if_neg a1, if_neg a2, if_neg a3, if_neg (fun h => a5' h.2), if_pos ⟨a4', a6⟩]
    have hg := qStep_goes q L _ _ _ hle hst
    repeat (first | refine thenA_normal ?_ | refine a_region ?_ | refine blockA_normal ?_ | refine r_done ?_ | (refine r_id ?_; first | refine r_ev tab_ok rfl rfl rfl rfl byE rfl ?_ | refine r_ld tab_ok rfl rfl rfl rfl rfl ?_ | refine r_st tab_ok rfl rfl rfl rfl ?_ | refine r_nilck rfl rfl rfl rfl rfl rfl rfl ?_))
    refine ⟨x.next (qStep_goes q L) hst, by dsimp only [GS.next]; omega, ?_⟩
    dsimp only [GS.next]
    rw [List.append_nil]
    exact fits_convM byV byV ⟨trivial, trivial⟩
  have hst : qStep q L x.i = .inl ([(escE L (x.i + 1)).1], (escE L (x.i + 1)).2) := by rw [qStep, if_neg a1, if_neg a2, if_neg a3, if_neg (fun h => a5' h.2), if_neg (fun h => a6 h.2), if_pos a4']
  have hg := qStep_goes q L _ _ _ hle hst
  repeat (first | refine a_region ?_ | (refine r_id ?_; first | refine r_ev tab_ok rfl rfl rfl rfl byE rfl ?_))
  refine r_mcall [0] (pescape_ok L x.i hL hN hin) call96 rfl rfl ⟨rfl, trivial⟩ (by decide) ⟨Sub.refl _, trivial⟩ rfl rfl rfl rfl rfl rfl rfl ?_
  refine r_mcall [2, 3] (writeS_ok 0 (rbL x.out) (runesBytes [(escE L (x.i + 1)).1]) (by omega)) call94 rfl rfl ⟨rfl, rfl, trivial⟩ (by decide) ⟨Sub.refl _, Sub.refl _, trivial⟩ rfl rfl rfl rfl rfl rfl rfl ?_
  repeat (first | refine thenA_normal ?_ | refine blockA_normal ?_ | refine r_done ?_)
  refine ⟨x.next (qStep_goes q L) hst, by dsimp only [GS.next]; omega, ?_⟩
  dsimp only [GS.next]
  rw [rb_app]
  exact fits_convM byV byV ⟨trivial, trivial⟩
set_option maxHeartbeats 8000000 in
theorem pbad_ok (L : List Int) (i : Nat) (hL : L.length ≤ 1099511627776) (hN : ∀ x ∈ L, 0 ≤ x) (hi : i ≤ L.length) : MCalls Tryz.prog 115 [rdP L i] [.ptr 0 0] [rdP L (bEnd L i)] (tA (tkK 8 ⟨#[]⟩)) := by
  refine m_start Tryz.func115 Tryz.ntmps115 rfl rfl rfl fun S w β => ?_
  have hlm : (L.map rD).length = L.length := List.length_map _
  repeat (first | refine awp_seq ?_ | refine awp_block ?_ | refine a_region ?_ | refine r_done ?_ | (refine r_id ?_; first | refine r_wr tab_ok rfl rfl rfl rfl rfl ?_))
  refine a_loop (σ := GS L.length (bStep L) i) (fun x => [rdP L x.i, tB tk0]) (fun x => [(0, .ptr 0 0), (2, .ptr 1 0)]) (fun x => L.length - x.i) (GS.start hi) (fits_convM byV byV ⟨trivial, trivial⟩) ?_
  intro x
  have hle := x.le
  have hng := sg_neg hN (x.i : Int)
  repeat (first | refine awp_seq ?_ | refine thenA_normal ?_ | refine a_region ?_ | refine r_done ?_ | (refine r_id ?_; first | refine r_ev tab_ok rfl rfl rfl rfl byE rfl ?_ | refine r_ev_cnd tab_ok rfl rfl rfl rfl rfl rfl byC (by first | exact fun _ => trivial | (intro h; simp at h; first | exact ⟨by omega, by omega⟩ | omega)) rfl ?_ | refine r_and rfl rfl rfl rfl rfl rfl rfl rfl ?_) | refine r_mro [0] (see_ok _ _ _ hL (by omega) (by omega)) call66 rfl rfl ⟨rfl, trivial⟩ (by decide) ⟨Sub.refl _, Sub.refl _, trivial⟩ rfl rfl rfl rfl rfl rfl ?_ | refine r_mro_cnd [0] (fun _ => see_ok _ _ _ hL (by omega) (by omega)) call66 rfl rfl rfl rfl byC ⟨rfl, trivial⟩ (by decide) ⟨Sub.refl _, Sub.refl _, trivial⟩ rfl rfl rfl rfl rfl rfl ?_)
  rw [Int.add_zero]
  refine awp_cond rfl (fun h => ?_) (fun h => ?_)
  · have hb : 0 ≤ sg L x.i ∧ sg L x.i ≠ 41 := by
      simp only [Bool.and_eq_true, Bool.not_eq_true', decide_eq_false_iff_not] at h
      omega
    have hin := sg_ge hb.1
    repeat (first | refine awp_seq ?_ | refine thenA_normal ?_ | refine awp_block ?_ | refine a_region ?_ | refine awp_skip ?_ | refine r_done ?_ | (refine r_id ?_; first | refine r_ev tab_ok rfl rfl rfl rfl byE rfl ?_) | refine r_mro [0] (pescaped_ok _ _ _ hL (by omega) (by omega)) call103 rfl rfl ⟨rfl, trivial⟩ (by decide) ⟨Sub.refl _, Sub.refl _, trivial⟩ rfl rfl rfl rfl rfl rfl ?_)
    rw [Int.add_zero]
    refine awp_cond rfl (fun h2 => ?_) (fun h2 => ?_)
    · have hst : bStep L x.i = .inl ([], (escE L (x.i + 1)).2) := by rw [bStep, if_pos hb, if_pos h2]
      have hg := bStep_goes L _ _ _ hle hst
      repeat (first | refine awp_seq ?_ | refine a_region ?_ | (refine r_id ?_; first | refine r_ev tab_ok rfl rfl rfl rfl byE rfl ?_))
      refine r_mcall [0] (pescape_ok L x.i hL hN hin) call96 rfl rfl ⟨rfl, trivial⟩ (by decide) ⟨Sub.refl _, trivial⟩ rfl rfl rfl rfl rfl rfl rfl ?_
      repeat (first | refine thenA_normal ?_ | refine awp_exit ?_ | refine thenA_exit ?_ | refine blockA_hit rfl ?_ | refine r_done ?_)
      exact ⟨x.next (bStep_goes L) hst, by dsimp only [GS.next]; omega, fits_convM byV byV ⟨trivial, trivial⟩⟩
    · have hst : bStep L x.i = .inl ([], x.i + 1) := by rw [bStep, if_pos hb, if_neg (by rw [h2]; decide)]
      have hg := bStep_goes L _ _ _ hle hst
      repeat (first | refine thenA_normal ?_ | refine a_region ?_ | refine blockA_normal ?_ | refine awp_skip ?_ | refine r_done ?_ | (refine r_id ?_; first | refine r_ev tab_ok rfl rfl rfl rfl byE rfl ?_ | refine r_ld tab_ok rfl rfl rfl rfl rfl ?_ | refine r_st tab_ok rfl rfl rfl rfl ?_ | refine r_nilck rfl rfl rfl rfl rfl rfl rfl ?_))
      exact ⟨x.next (bStep_goes L) hst, by dsimp only [GS.next]; omega, fits_convM byV byV ⟨trivial, trivial⟩⟩
  · have hnb : ¬ (0 ≤ sg L x.i ∧ sg L x.i ≠ 41) := by
      simp only [Bool.and_eq_false_iff, Bool.not_eq_false', decide_eq_true_eq] at h
      omega
    have hst : bStep L x.i = .inr x.i := if_neg hnb
    have hb0 : bEnd0 L i = x.i := by rw [bEnd0, x.stop hst]; rfl
    have hbe : (min ((x.i : Int) + 1) (L.length : Int)) = ((bEnd L i : Nat) : Int) := by
      rw [bEnd, hb0]
      split
      · rename_i h41
        have := sg_ge (L := L) (i := x.i) (by omega)
        omega
      · rename_i h41
        have hxl : x.i = L.length := by
          rcases Nat.lt_or_ge x.i L.length with h2 | h2
          · exfalso
            have h3 : sg L x.i = -1 := by omega
            rw [sg, dif_pos ⟨by omega, by simpa using h2⟩] at h3
            have := hN _ (List.getElem_mem (by simpa using h2 : (x.i : Int).toNat < L.length))
            omega
          · omega
        omega
    repeat (first | refine awp_seq ?_ | refine awp_exit ?_)
    refine a_draw mixed_ok (List.replicate 14 1 ++ [2]) (by kernel_rfl) ?_
    repeat (first | refine awp_seq ?_ | refine thenA_normal ?_ | refine a_region ?_ | refine awp_ret ?_ | refine r_done ?_ | refine r_done' ?_ | (refine r_id ?_; first | refine r_len tab_ok rfl rfl rfl rfl rfl rfl rfl ?_ | refine r_ev tab_ok rfl rfl rfl rfl byE rfl ?_ | refine r_ld tab_ok rfl rfl rfl rfl rfl ?_ | refine r_st tab_ok rfl rfl rfl rfl ?_ | refine r_build tab_ok rfl rfl rfl rfl rfl rfl ?_ | refine r_nilck rfl rfl rfl rfl rfl rfl rfl ?_))
    rw [hbe]
    exact retM1c tab_ok byO rfl rfl rfl rfl rfl rfl rfl rfl (Sub.refl _)
end Go.Proofs.YtiolnmfaeenlmaaGreatDoor
