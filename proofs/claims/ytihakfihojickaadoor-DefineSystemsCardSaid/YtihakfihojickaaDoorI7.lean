import Derived.Test.YtihakfihojickaaDoorU7
import Derived.Test.YtihakfihojickaaDoorI4
import Derived.Test.YtihakfihojickaaDoorP8
/- system.May; walked. -/
namespace Go.Proofs.YtihakfihojickaaDoor
open Go Go.RowKit
set_option maxRecDepth 20000

def cyclicS : ByteArray := ⟨#[99, 121, 99, 108, 105, 99]⟩
def symbolicS : ByteArray := ⟨#[115, 121, 109, 98, 111, 108, 105, 99]⟩
def fixedS : ByteArray := ⟨#[102, 105, 120, 101, 100]⟩
def alphabeticS : ByteArray := ⟨#[97, 108, 112, 104, 97, 98, 101, 116, 105, 99]⟩
def numericS : ByteArray := ⟨#[110, 117, 109, 101, 114, 105, 99]⟩
def additiveS : ByteArray := ⟨#[97, 100, 100, 105, 116, 105, 118, 101]⟩
def extendsS : ByteArray := ⟨#[101, 120, 116, 101, 110, 100, 115]⟩

theorem long_ok (s : ByteArray) : PCalls Tryd.prog 19 [.val (.string s)] (.val (.bool (decide (100 < (s.size : Int))))) := by
  refine p_start Tryd.func19 Tryd.ntmps19 rfl rfl rfl fun S w => ?_
  repeat (first | refine awp_seq ?_ | refine thenA_normal ?_ | refine a_region ?_ | refine awp_ret ?_ | refine r_done ?_ | (refine r_id ?_; first | refine r_ev tab_ok rfl rfl rfl rfl byE rfl ?_) | refine ret1 byO rfl rfl rfl ?_)
  exact Sub.refl _
theorem mayr_ok (r : Int × Int) : PCalls Tryd.prog 21 [.agg [.val (.int .i64 r.1), .val (.int .i64 r.2)]] (.val (.bool (decide (r.2 < r.1) || decide (r.1 < -2147483648) || decide (2147483647 < r.2)))) := by
  refine p_start Tryd.func21 Tryd.ntmps21 rfl rfl rfl fun S w => ?_
  repeat (first | refine awp_seq ?_ | refine thenA_normal ?_ | refine a_region ?_ | refine awp_ret ?_ | refine r_done ?_ | (refine r_id ?_; first | refine r_ev tab_ok rfl rfl rfl rfl byE rfl ?_ | refine r_ld tab_ok rfl rfl rfl rfl rfl ?_ | refine r_wr tab_ok rfl rfl rfl rfl rfl ?_ | refine r_ev_cnd tab_ok rfl rfl rfl rfl rfl rfl byC (by first | exact fun _ => trivial | (intro h; simp at h; first | exact ⟨by omega, by omega⟩ | omega)) rfl ?_ | refine r_ld_cnd tab_ok rfl rfl rfl rfl rfl rfl byC rfl ?_ | refine r_or rfl rfl rfl rfl rfl rfl rfl rfl ?_ | refine r_idxa tab_ok rfl rfl rfl rfl (by decide) rfl rfl rfl rfl ?_ | refine r_idxa_cnd tab_ok rfl rfl rfl rfl rfl rfl (by decide) rfl rfl rfl byC rfl ?_) | refine ret1 byO rfl rfl rfl ?_)
  exact Sub.refl _
/-- Weights that fall. -/
def fallF : List Int → Bool
  | [] => true
  | [a] => decide (0 ≤ a)
  | a :: b :: r => decide (0 ≤ a) && decide (b < a) && fallF (b :: r)
def fallAt (l : List Int) (i : Nat) : Bool := decide (0 ≤ l.getD i 0) && (decide (i = 0) || decide (l.getD i 0 < l.getD (i - 1) 0))
theorem fall_all : ∀ (l : List Int), fallF l = (List.range l.length).all (fallAt l)
  | [] => rfl
  | [a] => by simp [fallF, fallAt, List.range_succ]
  | a :: b :: r => by
    rw [fallF, fall_all (b :: r)]
    rw [Bool.eq_iff_iff]
    simp only [Bool.and_eq_true, List.all_eq_true, List.mem_range, decide_eq_true_eq, fallAt, Bool.or_eq_true, List.length_cons]
    constructor
    · rintro ⟨⟨h1, h2⟩, h3⟩ i hi
      match i with
      | 0 => exact ⟨by simpa using h1, .inl rfl⟩
      | 1 => exact ⟨by have := (h3 0 (by omega)).1; simpa using this, .inr (by simpa using h2)⟩
      | i + 2 =>
        obtain ⟨h4, h5⟩ := h3 (i + 1) (by omega)
        exact ⟨by simpa using h4, .inr (by rcases h5 with h | h; omega; simpa using h)⟩
    · intro h
      refine ⟨⟨by simpa using (h 0 (by omega)).1, ?_⟩, fun i hi => ?_⟩
      · rcases (h 1 (by omega)).2 with h | h
        · omega
        · simpa using h
      · obtain ⟨h4, h5⟩ := h (i + 1) (by omega)
        refine ⟨by simpa using h4, ?_⟩
        rcases Nat.eq_zero_or_pos i with h0 | h0
        · exact .inl h0
        · obtain ⟨j, rfl⟩ : ∃ j, i = j + 1 := ⟨i - 1, by omega⟩
          rcases h5 with h | h
          · omega
          · exact .inr (by simpa using h)
theorem falling_ok (l : List Int) (hl : l.length ≤ 4611686018427387904) : PCalls Tryd.prog 32 [.sl 1 (l.map wtD)] (.val (.bool (fallF l))) := by
  refine p_start Tryd.func32 Tryd.ntmps32 rfl rfl rfl fun S w => ?_
  repeat (first | refine awp_seq ?_ | refine thenA_normal ?_ | refine awp_block ?_ | refine a_region ?_ | refine r_done ?_ | (refine r_id ?_; first | refine r_len tab_ok rfl rfl rfl rfl rfl rfl rfl ?_ | refine r_ev tab_ok rfl rfl rfl rfl byE rfl ?_))
  refine a_loop (σ := {i : Nat // i ≤ l.length ∧ (List.range i).all (fallAt l) = true}) (fun _ => []) (fun x => [(0, .sl 1 (l.map wtD)), (5, .sl 1 (l.map wtD)), (6, .val (.int .i64 l.length)), (7, .val (.int .i64 x.1))]) (fun x => l.length - x.1) ⟨0, by simp⟩
    (fits_of rfl ⟨Sub.refl _, Sub.refl _, Sub.refl _, Sub.refl _, trivial⟩) ?_
  rintro ⟨i, hi, hall⟩
  dsimp only
  repeat (first | refine awp_seq ?_ | refine a_region ?_ | refine r_done ?_ | (refine r_id ?_; first | refine r_ev tab_ok rfl rfl rfl rfl byE rfl ?_))
  refine awp_cond_p rfl (fun hlt => ?_) (fun hge => ?_)
  · have hi' : i < l.length := by omega
    have hg0 : l.getD i 0 = l[i] := by simp [hi']
    repeat (first | refine awp_seq ?_ | refine thenA_normal ?_ | refine awp_block ?_ | refine a_region ?_ | refine awp_skip ?_ | refine r_done ?_ | (refine r_id ?_; first | refine r_ev tab_ok rfl rfl rfl rfl byE rfl ?_ | refine r_idx tab_ok rfl rfl rfl rfl rfl rfl rfl (by first | exact ⟨by omega, by omega⟩ | (simp; omega)) rfl rfl ?_ | refine r_ev_cnd tab_ok rfl rfl rfl rfl rfl rfl byC (by first | exact fun _ => trivial | (intro h; simp at h; first | exact ⟨by omega, by omega⟩ | omega)) rfl ?_ | refine r_idx_cnd' tab_ok rfl rfl rfl rfl rfl rfl rfl byC rfl rfl (by first | (intro h; simp at h; exact ⟨by omega, by omega⟩) | (intro h; simp only [Bool.and_eq_true, Bool.or_eq_false_iff, beq_iff_eq, decide_eq_false_iff_not, decide_eq_true_eq] at h; exact ⟨by omega, by omega⟩)) rfl rfl ?_ | refine r_and_cnd rfl rfl rfl rfl rfl rfl rfl rfl rfl rfl ?_ | refine r_or rfl rfl rfl rfl rfl rfl rfl rfl ?_))
    simp only [Int.toNat_natCast]
    refine awp_cond rfl (fun hb => ?_) (fun hb => ?_)
    · repeat (first | refine awp_seq ?_ | refine thenA_normal ?_ | refine a_region ?_ | refine awp_ret ?_ | refine thenA_ret ?_ | refine blockA_ret ?_ | refine r_done ?_ | (refine r_id ?_; first | refine r_ev tab_ok rfl rfl rfl rfl byE rfl ?_) | refine ret1 byO rfl rfl rfl ?_)
      exact Sub.of_eq (by
        have : fallF l = false := by
          rw [fall_all, Bool.eq_false_iff]
          intro h
          rw [List.all_eq_true] at h
          have h1 := h i (List.mem_range.2 hi')
          simp only [fallAt, hg0, Bool.and_eq_true, Bool.or_eq_true, decide_eq_true_eq] at h1
          simp only [Bool.or_eq_true, Bool.and_eq_true, decide_eq_true_eq] at hb
          rcases hb with hb | ⟨hb, hb2⟩
          · omega
          · have e1 : (((i : Int) - 1).toNat) = i - 1 := by omega
            rw [e1] at hb2
            have e2 : l.getD (i - 1) default = l.getD (i - 1) 0 := rfl
            rw [e2] at hb2
            omega
        rw [this])
    · have hs : (List.range (i + 1)).all (fallAt l) = true := by
        rw [List.range_succ, List.all_append, hall]
        simp only [Bool.or_eq_false_iff, Bool.and_eq_false_iff, decide_eq_false_iff_not] at hb
        simp only [List.all_cons, List.all_nil, Bool.and_true, Bool.true_and, fallAt, hg0, Bool.and_eq_true, Bool.or_eq_true, decide_eq_true_eq]
        refine ⟨by omega, ?_⟩
        rcases hb.2 with h | h
        · exact .inl (by omega)
        · right
          have e1 : (((i : Int) - 1).toNat) = i - 1 := by omega
          rw [e1] at h
          have e2 : l.getD (i - 1) default = l.getD (i - 1) 0 := rfl
          rw [e2] at h
          omega
      repeat (first | refine thenA_normal ?_ | refine a_region ?_ | refine awp_skip ?_ | refine r_done ?_ | (refine r_id ?_; first | refine r_ev tab_ok rfl rfl rfl rfl byE rfl ?_))
      exact ⟨⟨i + 1, by omega, hs⟩, by dsimp only; omega, fits_of rfl ⟨Sub.refl _, Sub.refl _, Sub.refl _, Sub.refl _, trivial⟩⟩
  · have : i = l.length := by omega
    subst this
    repeat (first | refine awp_seq ?_ | refine thenA_normal ?_ | refine a_region ?_ | refine awp_ret ?_ | refine awp_exit ?_ | refine r_done ?_ | (refine r_id ?_; first | refine r_ev tab_ok rfl rfl rfl rfl byE rfl ?_) | refine ret1 byO rfl rfl rfl ?_)
    exact Sub.of_eq (by rw [fall_all, hall])
theorem find_str_ok (l : List ByteArray) (p : ByteArray → Bool) (f : FuncId) (caps : List AV) (hl : l.length ≤ 4611686018427387904) (hcall : Callable Tryd.prog f) (hcf : AV.frees caps = true) (hp : ∀ s ∈ l, PCalls Tryd.prog f (.val (.string s) :: caps) (.val (.bool (p s)))) :
    PCalls Tryd.prog 33 [.sl 1 (l.map sF), .cl f caps] (.val (.int .i64 (findR p l))) := by
  refine p_start Tryd.func33 Tryd.ntmps33 rfl rfl rfl fun S w => ?_
  repeat (first | refine awp_seq ?_ | refine thenA_normal ?_ | refine awp_block ?_ | refine a_region ?_ | refine r_done ?_ | (refine r_id ?_; first | refine r_len tab_ok rfl rfl rfl rfl rfl rfl rfl ?_ | refine r_ev tab_ok rfl rfl rfl rfl byE rfl ?_))
  refine a_loop (σ := {i : Nat // i ≤ l.findIdx p}) (fun _ => []) (fun x => [(0, .sl 1 (l.map sF)), (1, .cl f caps), (7, .val (.int .i64 l.length)), (8, .val (.int .i64 x.1))]) (fun x => l.length - x.1) ⟨0, Nat.zero_le _⟩
    (fits_of rfl ⟨Sub.refl _, Sub.refl _, Sub.refl _, Sub.refl _, trivial⟩) ?_
  rintro ⟨i, hi⟩
  dsimp only
  have hle := List.findIdx_le_length (p := p) (xs := l)
  repeat (first | refine awp_seq ?_ | refine a_region ?_ | refine r_done ?_ | (refine r_id ?_; first | refine r_ev tab_ok rfl rfl rfl rfl byE rfl ?_))
  refine awp_cond_p rfl (fun hlt => ?_) (fun hge => ?_)
  · have hi' : i < l.length := by omega
    repeat (first | refine awp_seq ?_ | refine awp_block ?_ | refine a_region ?_ | refine awp_skip ?_ | refine r_done ?_ | (refine r_id ?_; first | refine r_ev tab_ok rfl rfl rfl rfl byE rfl ?_ | refine r_idx tab_ok rfl rfl rfl rfl rfl rfl rfl (by first | exact ⟨by omega, by omega⟩ | (simp; omega)) rfl rfl ?_))
    simp only [Int.toNat_natCast]
    refine r_callv (hp l[i] (List.getElem_mem hi')) hcall rfl rfl rfl ⟨Sub.refl _, subs_refl _⟩ (by simp [AV.frees, AV.free, hcf]) rfl rfl rfl ?_
    repeat (first | refine thenA_normal ?_ | refine r_done ?_)
    refine awp_cond rfl (fun hb => ?_) (fun hb => ?_)
    · repeat (first | refine awp_seq ?_ | refine thenA_normal ?_ | refine a_region ?_ | refine awp_ret ?_ | refine thenA_ret ?_ | refine blockA_ret ?_ | refine r_done ?_ | (refine r_id ?_; first | refine r_ev tab_ok rfl rfl rfl rfl byE rfl ?_) | refine ret1 byO rfl rfl rfl ?_)
      have : l.findIdx p = i := by
        rcases Nat.lt_or_eq_of_le hi with h | h
        · have := List.not_of_lt_findIdx h
          simp_all
        · exact h.symm
      exact Sub.of_eq (by rw [findR, if_pos (by omega), this])
    · have : l.findIdx p ≠ i := fun h => by
        have := List.findIdx_getElem (p := p) (xs := l) (w := by omega)
        simp only [h] at this
        simp_all
      repeat (first | refine thenA_normal ?_ | refine a_region ?_ | refine awp_skip ?_ | refine r_done ?_ | (refine r_id ?_; first | refine r_ev tab_ok rfl rfl rfl rfl byE rfl ?_))
      exact ⟨⟨i + 1, by omega⟩, by dsimp only; omega, fits_of rfl ⟨Sub.refl _, Sub.refl _, Sub.refl _, Sub.refl _, trivial⟩⟩
  · repeat (first | refine awp_seq ?_ | refine thenA_normal ?_ | refine a_region ?_ | refine awp_ret ?_ | refine awp_exit ?_ | refine r_done ?_ | (refine r_id ?_; first | refine r_ev tab_ok rfl rfl rfl rfl byE rfl ?_) | refine ret1 byO rfl rfl rfl ?_)
    exact Sub.of_eq (by rw [findR, if_neg (by omega)])
def rgA (r : Int × Int) : AV := .agg [.val (.int .i64 r.1), .val (.int .i64 r.2)]
theorem find_rng_ok (l : List (Int × Int)) (p : (Int × Int) → Bool) (f : FuncId) (caps : List AV) (hl : l.length ≤ 4611686018427387904) (hcall : Callable Tryd.prog f) (hcf : AV.frees caps = true) (hp : ∀ s ∈ l, PCalls Tryd.prog f (rgA s :: caps) (.val (.bool (p s)))) :
    PCalls Tryd.prog 34 [.sl 2 (l.map rgD), .cl f caps] (.val (.int .i64 (findR p l))) := by
  refine p_start Tryd.func34 Tryd.ntmps34 rfl rfl rfl fun S w => ?_
  repeat (first | refine awp_seq ?_ | refine thenA_normal ?_ | refine awp_block ?_ | refine a_region ?_ | refine r_done ?_ | (refine r_id ?_; first | refine r_len tab_ok rfl rfl rfl rfl rfl rfl rfl ?_ | refine r_ev tab_ok rfl rfl rfl rfl byE rfl ?_))
  refine a_loop (σ := {i : Nat // i ≤ l.findIdx p}) (fun _ => []) (fun x => [(0, .sl 2 (l.map rgD)), (1, .cl f caps), (7, .val (.int .i64 l.length)), (8, .val (.int .i64 x.1))]) (fun x => l.length - x.1) ⟨0, Nat.zero_le _⟩
    (fits_of rfl ⟨Sub.refl _, Sub.refl _, Sub.refl _, Sub.refl _, trivial⟩) ?_
  rintro ⟨i, hi⟩
  dsimp only
  have hle := List.findIdx_le_length (p := p) (xs := l)
  repeat (first | refine awp_seq ?_ | refine a_region ?_ | refine r_done ?_ | (refine r_id ?_; first | refine r_ev tab_ok rfl rfl rfl rfl byE rfl ?_))
  refine awp_cond_p rfl (fun hlt => ?_) (fun hge => ?_)
  · have hi' : i < l.length := by omega
    repeat (first | refine awp_seq ?_ | refine awp_block ?_ | refine a_region ?_ | refine awp_skip ?_ | refine r_done ?_ | (refine r_id ?_; first | refine r_ev tab_ok rfl rfl rfl rfl byE rfl ?_ | refine r_idx tab_ok rfl rfl rfl rfl rfl rfl rfl (by first | exact ⟨by omega, by omega⟩ | (simp; omega)) rfl rfl ?_))
    simp only [Int.toNat_natCast]
    refine r_callv (hp l[i] (List.getElem_mem hi')) hcall rfl rfl rfl ⟨Sub.refl _, subs_refl _⟩ (by simp [AV.frees, AV.free, rgA, hcf]) rfl rfl rfl ?_
    repeat (first | refine thenA_normal ?_ | refine r_done ?_)
    refine awp_cond rfl (fun hb => ?_) (fun hb => ?_)
    · repeat (first | refine awp_seq ?_ | refine thenA_normal ?_ | refine a_region ?_ | refine awp_ret ?_ | refine thenA_ret ?_ | refine blockA_ret ?_ | refine r_done ?_ | (refine r_id ?_; first | refine r_ev tab_ok rfl rfl rfl rfl byE rfl ?_) | refine ret1 byO rfl rfl rfl ?_)
      have : l.findIdx p = i := by
        rcases Nat.lt_or_eq_of_le hi with h | h
        · have := List.not_of_lt_findIdx h
          simp_all
        · exact h.symm
      exact Sub.of_eq (by rw [findR, if_pos (by omega), this])
    · have : l.findIdx p ≠ i := fun h => by
        have := List.findIdx_getElem (p := p) (xs := l) (w := by omega)
        simp only [h] at this
        simp_all
      repeat (first | refine thenA_normal ?_ | refine a_region ?_ | refine awp_skip ?_ | refine r_done ?_ | (refine r_id ?_; first | refine r_ev tab_ok rfl rfl rfl rfl byE rfl ?_))
      exact ⟨⟨i + 1, by omega⟩, by dsimp only; omega, fits_of rfl ⟨Sub.refl _, Sub.refl _, Sub.refl _, Sub.refl _, trivial⟩⟩
  · repeat (first | refine awp_seq ?_ | refine thenA_normal ?_ | refine a_region ?_ | refine awp_ret ?_ | refine awp_exit ?_ | refine r_done ?_ | (refine r_id ?_; first | refine r_ev tab_ok rfl rfl rfl rfl byE rfl ?_) | refine ret1 byO rfl rfl rfl ?_)
    exact Sub.of_eq (by rw [findR, if_neg (by omega)])
theorem any_str_ok (l : List ByteArray) (p : ByteArray → Bool) (f : FuncId) (caps : List AV) (hl : l.length ≤ 4611686018427387904) (hcall : Callable Tryd.prog f) (hcf : AV.frees caps = true) (hp : ∀ s ∈ l, PCalls Tryd.prog f (.val (.string s) :: caps) (.val (.bool (p s)))) :
    PCalls Tryd.prog 18 [.sl 1 (l.map sF), .cl f caps] (.val (.bool (l.any p))) := by
  refine p_start Tryd.func18 Tryd.ntmps18 rfl rfl rfl fun S w => ?_
  repeat (first | refine awp_seq ?_ | refine a_region ?_ | refine r_done ?_ | (refine r_id ?_; first | refine r_ev tab_ok rfl rfl rfl rfl byE rfl ?_))
  refine r_call (find_str_ok l p f caps hl hcall hcf hp) call33 rfl rfl ⟨Sub.refl _, Sub.refl _, trivial⟩ (by simp [AV.frees, AV.free, rgA, hcf]) rfl rfl rfl ?_
  repeat (first | refine thenA_normal ?_ | refine awp_ret ?_ | refine r_done ?_ | (refine r_id ?_; first | refine r_ev tab_ok rfl rfl rfl rfl byE rfl ?_) | refine ret1 byO rfl rfl rfl ?_)
  exact Sub.of_eq (by rw [findR_any])
theorem any_rng_ok (l : List (Int × Int)) (p : (Int × Int) → Bool) (f : FuncId) (caps : List AV) (hl : l.length ≤ 4611686018427387904) (hcall : Callable Tryd.prog f) (hcf : AV.frees caps = true) (hp : ∀ s ∈ l, PCalls Tryd.prog f (rgA s :: caps) (.val (.bool (p s)))) :
    PCalls Tryd.prog 20 [.sl 2 (l.map rgD), .cl f caps] (.val (.bool (l.any p))) := by
  refine p_start Tryd.func20 Tryd.ntmps20 rfl rfl rfl fun S w => ?_
  repeat (first | refine awp_seq ?_ | refine a_region ?_ | refine r_done ?_ | (refine r_id ?_; first | refine r_ev tab_ok rfl rfl rfl rfl byE rfl ?_))
  refine r_call (find_rng_ok l p f caps hl hcall hcf hp) call34 rfl rfl ⟨Sub.refl _, Sub.refl _, trivial⟩ (by simp [AV.frees, AV.free, rgA, hcf]) rfl rfl rfl ?_
  repeat (first | refine thenA_normal ?_ | refine awp_ret ?_ | refine r_done ?_ | (refine r_id ?_; first | refine r_ev tab_ok rfl rfl rfl rfl byE rfl ?_) | refine ret1 byO rfl rfl rfl ?_)
  exact Sub.of_eq (by rw [findR_any])
/-- kind: may a style's system and its symbols be? -/
def kindF (d : Sd) : Bool :=
  if d.system = cyclicS ∨ d.system = symbolicS ∨ d.system = fixedS then decide (1 ≤ (d.symbols.length : Int))
  else if d.system = alphabeticS ∨ d.system = numericS then decide (2 ≤ (d.symbols.length : Int))
  else if d.system = additiveS then decide (1 ≤ (d.symbols.length : Int)) && decide ((d.symbols.length : Int) = d.weights.length) && fallF d.weights
  else if d.system = extendsS then decide ((d.symbols.length : Int) + d.weights.length = 0) else false
theorem kind_ok (d : Sd) (h1 : d.symbols.length ≤ 17592186044416) (h2 : d.weights.length ≤ 17592186044416) : PCalls Tryd.prog 17 [dfA d] (.val (.bool (kindF d))) := by
  refine p_start Tryd.func17 Tryd.ntmps17 rfl rfl rfl fun S w => ?_
  obtain ⟨name, sys, first, syms, ws, neg0, neg1, pre, suf, auto, rng, pad, padS, fall, ext, said, sy, su, wt, sb, ad⟩ := d
  by_cases e1 : sys = cyclicS
  · subst e1
    repeat (first | refine awp_seq ?_ | refine thenA_normal ?_ | refine awp_block ?_ | refine a_region ?_ | refine awp_ret ?_ | refine thenA_ret ?_ | refine blockA_ret ?_ | refine awp_skip ?_ | refine r_done ?_ | (refine r_id ?_; first | refine r_len tab_ok rfl rfl rfl rfl rfl rfl rfl ?_ | refine r_ev tab_ok rfl rfl rfl rfl byE rfl ?_ | refine r_ld tab_ok rfl rfl rfl rfl rfl ?_ | refine r_wr tab_ok rfl rfl rfl rfl rfl ?_) | refine ret1 byO rfl rfl rfl ?_ | refine awp_cond_t rfl ?_)
    exact Sub.refl _
  by_cases e2 : sys = symbolicS
  · subst e2
    repeat (first | refine awp_seq ?_ | refine thenA_normal ?_ | refine awp_block ?_ | refine a_region ?_ | refine awp_ret ?_ | refine thenA_ret ?_ | refine blockA_ret ?_ | refine awp_skip ?_ | refine r_done ?_ | (refine r_id ?_; first | refine r_len tab_ok rfl rfl rfl rfl rfl rfl rfl ?_ | refine r_ev tab_ok rfl rfl rfl rfl byE rfl ?_ | refine r_ld tab_ok rfl rfl rfl rfl rfl ?_ | refine r_wr tab_ok rfl rfl rfl rfl rfl ?_) | refine ret1 byO rfl rfl rfl ?_ | refine awp_cond_t rfl ?_ | refine awp_cond_f rfl ?_)
    exact Sub.refl _
  by_cases e3 : sys = fixedS
  · subst e3
    repeat (first | refine awp_seq ?_ | refine thenA_normal ?_ | refine awp_block ?_ | refine a_region ?_ | refine awp_ret ?_ | refine thenA_ret ?_ | refine blockA_ret ?_ | refine r_done ?_ | (refine r_id ?_; first | refine r_len tab_ok rfl rfl rfl rfl rfl rfl rfl ?_ | refine r_ev tab_ok rfl rfl rfl rfl byE rfl ?_ | refine r_ld tab_ok rfl rfl rfl rfl rfl ?_ | refine r_wr tab_ok rfl rfl rfl rfl rfl ?_) | refine ret1 byO rfl rfl rfl ?_ | refine awp_cond_t rfl ?_ | refine awp_cond_f rfl ?_)
    exact Sub.refl _
  by_cases e4 : sys = alphabeticS
  · subst e4
    repeat (first | refine awp_seq ?_ | refine thenA_normal ?_ | refine awp_block ?_ | refine a_region ?_ | refine awp_ret ?_ | refine thenA_ret ?_ | refine blockA_ret ?_ | refine awp_skip ?_ | refine r_done ?_ | (refine r_id ?_; first | refine r_len tab_ok rfl rfl rfl rfl rfl rfl rfl ?_ | refine r_ev tab_ok rfl rfl rfl rfl byE rfl ?_ | refine r_ld tab_ok rfl rfl rfl rfl rfl ?_ | refine r_wr tab_ok rfl rfl rfl rfl rfl ?_) | refine ret1 byO rfl rfl rfl ?_ | refine awp_cond_t rfl ?_ | refine awp_cond_f rfl ?_)
    exact Sub.refl _
  by_cases e5 : sys = numericS
  · subst e5
    repeat (first | refine awp_seq ?_ | refine thenA_normal ?_ | refine awp_block ?_ | refine a_region ?_ | refine awp_ret ?_ | refine thenA_ret ?_ | refine blockA_ret ?_ | refine r_done ?_ | (refine r_id ?_; first | refine r_len tab_ok rfl rfl rfl rfl rfl rfl rfl ?_ | refine r_ev tab_ok rfl rfl rfl rfl byE rfl ?_ | refine r_ld tab_ok rfl rfl rfl rfl rfl ?_ | refine r_wr tab_ok rfl rfl rfl rfl rfl ?_) | refine ret1 byO rfl rfl rfl ?_ | refine awp_cond_t rfl ?_ | refine awp_cond_f rfl ?_)
    exact Sub.refl _
  by_cases e6 : sys = additiveS
  · subst e6
    repeat (first | refine awp_seq ?_ | refine thenA_normal ?_ | refine awp_block ?_ | refine a_region ?_ | refine r_done ?_ | (refine r_id ?_; first | refine r_len tab_ok rfl rfl rfl rfl rfl rfl rfl ?_ | refine r_ev tab_ok rfl rfl rfl rfl byE rfl ?_ | refine r_ld tab_ok rfl rfl rfl rfl rfl ?_ | refine r_wr tab_ok rfl rfl rfl rfl rfl ?_ | refine r_len_cnd tab_ok rfl rfl rfl rfl rfl rfl (by first | exact fun _ => rfl | exact cs1) rfl rfl rfl ?_ | refine r_ev_cnd tab_ok rfl rfl rfl rfl rfl rfl byC (by first | exact fun _ => trivial | (intro h; simp at h; first | exact ⟨by omega, by omega⟩ | omega)) rfl ?_ | refine r_ld_cnd tab_ok rfl rfl rfl rfl rfl rfl byC rfl ?_ | refine r_and rfl rfl rfl rfl rfl rfl rfl rfl ?_) | refine awp_cond_t rfl ?_ | refine awp_cond_f rfl ?_)
    refine r_call_cnd (fun _ => falling_ok ws (by dsimp only at h2; omega)) call32 rfl rfl rfl rfl byC ⟨Sub.refl _, trivial⟩ rfl rfl rfl rfl ?_
    repeat (first | refine thenA_normal ?_ | refine awp_ret ?_ | refine thenA_ret ?_ | refine blockA_ret ?_ | refine r_done ?_ | (refine r_id ?_; first | refine r_ev tab_ok rfl rfl rfl rfl byE rfl ?_ | refine r_and rfl rfl rfl rfl rfl rfl rfl rfl ?_) | refine ret1 byO rfl rfl rfl ?_)
    exact Sub.refl _
  by_cases e7 : sys = extendsS
  · subst e7
    repeat (first | refine awp_seq ?_ | refine thenA_normal ?_ | refine awp_block ?_ | refine a_region ?_ | refine awp_ret ?_ | refine thenA_ret ?_ | refine blockA_ret ?_ | refine r_done ?_ | (refine r_id ?_; first | refine r_len tab_ok rfl rfl rfl rfl rfl rfl rfl ?_ | refine r_ev tab_ok rfl rfl rfl rfl byE rfl ?_ | refine r_ld tab_ok rfl rfl rfl rfl rfl ?_ | refine r_wr tab_ok rfl rfl rfl rfl rfl ?_) | refine ret1 byO rfl rfl rfl ?_ | refine awp_cond_t rfl ?_ | refine awp_cond_f rfl ?_)
    exact Sub.refl _
  repeat (first | refine awp_seq ?_ | refine thenA_normal ?_ | refine awp_block ?_ | refine a_region ?_ | refine r_done ?_ | (refine r_id ?_; first | refine r_ev tab_ok rfl rfl rfl rfl byE rfl ?_ | refine r_ld tab_ok rfl rfl rfl rfl rfl ?_ | refine r_wr tab_ok rfl rfl rfl rfl rfl ?_))
  refine awp_cond_p rfl (fun h => absurd h e1) (fun _ => ?_)
  repeat (first | refine awp_seq ?_ | refine thenA_normal ?_ | refine a_region ?_ | refine r_done ?_ | (refine r_id ?_; first | refine r_ev tab_ok rfl rfl rfl rfl byE rfl ?_))
  refine awp_cond_p rfl (fun h => absurd h e2) (fun _ => ?_)
  repeat (first | refine thenA_normal ?_ | refine a_region ?_ | refine r_done ?_ | (refine r_id ?_; first | refine r_ev tab_ok rfl rfl rfl rfl byE rfl ?_))
  refine awp_cond_p rfl (fun h => absurd h e3) (fun _ => ?_)
  repeat (first | refine awp_seq ?_ | refine thenA_normal ?_ | refine a_region ?_ | refine r_done ?_ | (refine r_id ?_; first | refine r_ev tab_ok rfl rfl rfl rfl byE rfl ?_))
  refine awp_cond_p rfl (fun h => absurd h e4) (fun _ => ?_)
  repeat (first | refine thenA_normal ?_ | refine a_region ?_ | refine r_done ?_ | (refine r_id ?_; first | refine r_ev tab_ok rfl rfl rfl rfl byE rfl ?_))
  refine awp_cond_p rfl (fun h => absurd h e5) (fun _ => ?_)
  repeat (first | refine awp_seq ?_ | refine thenA_normal ?_ | refine a_region ?_ | refine r_done ?_ | (refine r_id ?_; first | refine r_ev tab_ok rfl rfl rfl rfl byE rfl ?_))
  refine awp_cond_p rfl (fun h => absurd h e6) (fun _ => ?_)
  repeat (first | refine awp_seq ?_ | refine thenA_normal ?_ | refine a_region ?_ | refine r_done ?_ | (refine r_id ?_; first | refine r_ev tab_ok rfl rfl rfl rfl byE rfl ?_))
  refine awp_cond_p rfl (fun h => absurd h e7) (fun _ => ?_)
  repeat (first | refine awp_seq ?_ | refine thenA_normal ?_ | refine a_region ?_ | refine awp_ret ?_ | refine awp_skip ?_ | refine r_done ?_ | (refine r_id ?_; first | refine r_ev tab_ok rfl rfl rfl rfl byE rfl ?_) | refine ret1 byO rfl rfl rfl ?_)
  exact Sub.of_eq (by simp [kindF, e1, e2, e3, e4, e5, e6, e7])
def longF (s : ByteArray) : Bool := decide (100 < (s.size : Int))
def badR (r : Int × Int) : Bool := decide (r.2 < r.1) || decide (r.1 < -2147483648) || decide (2147483647 < r.2)
def signsL (d : Sd) : List ByteArray := [d.pre, d.suf, d.padSign, d.neg1, d.neg2] ++ d.symbols
def mayD (d : Sd) : Bool := if (!kindF d || decide (64 < (d.symbols.length : Int)) || decide (d.pad < 0) || decide (200 < d.pad) || (signsL d).any longF) = true then false else !d.range.any badR
theorem smay_ok (d : Sd) (h1 : d.symbols.length ≤ 65536) (h2 : d.weights.length ≤ 65536) (h3 : d.range.length ≤ 65536) : PCalls Tryd.prog 10 [dfA d] (.val (.bool (mayD d))) := by
  refine p_start Tryd.func10 Tryd.ntmps10 rfl rfl rfl fun S w => ?_
  repeat (first | refine awp_seq ?_)
  refine a_region ?_
  repeat (first | refine awp_seq ?_ | refine r_done ?_ | (refine r_id ?_; first | refine r_ev tab_ok rfl rfl rfl rfl byE rfl ?_ | refine r_wr tab_ok rfl rfl rfl rfl rfl ?_))
  refine a_region ?_
  repeat (first | (refine r_id ?_; first | refine r_ev tab_ok rfl rfl rfl rfl byE rfl ?_ | refine r_ld tab_ok rfl rfl rfl rfl rfl ?_ | refine r_idxa tab_ok rfl rfl rfl rfl (by decide) rfl rfl rfl rfl ?_))
  refine r_built_row tab_ok rfl rfl rfl rfl rfl rfl rfl rfl rfl ?_
  repeat (first | refine awp_seq ?_ | refine r_done ?_ | (refine r_id ?_; first | refine r_ev tab_ok rfl rfl rfl rfl byE rfl ?_ | refine r_ld tab_ok rfl rfl rfl rfl rfl ?_ | refine r_append tab_ok rfl rfl rfl rfl rfl rfl rfl rfl rfl (by first | omega | (simp; omega)) rfl ?_))
  refine awp_fits (fits_conv (M' := [.box 29 (dfC d), .gone]) (F' := [(1, .ptr 0 0), (3, .sl 1 ((signsL d).map sF))]) byV byV) ?_
  repeat (first | refine a_region ?_ | (refine r_id ?_; first | refine r_ld tab_ok rfl rfl rfl rfl rfl ?_))
  refine r_call (kind_ok d (by omega) (by omega)) call17 rfl rfl ⟨Sub.agg (by repeat' first | exact trivial | exact Sub.refl _ | exact Sub.nil _ | refine Sub.agg ?_ | apply And.intro), trivial⟩ rfl rfl rfl rfl ?_
  repeat (first | (refine r_id ?_; first | refine r_ev tab_ok rfl rfl rfl rfl byE rfl ?_ | refine r_len_cnd tab_ok rfl rfl rfl rfl rfl rfl (by first | exact fun _ => rfl | exact cs1) rfl rfl rfl ?_ | refine r_ev_cnd tab_ok rfl rfl rfl rfl rfl rfl byC (by first | exact fun _ => trivial | (intro h; simp at h; first | exact ⟨by omega, by omega⟩ | omega)) rfl ?_ | refine r_ld_cnd tab_ok rfl rfl rfl rfl rfl rfl byC rfl ?_ | refine r_or rfl rfl rfl rfl rfl rfl rfl rfl ?_))
  refine r_call_cnd (fun _ => any_str_ok (signsL d) longF 19 [] (by simp [signsL]; omega) call19 rfl (fun s _ => long_ok s)) call18 rfl rfl rfl rfl byC ⟨Sub.refl _, Sub.refl _, trivial⟩ rfl rfl rfl rfl ?_
  repeat (first | refine thenA_normal ?_ | refine r_done ?_ | (refine r_id ?_; first | refine r_or rfl rfl rfl rfl rfl rfl rfl rfl ?_))
  refine awp_cond rfl (fun h => ?_) (fun h => ?_)
  · repeat (first | refine awp_seq ?_ | refine thenA_normal ?_ | refine a_region ?_ | refine awp_ret ?_ | refine thenA_ret ?_ | refine r_done ?_ | (refine r_id ?_; first | refine r_ev tab_ok rfl rfl rfl rfl byE rfl ?_) | refine ret1 byO rfl rfl rfl ?_)
    exact Sub.of_eq (by rw [mayD, if_pos h])
  · repeat (first | refine awp_seq ?_ | refine a_region ?_ | refine awp_skip ?_ | (refine r_id ?_; first | refine r_ev tab_ok rfl rfl rfl rfl byE rfl ?_ | refine r_ld tab_ok rfl rfl rfl rfl rfl ?_))
    refine r_call (any_rng_ok d.range badR 21 [] (by omega) call21 rfl (fun r _ => mayr_ok r)) call20 rfl rfl ⟨Sub.refl _, Sub.refl _, trivial⟩ rfl rfl rfl rfl ?_
    repeat (first | refine thenA_normal ?_ | refine awp_ret ?_ | refine r_done ?_ | (refine r_id ?_; first | refine r_ev tab_ok rfl rfl rfl rfl byE rfl ?_) | refine ret1 byO rfl rfl rfl ?_)
    exact Sub.of_eq (by rw [mayD, if_neg (by simpa using h)])
end Go.Proofs.YtihakfihojickaaDoor

/- define.style.say; walked. -/
namespace Go.Proofs.YtihakfihojickaaDoor
open Go Go.RowKit
set_option maxRecDepth 20000

def sysS : ByteArray := ⟨#[115, 121, 115, 116, 101, 109]⟩
def negS : ByteArray := ⟨#[110, 101, 103, 97, 116, 105, 118, 101]⟩
def preS : ByteArray := ⟨#[112, 114, 101, 102, 105, 120]⟩
def sufS : ByteArray := ⟨#[115, 117, 102, 102, 105, 120]⟩
def ranS : ByteArray := ⟨#[114, 97, 110, 103, 101]⟩
def padS : ByteArray := ⟨#[112, 97, 100]⟩
def falS : ByteArray := ⟨#[102, 97, 108, 108, 98, 97, 99, 107]⟩
def symS : ByteArray := ⟨#[115, 121, 109, 98, 111, 108, 115]⟩
def addS : ByteArray := ⟨#[97, 100, 100, 105, 116, 105, 118, 101, 45, 115, 121, 109, 98, 111, 108, 115]⟩
def sayD1 (S0 : Sd) (nm : ByteArray) (l : List Nd) : Sd × Bool :=
  if l.length = 0 then (S0, false) else
  if nm = sysS then sysF S0 l else
  if nm = negS then negF S0 l else
  if nm = preS then aroF S0 false l else
  if nm = sufS then aroF S0 true l else
  if nm = ranS then rngF S0 l else
  if nm = padS then padF S0 l else
  if nm = falS then falF S0 l else
  if nm = symS then symsF S0 l else
  if nm = addS then sumsF S0 l else
  (S0, false)
def sayD (S0 : Sd) (d : Dc) : Sd × Bool := sayD1 S0 d.name (tigF d.value)
set_option maxHeartbeats 8000000 in
theorem dsay_ok (S0 : Sd) (d : Dc) (hs : nszs d.value < 1099511627776) (ht : ∀ n ∈ d.value, n.tok.text.size ≤ 1099511627776) (hS : S0.said < 1000) : MCalls Tryd.prog 31 [sdB S0] [.ptr 0 0, .agg [.val (.string d.name), .sl 7 (d.value.map nF), .val (.bool d.imp)]] [sdB (sayD S0 d).1] (.val (.bool (sayD S0 d).2)) := by
  have hm : ∀ m ∈ tigF d.value, m.tok.text.size ≤ 1099511627776 := fun m h => ht m (tigF_mem h)
  have hz : nszs (tigF d.value) < 1099511627776 := Nat.lt_of_le_of_lt (tigF_sz _) hs
  refine m_startF Tryd.func31 Tryd.ntmps31 rfl rfl rfl fun S w β => ?_
  rw [sayD]
  repeat (first | refine awp_seq ?_ | refine a_region ?_ | refine r_done ?_ | (refine r_id ?_; first | refine r_ev tab_ok rfl rfl rfl rfl byE rfl ?_ | refine r_ld tab_ok rfl rfl rfl rfl rfl ?_ | refine r_wr tab_ok rfl rfl rfl rfl rfl ?_))
  refine r_call (show PCalls Tryd.prog 48 [.sl 7 (d.value.map nF)] (.sl 7 ((tigF d.value).map nF)) from tight_ok d.value hs) call48 rfl rfl ⟨Sub.refl _, trivial⟩ rfl rfl rfl rfl ?_
  obtain ⟨l, hl2⟩ : ∃ l, l = tigF d.value := ⟨_, rfl⟩
  rw [← hl2] at hm hz ⊢
  have hlm : (l.map nF).length = l.length := List.length_map _
  have hll := nszs_len l
  clear hl2
  generalize d.name = nm
  repeat (first | refine awp_seq ?_ | refine thenA_normal ?_ | refine a_region ?_ | refine r_done ?_ | (refine r_id ?_; first | refine r_len tab_ok rfl rfl rfl rfl rfl rfl rfl ?_ | refine r_ev tab_ok rfl rfl rfl rfl byE rfl ?_))
  refine awp_cond_p rfl (fun h0 => ?_) (fun h0 => ?_)
  · rw [show sayD1 S0 nm l = (S0, false) from if_pos (by omega)]
    repeat (first | refine awp_seq ?_ | refine thenA_normal ?_ | refine a_region ?_ | refine awp_ret ?_ | refine thenA_ret ?_ | refine r_done ?_ | (refine r_id ?_; first | refine r_ev tab_ok rfl rfl rfl rfl byE rfl ?_))
    exact retF1 [sdB S0, .gone] [(4, .val (.bool false))] (fits_convM byV byV ⟨trivial, trivial⟩) byO rfl rfl rfl rfl rfl (Sub.refl _)
  have hne : l ≠ [] := fun h => h0 (by rw [h]; rfl)
  have h00 : ¬ l.length = 0 := by omega
  repeat (first | refine awp_seq ?_ | refine thenA_normal ?_ | refine awp_block ?_ | refine a_region ?_ | refine awp_skip ?_ | refine r_done ?_ | (refine r_id ?_; first | refine r_ev tab_ok rfl rfl rfl rfl byE rfl ?_ | refine r_ld tab_ok rfl rfl rfl rfl rfl ?_))
  refine awp_cond_p rfl (fun (hsysS : nm = sysS) => ?_) (fun (hsysS : ¬ nm = sysS) => ?_)
  · rw [(show sayD1 S0 nm l = sysF S0 l from (if_neg h00).trans (if_pos hsysS))]
    repeat (first | refine awp_seq ?_ | refine a_region ?_ | (refine r_id ?_; first | refine r_ev tab_ok rfl rfl rfl rfl byE rfl ?_))
    refine r_mcall [0] (system_ok S0 l hne hz hm) call49 rfl rfl ⟨rfl, trivial⟩ (by decide) ⟨Sub.refl _, Sub.refl _, trivial⟩ rfl rfl rfl rfl rfl rfl rfl ?_
    repeat (first | refine thenA_normal ?_ | refine awp_ret ?_ | refine thenA_ret ?_ | refine blockA_ret ?_ | refine r_done ?_ | (refine r_id ?_; first | refine r_ev tab_ok rfl rfl rfl rfl byE rfl ?_))
    exact retF1 [sdB (sysF S0 l).1, .gone] [(4, .val (.bool (sysF S0 l).2))] (fits_convM byV byV ⟨trivial, trivial⟩) byO rfl rfl rfl rfl rfl (Sub.refl _)
  repeat (first | refine awp_seq ?_ | refine thenA_normal ?_ | refine a_region ?_ | refine r_done ?_ | (refine r_id ?_; first | refine r_ev tab_ok rfl rfl rfl rfl byE rfl ?_))
  refine awp_cond_p rfl (fun (hnegS : nm = negS) => ?_) (fun (hnegS : ¬ nm = negS) => ?_)
  · rw [(show sayD1 S0 nm l = negF S0 l from (if_neg h00).trans ((if_neg hsysS).trans (if_pos hnegS)))]
    repeat (first | refine awp_seq ?_ | refine a_region ?_ | (refine r_id ?_; first | refine r_ev tab_ok rfl rfl rfl rfl byE rfl ?_))
    refine r_mcall [0] (negative_ok S0 l (by omega) hS) call50 rfl rfl ⟨rfl, trivial⟩ (by decide) ⟨Sub.refl _, Sub.refl _, trivial⟩ rfl rfl rfl rfl rfl rfl rfl ?_
    repeat (first | refine thenA_normal ?_ | refine awp_ret ?_ | refine thenA_ret ?_ | refine blockA_ret ?_ | refine r_done ?_ | (refine r_id ?_; first | refine r_ev tab_ok rfl rfl rfl rfl byE rfl ?_))
    exact retF1 [sdB (negF S0 l).1, .gone] [(4, .val (.bool (negF S0 l).2))] (fits_convM byV byV ⟨trivial, trivial⟩) byO rfl rfl rfl rfl rfl (Sub.refl _)
  repeat (first | refine awp_seq ?_ | refine thenA_normal ?_ | refine a_region ?_ | refine r_done ?_ | (refine r_id ?_; first | refine r_ev tab_ok rfl rfl rfl rfl byE rfl ?_))
  refine awp_cond_p rfl (fun (hpreS : nm = preS) => ?_) (fun (hpreS : ¬ nm = preS) => ?_)
  · rw [(show sayD1 S0 nm l = aroF S0 false l from (if_neg h00).trans ((if_neg hsysS).trans ((if_neg hnegS).trans (if_pos hpreS))))]
    repeat (first | refine awp_seq ?_ | refine a_region ?_ | (refine r_id ?_; first | refine r_ev tab_ok rfl rfl rfl rfl byE rfl ?_ | refine r_nilck rfl rfl rfl rfl rfl rfl rfl ?_))
    refine r_mcall [0] (prefix_ok S0 l hne hz hS) call51 rfl rfl ⟨rfl, trivial⟩ (by decide) ⟨Sub.refl _, Sub.refl _, Sub.refl _, Sub.refl _, trivial⟩ rfl rfl rfl rfl rfl rfl rfl ?_
    repeat (first | refine thenA_normal ?_ | refine awp_ret ?_ | refine thenA_ret ?_ | refine blockA_ret ?_ | refine r_done ?_ | (refine r_id ?_; first | refine r_ev tab_ok rfl rfl rfl rfl byE rfl ?_))
    exact retF1 [sdB (aroF S0 false l).1, .gone] [(4, .val (.bool (aroF S0 false l).2))] (fits_convM byV byV ⟨trivial, trivial⟩) byO rfl rfl rfl rfl rfl (Sub.refl _)
  repeat (first | refine awp_seq ?_ | refine thenA_normal ?_ | refine a_region ?_ | refine r_done ?_ | (refine r_id ?_; first | refine r_ev tab_ok rfl rfl rfl rfl byE rfl ?_))
  refine awp_cond_p rfl (fun (hsufS : nm = sufS) => ?_) (fun (hsufS : ¬ nm = sufS) => ?_)
  · rw [(show sayD1 S0 nm l = aroF S0 true l from (if_neg h00).trans ((if_neg hsysS).trans ((if_neg hnegS).trans ((if_neg hpreS).trans (if_pos hsufS)))))]
    repeat (first | refine awp_seq ?_ | refine a_region ?_ | (refine r_id ?_; first | refine r_ev tab_ok rfl rfl rfl rfl byE rfl ?_ | refine r_nilck rfl rfl rfl rfl rfl rfl rfl ?_))
    refine r_mcall [0] (suffix_ok S0 l hne hz hS) call51 rfl rfl ⟨rfl, trivial⟩ (by decide) ⟨Sub.refl _, Sub.refl _, Sub.refl _, Sub.refl _, trivial⟩ rfl rfl rfl rfl rfl rfl rfl ?_
    repeat (first | refine thenA_normal ?_ | refine awp_ret ?_ | refine thenA_ret ?_ | refine blockA_ret ?_ | refine r_done ?_ | (refine r_id ?_; first | refine r_ev tab_ok rfl rfl rfl rfl byE rfl ?_))
    exact retF1 [sdB (aroF S0 true l).1, .gone] [(4, .val (.bool (aroF S0 true l).2))] (fits_convM byV byV ⟨trivial, trivial⟩) byO rfl rfl rfl rfl rfl (Sub.refl _)
  repeat (first | refine awp_seq ?_ | refine thenA_normal ?_ | refine a_region ?_ | refine r_done ?_ | (refine r_id ?_; first | refine r_ev tab_ok rfl rfl rfl rfl byE rfl ?_))
  refine awp_cond_p rfl (fun (hranS : nm = ranS) => ?_) (fun (hranS : ¬ nm = ranS) => ?_)
  · rw [(show sayD1 S0 nm l = rngF S0 l from (if_neg h00).trans ((if_neg hsysS).trans ((if_neg hnegS).trans ((if_neg hpreS).trans ((if_neg hsufS).trans (if_pos hranS))))))]
    repeat (first | refine awp_seq ?_ | refine a_region ?_ | (refine r_id ?_; first | refine r_ev tab_ok rfl rfl rfl rfl byE rfl ?_))
    refine r_mcall [0] (range_ok S0 l hz hm hS) call52 rfl rfl ⟨rfl, trivial⟩ (by decide) ⟨Sub.refl _, Sub.refl _, trivial⟩ rfl rfl rfl rfl rfl rfl rfl ?_
    repeat (first | refine thenA_normal ?_ | refine awp_ret ?_ | refine thenA_ret ?_ | refine blockA_ret ?_ | refine r_done ?_ | (refine r_id ?_; first | refine r_ev tab_ok rfl rfl rfl rfl byE rfl ?_))
    exact retF1 [sdB (rngF S0 l).1, .gone] [(4, .val (.bool (rngF S0 l).2))] (fits_convM byV byV ⟨trivial, trivial⟩) byO rfl rfl rfl rfl rfl (Sub.refl _)
  repeat (first | refine awp_seq ?_ | refine thenA_normal ?_ | refine a_region ?_ | refine r_done ?_ | (refine r_id ?_; first | refine r_ev tab_ok rfl rfl rfl rfl byE rfl ?_))
  refine awp_cond_p rfl (fun (hpadS : nm = padS) => ?_) (fun (hpadS : ¬ nm = padS) => ?_)
  · rw [(show sayD1 S0 nm l = padF S0 l from (if_neg h00).trans ((if_neg hsysS).trans ((if_neg hnegS).trans ((if_neg hpreS).trans ((if_neg hsufS).trans ((if_neg hranS).trans (if_pos hpadS)))))))]
    repeat (first | refine awp_seq ?_ | refine a_region ?_ | (refine r_id ?_; first | refine r_ev tab_ok rfl rfl rfl rfl byE rfl ?_))
    refine r_mcall [0] (pad_ok S0 l (by omega) hS) call53 rfl rfl ⟨rfl, trivial⟩ (by decide) ⟨Sub.refl _, Sub.refl _, trivial⟩ rfl rfl rfl rfl rfl rfl rfl ?_
    repeat (first | refine thenA_normal ?_ | refine awp_ret ?_ | refine thenA_ret ?_ | refine blockA_ret ?_ | refine r_done ?_ | (refine r_id ?_; first | refine r_ev tab_ok rfl rfl rfl rfl byE rfl ?_))
    exact retF1 [sdB (padF S0 l).1, .gone] [(4, .val (.bool (padF S0 l).2))] (fits_convM byV byV ⟨trivial, trivial⟩) byO rfl rfl rfl rfl rfl (Sub.refl _)
  repeat (first | refine awp_seq ?_ | refine thenA_normal ?_ | refine a_region ?_ | refine r_done ?_ | (refine r_id ?_; first | refine r_ev tab_ok rfl rfl rfl rfl byE rfl ?_))
  refine awp_cond_p rfl (fun (hfalS : nm = falS) => ?_) (fun (hfalS : ¬ nm = falS) => ?_)
  · rw [(show sayD1 S0 nm l = falF S0 l from (if_neg h00).trans ((if_neg hsysS).trans ((if_neg hnegS).trans ((if_neg hpreS).trans ((if_neg hsufS).trans ((if_neg hranS).trans ((if_neg hpadS).trans (if_pos hfalS))))))))]
    repeat (first | refine awp_seq ?_ | refine a_region ?_ | (refine r_id ?_; first | refine r_ev tab_ok rfl rfl rfl rfl byE rfl ?_))
    refine r_mcall [0] (fallback_ok S0 l hz hm hS) call54 rfl rfl ⟨rfl, trivial⟩ (by decide) ⟨Sub.refl _, Sub.refl _, trivial⟩ rfl rfl rfl rfl rfl rfl rfl ?_
    repeat (first | refine thenA_normal ?_ | refine awp_ret ?_ | refine thenA_ret ?_ | refine blockA_ret ?_ | refine r_done ?_ | (refine r_id ?_; first | refine r_ev tab_ok rfl rfl rfl rfl byE rfl ?_))
    exact retF1 [sdB (falF S0 l).1, .gone] [(4, .val (.bool (falF S0 l).2))] (fits_convM byV byV ⟨trivial, trivial⟩) byO rfl rfl rfl rfl rfl (Sub.refl _)
  repeat (first | refine awp_seq ?_ | refine thenA_normal ?_ | refine a_region ?_ | refine r_done ?_ | (refine r_id ?_; first | refine r_ev tab_ok rfl rfl rfl rfl byE rfl ?_))
  refine awp_cond_p rfl (fun (hsymS : nm = symS) => ?_) (fun (hsymS : ¬ nm = symS) => ?_)
  · rw [(show sayD1 S0 nm l = symsF S0 l from (if_neg h00).trans ((if_neg hsysS).trans ((if_neg hnegS).trans ((if_neg hpreS).trans ((if_neg hsufS).trans ((if_neg hranS).trans ((if_neg hpadS).trans ((if_neg hfalS).trans (if_pos hsymS)))))))))]
    repeat (first | refine awp_seq ?_ | refine a_region ?_ | (refine r_id ?_; first | refine r_ev tab_ok rfl rfl rfl rfl byE rfl ?_))
    refine r_mcall [0] (symbols_ok S0 l (by omega)) call55 rfl rfl ⟨rfl, trivial⟩ (by decide) ⟨Sub.refl _, Sub.refl _, trivial⟩ rfl rfl rfl rfl rfl rfl rfl ?_
    repeat (first | refine thenA_normal ?_ | refine awp_ret ?_ | refine thenA_ret ?_ | refine blockA_ret ?_ | refine r_done ?_ | (refine r_id ?_; first | refine r_ev tab_ok rfl rfl rfl rfl byE rfl ?_))
    exact retF1 [sdB (symsF S0 l).1, .gone] [(4, .val (.bool (symsF S0 l).2))] (fits_convM byV byV ⟨trivial, trivial⟩) byO rfl rfl rfl rfl rfl (Sub.refl _)
  repeat (first | refine awp_seq ?_ | refine thenA_normal ?_ | refine a_region ?_ | refine r_done ?_ | (refine r_id ?_; first | refine r_ev tab_ok rfl rfl rfl rfl byE rfl ?_))
  refine awp_cond_p rfl (fun (haddS : nm = addS) => ?_) (fun (haddS : ¬ nm = addS) => ?_)
  · rw [(show sayD1 S0 nm l = sumsF S0 l from (if_neg h00).trans ((if_neg hsysS).trans ((if_neg hnegS).trans ((if_neg hpreS).trans ((if_neg hsufS).trans ((if_neg hranS).trans ((if_neg hpadS).trans ((if_neg hfalS).trans ((if_neg hsymS).trans (if_pos haddS))))))))))]
    repeat (first | refine awp_seq ?_ | refine a_region ?_ | (refine r_id ?_; first | refine r_ev tab_ok rfl rfl rfl rfl byE rfl ?_))
    refine r_mcall [0] (sums_ok S0 l hz) call56 rfl rfl ⟨rfl, trivial⟩ (by decide) ⟨Sub.refl _, Sub.refl _, trivial⟩ rfl rfl rfl rfl rfl rfl rfl ?_
    repeat (first | refine thenA_normal ?_ | refine awp_ret ?_ | refine thenA_ret ?_ | refine blockA_ret ?_ | refine r_done ?_ | (refine r_id ?_; first | refine r_ev tab_ok rfl rfl rfl rfl byE rfl ?_))
    exact retF1 [sdB (sumsF S0 l).1, .gone] [(4, .val (.bool (sumsF S0 l).2))] (fits_convM byV byV ⟨trivial, trivial⟩) byO rfl rfl rfl rfl rfl (Sub.refl _)
  repeat (first | refine awp_seq ?_ | refine thenA_normal ?_ | refine a_region ?_ | refine awp_ret ?_ | refine awp_skip ?_ | refine r_done ?_ | (refine r_id ?_; first | refine r_ev tab_ok rfl rfl rfl rfl byE rfl ?_))
  rw [(show sayD1 S0 nm l = (S0, false) from (if_neg h00).trans ((if_neg hsysS).trans ((if_neg hnegS).trans ((if_neg hpreS).trans ((if_neg hsufS).trans ((if_neg hranS).trans ((if_neg hpadS).trans ((if_neg hfalS).trans ((if_neg hsymS).trans (if_neg haddS))))))))))]
  exact retF1 [sdB S0, .gone] [(4, .val (.bool false))] (fits_convM byV byV ⟨trivial, trivial⟩) byO rfl rfl rfl rfl rfl (Sub.refl _)
end Go.Proofs.YtihakfihojickaaDoor

/- define.Parse; walked (of rules whose system does not end as 'additive'). -/
namespace Go.Proofs.YtihakfihojickaaDoor
open Go Go.RowKit
set_option maxRecDepth 20000

def zSd : Sd := ⟨⟨#[]⟩, ⟨#[]⟩, 0, [], [], ⟨#[]⟩, ⟨#[]⟩, ⟨#[]⟩, ⟨#[]⟩, false, [], 0, ⟨#[]⟩, ⟨#[]⟩, ⟨#[]⟩, 0, [], [], [], false, false⟩
def csS : ByteArray := ⟨#[99, 111, 117, 110, 116, 101, 114, 45, 115, 116, 121, 108, 101]⟩
def sd0 (n : ByteArray) : Sd := { zSd with name := n, system := symbolicS, first := 1, neg1 := ⟨#[45]⟩, suf := ⟨#[46, 32]⟩, auto := true, fall := ⟨#[100, 101, 99, 105, 109, 97, 108]⟩ }
def sayAll (S : Sd) (l : List Dc) : Sd := l.foldl (fun S d => (sayD S d).1) S
def endP1 (S : Sd) : Sd := if S.system = additiveS then { S with symbols := S.sums, weights := S.wts } else { S with symbols := S.syms }
def endP (S : Sd) : Sd × Int :=
  if S.system = extendsS ∧ (S.symbolic || S.additive) = true then (zSd, 2) else
  if mayD (endP1 S) then (endP1 S, 0) else (zSd, 2)
def defP (r : Rl) : Sd × Int :=
  if r.at_ = csS ∧ r.blk = true then
    (if (nmF r.pre).2 && !amgF fixN (lowS (nmF r.pre).1) then endP (sayAll (sd0 (nmF r.pre).1) r.decls) else (zSd, 2))
  else (zSd, 1)
theorem said_sys (S : Sd) (l : List Nd) : (sysF S l).1.said = S.said := by
  unfold sysF sysF1
  repeat' split
  all_goals rfl
theorem said64 (S : Sd) (d : Dc) (h : S.said < 64) : (sayD S d).1.said < 64 := by
  have ho : ∀ k, k < 64 → S.said ||| k < 64 := fun k hk => Nat.or_lt_two_pow (n := 6) h hk
  unfold sayD sayD1
  split
  · exact h
  split
  · rw [said_sys]; exact h
  all_goals unfold negF aroF rngF padF falF symsF sumsF
  repeat' split
  all_goals first | exact h | exact ho _ (by decide)
theorem said_all : ∀ (l : List Dc) (S : Sd), S.said < 64 → (sayAll S l).said < 64
  | [], _, h => h
  | d :: r, S, h => said_all r _ (said64 S d h)
theorem sayAll_succ (S : Sd) (l : List Dc) {i : Nat} (h : i < l.length) : sayAll S (l.take (i + 1)) = (sayD (sayAll S (l.take i)) l[i]).1 := by
  rw [sayAll, List.take_add_one, List.getElem?_eq_getElem h, List.foldl_append]
  rfl
def zDf : AB := .box 29 [.val (.string ⟨#[]⟩), .val (.string ⟨#[]⟩), .val (.int .i64 0), .val (.slice none 0 0), .val (.slice none 0 0), .val (.string ⟨#[]⟩), .val (.string ⟨#[]⟩), .val (.string ⟨#[]⟩), .val (.string ⟨#[]⟩), .val (.bool false), .val (.slice none 0 0), .val (.int .i64 0), .val (.string ⟨#[]⟩), .val (.string ⟨#[]⟩), .val (.string ⟨#[]⟩), .val (.int .i64 0)]
/-- What a rule must be for the walk. -/
structure RlOk (r : Rl) : Prop where
  pz : nszs r.pre < 1099511627776
  pt : ∀ n ∈ r.pre, n.tok.text.size ≤ 1099511627776
  dl : r.decls.length ≤ 1099511627776
  dz : ∀ d ∈ r.decls, nszs d.value < 1099511627776
  dt : ∀ d ∈ r.decls, ∀ n ∈ d.value, n.tok.text.size ≤ 1099511627776
  nz : (nmF r.pre).1.size ≤ 1099511627776
  s1 : (sayAll (sd0 (nmF r.pre).1) r.decls).syms.length ≤ 65536
  s2 : (sayAll (sd0 (nmF r.pre).1) r.decls).sums.length ≤ 65536
  s3 : (sayAll (sd0 (nmF r.pre).1) r.decls).wts.length ≤ 65536
  s4 : (sayAll (sd0 (nmF r.pre).1) r.decls).range.length ≤ 65536
  s5 : (sayAll (sd0 (nmF r.pre).1) r.decls).weights.length ≤ 65536
theorem r_eqs {P : Program} {ops : Array Oper} {N : Nat} {K : AS → Prop} {o : Oper} {r : List Oper} {fo fo' : Option (List Nat)} {M : List AB} {F : List (Nat × AV)} {dt : Tmp} {tab : List (Nat × TE)} {T U : TypeId} {x y : Operand} {s t : ByteArray} {b : Bool} (ht : TyTab P tab) (hg : o.guard = none) (ho : o.op = .binOp .eql T x y U) (hx : aval (look F) x = .val (.string s)) (hy : aval (look F) y = .val (.string t)) (hb : decide (s = t) = b)
    (hdd : o.dst = some dt) (hd : dstB o.dst N = true) (hp : popF fo 0 = some fo') (k : RunX P ops N K r fo' M ((dt, .val (.bool b)) :: F)) : RunX P ops N K (o :: r) fo M F := by
  subst hb
  exact r_ev ht hg (by rw [ho]; simp only [ev, hx, hy, evBin]) hdd hd trivial hp k
set_option maxHeartbeats 8000000 in
theorem dparse_ok (r : Rl) (h : RlOk r) : PCalls Tryd.prog 16 [rlA r] (.tup [dfA (defP r).1, .val (.int .i64 (defP r).2)]) := by
  obtain ⟨pz, pt, dl, dz, dt, nz, s1, s2, s3, s4, s5⟩ := h
  have hdm : (r.decls.map dcD).length = r.decls.length := List.length_map _
  refine p_start Tryd.func16 Tryd.ntmps16 rfl rfl rfl fun S w => ?_
  by_cases hat : r.at_ = csS
  · cases hbk : r.blk with
    | false =>
      rw [show defP r = (zSd, 1) from if_neg (by rw [hbk]; rintro ⟨_, h⟩; cases h)]
      repeat (first
        | refine awp_seq ?_
        | refine thenA_normal ?_
        | refine a_region ?_
        | refine r_done ?_
        | (refine r_id ?_; first
          | refine r_ev tab_ok rfl rfl rfl rfl (by first | exact trivial | exact ⟨by omega, by omega⟩ | omega | exact ⟨by omega, by omega, by omega, by omega⟩ | exact Nat.le_of_ble_eq_true rfl) rfl ?_
          | refine r_ld tab_ok rfl rfl rfl rfl rfl ?_
          | refine r_wr tab_ok rfl rfl rfl rfl rfl ?_
          | refine r_ev_cnd tab_ok rfl rfl rfl rfl rfl rfl (by first | exact fun _ => rfl | exact cs1 | exact cs2 | exact cs3) (by first | exact fun _ => trivial | (intro h; simp at h; first | exact ⟨by omega, by omega⟩ | omega)) rfl ?_
          | refine r_ld_cnd tab_ok rfl rfl rfl rfl rfl rfl (by first | exact fun _ => rfl | exact cs1 | exact cs2 | exact cs3) rfl ?_
          | refine r_or rfl rfl rfl rfl rfl rfl rfl rfl ?_))
      refine awp_cond rfl (fun _ => ?_) (fun hno => ?_)
      · repeat (first
          | refine awp_seq ?_
          | refine thenA_normal ?_
          | refine a_region ?_
          | refine awp_ret ?_
          | refine thenA_ret ?_
          | refine r_done ?_
          | (refine r_id ?_; first
            | refine r_ev tab_ok rfl rfl rfl rfl (by first | exact trivial | exact ⟨by omega, by omega⟩ | omega | exact ⟨by omega, by omega, by omega, by omega⟩ | exact Nat.le_of_ble_eq_true rfl) rfl ?_
            | refine r_st tab_ok rfl rfl rfl rfl ?_
            | refine r_build tab_ok rfl rfl rfl rfl rfl rfl ?_))
        all_goals exact ret2ct tab_ok (by first | exact .inl rfl | exact .inr rfl) rfl rfl rfl rfl rfl rfl rfl (Sub.agg (by repeat' first | exact trivial | exact Sub.refl _ | exact Sub.nil _ | refine Sub.agg ?_ | apply And.intro)) (Sub.refl _)
      · exfalso
        simp [hbk] at hno
    | true =>
      rw [show defP r = (if (nmF r.pre).2 && !amgF fixN (lowS (nmF r.pre).1) then endP (sayAll (sd0 (nmF r.pre).1) r.decls) else (zSd, 2)) from if_pos ⟨hat, hbk⟩]
      repeat (first
        | refine awp_seq ?_
        | refine thenA_normal ?_
        | refine a_region ?_
        | refine r_done ?_
        | (refine r_id ?_; first
          | refine r_ev tab_ok rfl rfl rfl rfl (by first | exact trivial | exact ⟨by omega, by omega⟩ | omega | exact ⟨by omega, by omega, by omega, by omega⟩ | exact Nat.le_of_ble_eq_true rfl) rfl ?_
          | refine r_ld tab_ok rfl rfl rfl rfl rfl ?_
          | refine r_wr tab_ok rfl rfl rfl rfl rfl ?_
          | refine r_ev_cnd tab_ok rfl rfl rfl rfl rfl rfl (by first | exact fun _ => rfl | exact cs1 | exact cs2 | exact cs3) (by first | exact fun _ => trivial | (intro h; simp at h; first | exact ⟨by omega, by omega⟩ | omega)) rfl ?_
          | refine r_ld_cnd tab_ok rfl rfl rfl rfl rfl rfl (by first | exact fun _ => rfl | exact cs1 | exact cs2 | exact cs3) rfl ?_
          | refine r_or rfl rfl rfl rfl rfl rfl rfl rfl ?_))
      refine awp_cond rfl (fun hyes => ?_) (fun _ => ?_)
      · exfalso
        rw [hbk] at hyes
        simp only [show r.at_ = ⟨#[99, 111, 117, 110, 116, 101, 114, 45, 115, 116, 121, 108, 101]⟩ from hat] at hyes
        simp at hyes
      repeat (first
        | refine awp_seq ?_
        | refine a_region ?_
        | refine awp_skip ?_
        | (refine r_id ?_; first
          | refine r_ev tab_ok rfl rfl rfl rfl (by first | exact trivial | exact ⟨by omega, by omega⟩ | omega | exact ⟨by omega, by omega, by omega, by omega⟩ | exact Nat.le_of_ble_eq_true rfl) rfl ?_
          | refine r_ld tab_ok rfl rfl rfl rfl rfl ?_))
      refine r_call (dname_ok r.pre pz pt) call12 rfl rfl ⟨Sub.refl _, trivial⟩ rfl rfl rfl rfl ?_
      repeat (first
        | refine awp_seq ?_
        | refine a_region ?_
        | refine r_done ?_
        | (refine r_id ?_; first
          | refine r_ev tab_ok rfl rfl rfl rfl (by first | exact trivial | exact ⟨by omega, by omega⟩ | omega | exact ⟨by omega, by omega, by omega, by omega⟩ | exact Nat.le_of_ble_eq_true rfl) rfl ?_
          | refine r_ev_cnd tab_ok rfl rfl rfl rfl rfl rfl (by first | exact fun _ => rfl | exact cs1 | exact cs2 | exact cs3) (by first | exact fun _ => trivial | (intro h; simp at h; first | exact ⟨by omega, by omega⟩ | omega)) rfl ?_))
      refine r_call_cnd (fun _ => fixed_ok (nmF r.pre).1 nz) call30 rfl rfl rfl rfl (by first | exact fun _ => rfl | exact cs1 | exact cs2 | exact cs3) ⟨Sub.refl _, trivial⟩ rfl rfl rfl rfl ?_
      repeat (first
        | refine thenA_normal ?_
        | refine r_done ?_
        | (refine r_id ?_; first
          | refine r_or rfl rfl rfl rfl rfl rfl rfl rfl ?_))
      refine awp_cond rfl (fun hyes => ?_) (fun hno => ?_)
      · have e : ((nmF r.pre).2 && !amgF fixN (lowS (nmF r.pre).1)) = false := by
          cases h1 : (nmF r.pre).2 <;> cases h2 : amgF fixN (lowS (nmF r.pre).1) <;> simp [h1, h2] at hyes ⊢
        rw [e, if_neg Bool.false_ne_true]
        repeat (first
          | refine awp_seq ?_
          | refine thenA_normal ?_
          | refine a_region ?_
          | refine awp_ret ?_
          | refine thenA_ret ?_
          | refine r_done ?_
          | (refine r_id ?_; first
            | refine r_ev tab_ok rfl rfl rfl rfl (by first | exact trivial | exact ⟨by omega, by omega⟩ | omega | exact ⟨by omega, by omega, by omega, by omega⟩ | exact Nat.le_of_ble_eq_true rfl) rfl ?_
            | refine r_st tab_ok rfl rfl rfl rfl ?_
            | refine r_build tab_ok rfl rfl rfl rfl rfl rfl ?_))
        all_goals exact ret2ct tab_ok (by first | exact .inl rfl | exact .inr rfl) rfl rfl rfl rfl rfl rfl rfl (Sub.agg (by repeat' first | exact trivial | exact Sub.refl _ | exact Sub.nil _ | refine Sub.agg ?_ | apply And.intro)) (Sub.refl _)
      have e : ((nmF r.pre).2 && !amgF fixN (lowS (nmF r.pre).1)) = true := by
        cases h1 : (nmF r.pre).2 <;> cases h2 : amgF fixN (lowS (nmF r.pre).1) <;> simp [h1, h2] at hno ⊢
      rw [e, if_pos rfl]
      obtain ⟨nm, hnm⟩ : ∃ nm, nm = (nmF r.pre).1 := ⟨_, rfl⟩
      rw [← hnm] at s1 s2 s3 s4 s5 ⊢
      repeat (first
        | refine awp_seq ?_
        | refine thenA_normal ?_
        | refine awp_block ?_
        | refine a_region ?_
        | refine awp_skip ?_
        | refine r_done ?_
        | (refine r_id ?_; first
          | refine r_len tab_ok rfl rfl rfl rfl rfl rfl rfl ?_
          | refine r_ev tab_ok rfl rfl rfl rfl (by first | exact trivial | exact ⟨by omega, by omega⟩ | omega | exact ⟨by omega, by omega, by omega, by omega⟩ | exact Nat.le_of_ble_eq_true rfl) rfl ?_
          | refine r_ld tab_ok rfl rfl rfl rfl rfl ?_
          | refine r_wr tab_ok rfl rfl rfl rfl rfl ?_
          | refine r_build tab_ok rfl rfl rfl rfl rfl rfl ?_))
      refine a_loop (σ := {i : Nat // i ≤ r.decls.length}) (fun x => [.box 54 (rlC r), zDf, sdB (sayAll (sd0 nm) (r.decls.take x.1))]) (fun x => [(2, .ptr 1 0), (6, .ptr 2 0), (37, .sl 3 (r.decls.map dcD)), (38, .val (.int .i64 r.decls.length)), (39, .val (.int .i64 x.1))]) (fun x => r.decls.length - x.1) ⟨0, Nat.zero_le _⟩ (fits_conv (by repeat' first | exact trivial | exact rfl | (rw [List.map_append]; first | done | rfl) | exact c_sub rfl (Sub.refl _) rfl | exact c_nil rfl rfl | exact c_thaw rfl rfl rfl | exact c_row rfl rfl rfl | exact c_row rfl rfl (by rw [List.map_append]; first | done | rfl) | exact c_ptr rfl rfl rfl rfl | exact Or.inl ⟨c_sub rfl (Sub.refl _) rfl, c_ptr rfl rfl rfl rfl⟩ | exact c_alt rfl rfl rfl rfl | exact c_ro rfl rfl | exact c_eo rfl rfl | exact c_sub rfl (Sub.altl _ _) rfl | exact c_sub rfl (Sub.nil _) rfl | refine ⟨_, _, rfl, ?_, ?_⟩ | apply And.intro) (by repeat' first | exact trivial | exact rfl | (rw [List.map_append]; first | done | rfl) | exact c_sub rfl (Sub.refl _) rfl | exact c_nil rfl rfl | exact c_thaw rfl rfl rfl | exact c_row rfl rfl rfl | exact c_row rfl rfl (by rw [List.map_append]; first | done | rfl) | exact c_ptr rfl rfl rfl rfl | exact Or.inl ⟨c_sub rfl (Sub.refl _) rfl, c_ptr rfl rfl rfl rfl⟩ | exact c_alt rfl rfl rfl rfl | exact c_ro rfl rfl | exact c_eo rfl rfl | exact c_sub rfl (Sub.altl _ _) rfl | exact c_sub rfl (Sub.nil _) rfl | refine ⟨_, _, rfl, ?_, ?_⟩ | apply And.intro)) ?_
      rintro ⟨i, hi⟩
      dsimp only
      repeat (first
        | refine awp_seq ?_
        | refine a_region ?_
        | refine r_done ?_
        | (refine r_id ?_; first
          | refine r_ev tab_ok rfl rfl rfl rfl (by first | exact trivial | exact ⟨by omega, by omega⟩ | omega | exact ⟨by omega, by omega, by omega, by omega⟩ | exact Nat.le_of_ble_eq_true rfl) rfl ?_))
      refine awp_cond_p rfl (fun hlt => ?_) (fun hge => ?_)
      · have hlt : i < r.decls.length := by omega
        have hmem : r.decls[i] ∈ r.decls := List.getElem_mem hlt
        have h64 := said_all (r.decls.take i) (sd0 nm) (by show 0 < 64; omega)
        have hsay := dsay_ok (sayAll (sd0 nm) (r.decls.take i)) r.decls[i] (dz _ hmem) (dt _ hmem) (by omega)
        repeat (first
          | refine awp_seq ?_
          | refine thenA_normal ?_
          | refine awp_block ?_
          | refine a_region ?_
          | refine awp_skip ?_
          | refine r_done ?_
          | (refine r_id ?_; first
            | refine r_ev tab_ok rfl rfl rfl rfl (by first | exact trivial | exact ⟨by omega, by omega⟩ | omega | exact ⟨by omega, by omega, by omega, by omega⟩ | exact Nat.le_of_ble_eq_true rfl) rfl ?_
            | refine r_ld tab_ok rfl rfl rfl rfl rfl ?_
            | refine r_idx tab_ok rfl rfl rfl rfl rfl rfl rfl (by first | exact ⟨by omega, by omega⟩ | (simp; omega)) rfl rfl ?_
            | refine r_wr tab_ok rfl rfl rfl rfl rfl ?_
            | refine r_st tab_ok rfl rfl rfl rfl ?_))
        simp only [Int.toNat_natCast]
        refine r_mcall [2] hsay call31 rfl rfl ⟨rfl, trivial⟩ (by decide) ⟨Sub.refl _, Sub.refl _, trivial⟩ rfl rfl rfl rfl rfl rfl rfl ?_
        repeat (first
          | refine thenA_normal ?_
          | refine a_region ?_
          | refine r_done ?_
          | (refine r_id ?_; first
            | refine r_ev tab_ok rfl rfl rfl rfl (by first | exact trivial | exact ⟨by omega, by omega⟩ | omega | exact ⟨by omega, by omega, by omega, by omega⟩ | exact Nat.le_of_ble_eq_true rfl) rfl ?_))
        refine ⟨⟨i + 1, hlt⟩, by dsimp only; omega, ?_⟩
        dsimp only
        rw [sayAll_succ _ _ hlt]
        exact fits_drop 3 rfl rfl (by repeat' first | exact trivial | exact Sub.refl _ | exact rfl | apply And.intro)
      have : i = r.decls.length := by omega
      subst this
      rw [List.take_length]
      generalize sayAll (sd0 nm) r.decls = S at s1 s2 s3 s4 s5 ⊢
      repeat (first
        | refine awp_seq ?_
        | refine awp_block ?_
        | refine awp_exit ?_)
      by_cases hx : S.system = extendsS
      · obtain ⟨x1, x2, x3, x4, x5, x6, x7, x8, x9, x10, x11, x12, x13, x14, x15, x16, x17, x18, x19, x20, x21⟩ := S
        have hx2 : x2 = extendsS := hx
        subst hx2
        cases x20 with
        | true =>
          rw [show endP ⟨x1, extendsS, x3, x4, x5, x6, x7, x8, x9, x10, x11, x12, x13, x14, x15, x16, x17, x18, x19, true, x21⟩ = (zSd, 2) from if_pos ⟨rfl, rfl⟩]
          repeat (first
            | refine awp_seq ?_
            | refine thenA_normal ?_
            | refine a_region ?_
            | refine awp_ret ?_
            | refine thenA_ret ?_
            | refine blockA_ret ?_
            | refine r_done ?_
            | (refine r_id ?_; first
              | refine r_ev tab_ok rfl rfl rfl rfl (by first | exact trivial | exact ⟨by omega, by omega⟩ | omega | exact ⟨by omega, by omega, by omega, by omega⟩ | exact Nat.le_of_ble_eq_true rfl) rfl ?_
              | refine r_ld tab_ok rfl rfl rfl rfl rfl ?_
              | refine r_st tab_ok rfl rfl rfl rfl ?_
              | refine r_pick_t rfl rfl rfl rfl rfl rfl rfl ?_
              | refine r_off rfl rfl rfl rfl rfl rfl ?_
              | refine r_ev_on tab_ok rfl rfl rfl rfl rfl rfl (by first | exact trivial | exact ⟨by omega, by omega⟩ | omega) rfl ?_
              | refine r_ld_on tab_ok rfl rfl rfl rfl rfl rfl rfl ?_
              | refine r_build tab_ok rfl rfl rfl rfl rfl rfl ?_
              | refine r_nilck rfl rfl rfl rfl rfl rfl rfl ?_)
            | refine awp_cond_t rfl ?_
            | refine r_g rfl rfl rfl ?_)
          repeat refine r_offu rfl rfl rfl rfl rfl rfl ?_
          all_goals exact ret2ct tab_ok (by first | exact .inl rfl | exact .inr rfl) rfl rfl rfl rfl rfl rfl rfl (Sub.agg (by repeat' first | exact trivial | exact Sub.refl _ | exact Sub.nil _ | refine Sub.agg ?_ | apply And.intro)) (Sub.refl _)
        | false =>
          cases x21 with
          | true =>
            rw [show endP ⟨x1, extendsS, x3, x4, x5, x6, x7, x8, x9, x10, x11, x12, x13, x14, x15, x16, x17, x18, x19, false, true⟩ = (zSd, 2) from if_pos ⟨rfl, rfl⟩]
            repeat (first
              | refine awp_seq ?_
              | refine thenA_normal ?_
              | refine a_region ?_
              | refine awp_ret ?_
              | refine thenA_ret ?_
              | refine blockA_ret ?_
              | refine r_done ?_
              | (refine r_id ?_; first
                | refine r_ev tab_ok rfl rfl rfl rfl (by first | exact trivial | exact ⟨by omega, by omega⟩ | omega | exact ⟨by omega, by omega, by omega, by omega⟩ | exact Nat.le_of_ble_eq_true rfl) rfl ?_
                | refine r_ld tab_ok rfl rfl rfl rfl rfl ?_
                | refine r_st tab_ok rfl rfl rfl rfl ?_
                | refine r_pick_t rfl rfl rfl rfl rfl rfl rfl ?_
                | refine r_pick_f rfl rfl rfl rfl rfl rfl rfl ?_
                | refine r_ev_on tab_ok rfl rfl rfl rfl rfl rfl (by first | exact trivial | exact ⟨by omega, by omega⟩ | omega) rfl ?_
                | refine r_ld_on tab_ok rfl rfl rfl rfl rfl rfl rfl ?_
                | refine r_build tab_ok rfl rfl rfl rfl rfl rfl ?_
                | refine r_nilck rfl rfl rfl rfl rfl rfl rfl ?_)
              | refine awp_cond_t rfl ?_
              | refine r_g rfl rfl rfl ?_)
            all_goals exact ret2ct tab_ok (by first | exact .inl rfl | exact .inr rfl) rfl rfl rfl rfl rfl rfl rfl (Sub.agg (by repeat' first | exact trivial | exact Sub.refl _ | exact Sub.nil _ | refine Sub.agg ?_ | apply And.intro)) (Sub.refl _)
          | false =>
            rw [show endP ⟨x1, extendsS, x3, x4, x5, x6, x7, x8, x9, x10, x11, x12, x13, x14, x15, x16, x17, x18, x19, false, false⟩ = (if mayD ⟨x1, extendsS, x3, x17, x5, x6, x7, x8, x9, x10, x11, x12, x13, x14, x15, x16, x17, x18, x19, false, false⟩ then (⟨x1, extendsS, x3, x17, x5, x6, x7, x8, x9, x10, x11, x12, x13, x14, x15, x16, x17, x18, x19, false, false⟩, 0) else (zSd, 2) : Sd × Int) from if_neg (fun h => Bool.false_ne_true h.2)]
            repeat (first
              | refine awp_seq ?_
              | refine thenA_normal ?_
              | refine a_region ?_
              | refine r_done ?_
              | (refine r_id ?_; first
                | refine r_ev tab_ok rfl rfl rfl rfl (by first | exact trivial | exact ⟨by omega, by omega⟩ | omega | exact ⟨by omega, by omega, by omega, by omega⟩ | exact Nat.le_of_ble_eq_true rfl) rfl ?_
                | refine r_ld tab_ok rfl rfl rfl rfl rfl ?_
                | refine r_st tab_ok rfl rfl rfl rfl ?_
                | refine r_pick_t rfl rfl rfl rfl rfl rfl rfl ?_
                | refine r_pick_f rfl rfl rfl rfl rfl rfl rfl ?_
                | refine r_ev_on tab_ok rfl rfl rfl rfl rfl rfl (by first | exact trivial | exact ⟨by omega, by omega⟩ | omega) rfl ?_
                | refine r_ld_on tab_ok rfl rfl rfl rfl rfl rfl rfl ?_
                | refine r_nilck rfl rfl rfl rfl rfl rfl rfl ?_)
              | refine awp_cond_f rfl ?_
              | refine r_g rfl rfl rfl ?_)
            refine r_call (smay_ok ⟨x1, extendsS, x3, x17, x5, x6, x7, x8, x9, x10, x11, x12, x13, x14, x15, x16, x17, x18, x19, false, false⟩ s1 s5 s4) call10 rfl rfl ⟨Sub.refl _, trivial⟩ rfl rfl rfl rfl ?_
            cases hm : mayD ⟨x1, extendsS, x3, x17, x5, x6, x7, x8, x9, x10, x11, x12, x13, x14, x15, x16, x17, x18, x19, false, false⟩ with
            | true =>
              rw [if_pos rfl]
              repeat (first
                | refine awp_seq ?_
                | refine thenA_normal ?_
                | refine a_region ?_
                | refine awp_ret ?_
                | refine awp_skip ?_
                | refine r_done ?_
                | (refine r_id ?_; first
                  | refine r_ev tab_ok rfl rfl rfl rfl (by first | exact trivial | exact ⟨by omega, by omega⟩ | omega | exact ⟨by omega, by omega, by omega, by omega⟩ | exact Nat.le_of_ble_eq_true rfl) rfl ?_
                  | refine r_ld tab_ok rfl rfl rfl rfl rfl ?_
                  | refine r_st tab_ok rfl rfl rfl rfl ?_
                  | refine r_nilck rfl rfl rfl rfl rfl rfl rfl ?_)
                | refine awp_cond_f rfl ?_)
              all_goals exact ret2ct tab_ok (by first | exact .inl rfl | exact .inr rfl) rfl rfl rfl rfl rfl rfl rfl (Sub.refl _) (Sub.refl _)
            | false =>
              rw [if_neg Bool.false_ne_true]
              repeat (first
                | refine awp_seq ?_
                | refine thenA_normal ?_
                | refine a_region ?_
                | refine awp_ret ?_
                | refine thenA_ret ?_
                | refine r_done ?_
                | (refine r_id ?_; first
                  | refine r_ev tab_ok rfl rfl rfl rfl (by first | exact trivial | exact ⟨by omega, by omega⟩ | omega | exact ⟨by omega, by omega, by omega, by omega⟩ | exact Nat.le_of_ble_eq_true rfl) rfl ?_
                  | refine r_st tab_ok rfl rfl rfl rfl ?_
                  | refine r_build tab_ok rfl rfl rfl rfl rfl rfl ?_)
                | refine awp_cond_t rfl ?_)
              all_goals exact ret2ct tab_ok (by first | exact .inl rfl | exact .inr rfl) rfl rfl rfl rfl rfl rfl rfl (Sub.agg (by repeat' first | exact trivial | exact Sub.refl _ | exact Sub.nil _ | refine Sub.agg ?_ | apply And.intro)) (Sub.refl _)
      · by_cases ha : S.system = additiveS
        · rw [show endP S = if mayD (endP1 S) then (endP1 S, 0) else (zSd, 2) from if_neg (fun h => hx h.1), show endP1 S = { S with symbols := S.sums, weights := S.wts } from if_pos ha]
          refine a_region ?_
          refine r_ev tab_ok rfl rfl rfl rfl trivial rfl ?_
          repeat (first
            | (refine r_id ?_; first
              | refine r_nilck rfl rfl rfl rfl rfl rfl rfl ?_))
          refine r_ev tab_ok rfl rfl rfl rfl trivial rfl ?_
          refine r_ev tab_ok rfl rfl rfl rfl trivial rfl ?_
          repeat (first
            | (refine r_id ?_; first
              | refine r_ld tab_ok rfl rfl rfl rfl rfl ?_))
          refine r_eqs tab_ok rfl rfl rfl rfl (decide_eq_false (show ¬ S.system = ⟨#[101, 120, 116, 101, 110, 100, 115]⟩ from hx)) rfl rfl rfl ?_
          repeat (first
            | (refine r_id ?_; first
              | refine r_ev tab_ok rfl rfl rfl rfl (by first | exact trivial | exact ⟨by omega, by omega⟩ | omega | exact ⟨by omega, by omega, by omega, by omega⟩ | exact Nat.le_of_ble_eq_true rfl) rfl ?_
              | refine r_off rfl rfl rfl rfl rfl rfl ?_))
          repeat refine r_offu rfl rfl rfl rfl rfl rfl ?_
          repeat (first
            | refine awp_seq ?_
            | refine thenA_normal ?_
            | refine a_region ?_
            | refine r_done ?_
            | (refine r_id ?_; first
              | refine r_ev tab_ok rfl rfl rfl rfl (by first | exact trivial | exact ⟨by omega, by omega⟩ | omega | exact ⟨by omega, by omega, by omega, by omega⟩ | exact Nat.le_of_ble_eq_true rfl) rfl ?_
              | refine r_ld tab_ok rfl rfl rfl rfl rfl ?_
              | refine r_pick_f rfl rfl rfl rfl rfl rfl rfl ?_
              | refine r_off rfl rfl rfl rfl rfl rfl ?_
              | refine r_nilck rfl rfl rfl rfl rfl rfl rfl ?_)
            | refine awp_cond_f rfl ?_)
          refine awp_cond_p rfl (fun _ => ?_) (fun h => absurd ha h)
          refine a_draw3 mixed_ok _ [_, _, _, _, _, _, _, _, _] [_, _, _] [_, _, _, _] _ _ [0, 0, 0, 0, 0, 1, 0, 0, 0] [0, 0, 0] [0, 0, 0, 2] 1 2 rfl rfl rfl rfl rfl (by kernel_rfl) ?_
          repeat (first
            | refine r_done' ?_
            | (refine r_id ?_; first
              | refine r_ev tab_ok rfl rfl rfl rfl (by first | exact trivial | exact ⟨by omega, by omega⟩ | omega | exact ⟨by omega, by omega, by omega, by omega⟩ | exact Nat.le_of_ble_eq_true rfl) rfl ?_
              | refine r_ld tab_ok rfl rfl rfl rfl rfl ?_
              | refine r_nilck rfl rfl rfl rfl rfl rfl rfl ?_))
          refine ⟨?_, ?_⟩
          · repeat (first
              | refine awp_seq ?_
              | refine a_region ?_
              | refine r_done' ?_
              | (refine r_id ?_; first
                | refine r_ev tab_ok rfl rfl rfl rfl (by first | exact trivial | exact ⟨by omega, by omega⟩ | omega | exact ⟨by omega, by omega, by omega, by omega⟩ | exact Nat.le_of_ble_eq_true rfl) rfl ?_
                | refine r_ld tab_ok rfl rfl rfl rfl rfl ?_
                | refine r_st tab_ok rfl rfl rfl rfl ?_
                | refine r_nilck rfl rfl rfl rfl rfl rfl rfl ?_))
            refine r_call (smay_ok { S with symbols := S.sums, weights := S.wts } s2 s3 s4) call10 rfl rfl ⟨Sub.refl _, trivial⟩ rfl rfl rfl rfl ?_
            cases hm : mayD { S with symbols := S.sums, weights := S.wts } with
            | true =>
              rw [if_pos rfl]
              repeat (first
                | refine awp_seq ?_
                | refine thenA_normal ?_
                | refine a_region ?_
                | refine awp_ret ?_
                | refine awp_skip ?_
                | refine r_done ?_
                | (refine r_id ?_; first
                  | refine r_ev tab_ok rfl rfl rfl rfl (by first | exact trivial | exact ⟨by omega, by omega⟩ | omega | exact ⟨by omega, by omega, by omega, by omega⟩ | exact Nat.le_of_ble_eq_true rfl) rfl ?_
                  | refine r_ld tab_ok rfl rfl rfl rfl rfl ?_
                  | refine r_st tab_ok rfl rfl rfl rfl ?_
                  | refine r_nilck rfl rfl rfl rfl rfl rfl rfl ?_)
                | refine awp_cond_f rfl ?_)
              all_goals exact ret2ct tab_ok (by first | exact .inl rfl | exact .inr rfl) rfl rfl rfl rfl rfl rfl rfl (Sub.refl _) (Sub.refl _)
            | false =>
              rw [if_neg Bool.false_ne_true]
              repeat (first
                | refine awp_seq ?_
                | refine thenA_normal ?_
                | refine a_region ?_
                | refine awp_ret ?_
                | refine thenA_ret ?_
                | refine r_done ?_
                | (refine r_id ?_; first
                  | refine r_ev tab_ok rfl rfl rfl rfl (by first | exact trivial | exact ⟨by omega, by omega⟩ | omega | exact ⟨by omega, by omega, by omega, by omega⟩ | exact Nat.le_of_ble_eq_true rfl) rfl ?_
                  | refine r_st tab_ok rfl rfl rfl rfl ?_
                  | refine r_build tab_ok rfl rfl rfl rfl rfl rfl ?_)
                | refine awp_cond_t rfl ?_)
              all_goals exact ret2ct tab_ok (by first | exact .inl rfl | exact .inr rfl) rfl rfl rfl rfl rfl rfl rfl (Sub.agg (by repeat' first | exact trivial | exact Sub.refl _ | exact Sub.nil _ | refine Sub.agg ?_ | apply And.intro)) (Sub.refl _)
          · repeat (first
              | refine awp_seq ?_
              | refine a_region ?_
              | refine r_done' ?_
              | (refine r_id ?_; first
                | refine r_ev tab_ok rfl rfl rfl rfl (by first | exact trivial | exact ⟨by omega, by omega⟩ | omega | exact ⟨by omega, by omega, by omega, by omega⟩ | exact Nat.le_of_ble_eq_true rfl) rfl ?_
                | refine r_ld tab_ok rfl rfl rfl rfl rfl ?_
                | refine r_st tab_ok rfl rfl rfl rfl ?_
                | refine r_nilck rfl rfl rfl rfl rfl rfl rfl ?_))
            refine r_call (smay_ok { S with symbols := S.sums, weights := S.wts } s2 s3 s4) call10 rfl rfl ⟨Sub.refl _, trivial⟩ rfl rfl rfl rfl ?_
            cases hm : mayD { S with symbols := S.sums, weights := S.wts } with
            | true =>
              rw [if_pos rfl]
              repeat (first
                | refine awp_seq ?_
                | refine thenA_normal ?_
                | refine a_region ?_
                | refine awp_ret ?_
                | refine awp_skip ?_
                | refine r_done ?_
                | (refine r_id ?_; first
                  | refine r_ev tab_ok rfl rfl rfl rfl (by first | exact trivial | exact ⟨by omega, by omega⟩ | omega | exact ⟨by omega, by omega, by omega, by omega⟩ | exact Nat.le_of_ble_eq_true rfl) rfl ?_
                  | refine r_ld tab_ok rfl rfl rfl rfl rfl ?_
                  | refine r_st tab_ok rfl rfl rfl rfl ?_
                  | refine r_nilck rfl rfl rfl rfl rfl rfl rfl ?_)
                | refine awp_cond_f rfl ?_)
              all_goals exact ret2ct tab_ok (by first | exact .inl rfl | exact .inr rfl) rfl rfl rfl rfl rfl rfl rfl (Sub.refl _) (Sub.refl _)
            | false =>
              rw [if_neg Bool.false_ne_true]
              repeat (first
                | refine awp_seq ?_
                | refine thenA_normal ?_
                | refine a_region ?_
                | refine awp_ret ?_
                | refine thenA_ret ?_
                | refine r_done ?_
                | (refine r_id ?_; first
                  | refine r_ev tab_ok rfl rfl rfl rfl (by first | exact trivial | exact ⟨by omega, by omega⟩ | omega | exact ⟨by omega, by omega, by omega, by omega⟩ | exact Nat.le_of_ble_eq_true rfl) rfl ?_
                  | refine r_st tab_ok rfl rfl rfl rfl ?_
                  | refine r_build tab_ok rfl rfl rfl rfl rfl rfl ?_)
                | refine awp_cond_t rfl ?_)
              all_goals exact ret2ct tab_ok (by first | exact .inl rfl | exact .inr rfl) rfl rfl rfl rfl rfl rfl rfl (Sub.agg (by repeat' first | exact trivial | exact Sub.refl _ | exact Sub.nil _ | refine Sub.agg ?_ | apply And.intro)) (Sub.refl _)
        · rw [show endP S = if mayD (endP1 S) then (endP1 S, 0) else (zSd, 2) from if_neg (fun h => hx h.1), show endP1 S = { S with symbols := S.syms } from if_neg ha]
          refine a_region ?_
          refine r_ev tab_ok rfl rfl rfl rfl trivial rfl ?_
          repeat (first
            | (refine r_id ?_; first
              | refine r_nilck rfl rfl rfl rfl rfl rfl rfl ?_))
          refine r_ev tab_ok rfl rfl rfl rfl trivial rfl ?_
          refine r_ev tab_ok rfl rfl rfl rfl trivial rfl ?_
          repeat (first
            | (refine r_id ?_; first
              | refine r_ld tab_ok rfl rfl rfl rfl rfl ?_))
          refine r_eqs tab_ok rfl rfl rfl rfl (decide_eq_false (show ¬ S.system = ⟨#[101, 120, 116, 101, 110, 100, 115]⟩ from hx)) rfl rfl rfl ?_
          repeat (first
            | (refine r_id ?_; first
              | refine r_ev tab_ok rfl rfl rfl rfl (by first | exact trivial | exact ⟨by omega, by omega⟩ | omega | exact ⟨by omega, by omega, by omega, by omega⟩ | exact Nat.le_of_ble_eq_true rfl) rfl ?_
              | refine r_off rfl rfl rfl rfl rfl rfl ?_))
          repeat refine r_offu rfl rfl rfl rfl rfl rfl ?_
          repeat (first
            | refine awp_seq ?_
            | refine thenA_normal ?_
            | refine a_region ?_
            | refine r_done ?_
            | (refine r_id ?_; first
              | refine r_ev tab_ok rfl rfl rfl rfl (by first | exact trivial | exact ⟨by omega, by omega⟩ | omega | exact ⟨by omega, by omega, by omega, by omega⟩ | exact Nat.le_of_ble_eq_true rfl) rfl ?_
              | refine r_ld tab_ok rfl rfl rfl rfl rfl ?_
              | refine r_pick_f rfl rfl rfl rfl rfl rfl rfl ?_
              | refine r_off rfl rfl rfl rfl rfl rfl ?_
              | refine r_nilck rfl rfl rfl rfl rfl rfl rfl ?_)
            | refine awp_cond_f rfl ?_)
          refine awp_cond_p rfl (fun h => absurd h ha) (fun _ => ?_)
          repeat (first
            | refine awp_seq ?_
            | refine a_region ?_
            | refine r_done ?_
            | (refine r_id ?_; first
              | refine r_ev tab_ok rfl rfl rfl rfl (by first | exact trivial | exact ⟨by omega, by omega⟩ | omega | exact ⟨by omega, by omega, by omega, by omega⟩ | exact Nat.le_of_ble_eq_true rfl) rfl ?_
              | refine r_ld tab_ok rfl rfl rfl rfl rfl ?_
              | refine r_st tab_ok rfl rfl rfl rfl ?_
              | refine r_nilck rfl rfl rfl rfl rfl rfl rfl ?_))
          refine r_call (smay_ok { S with symbols := S.syms } s1 s5 s4) call10 rfl rfl ⟨Sub.refl _, trivial⟩ rfl rfl rfl rfl ?_
          cases hm : mayD { S with symbols := S.syms } with
          | true =>
            rw [if_pos rfl]
            repeat (first
              | refine awp_seq ?_
              | refine thenA_normal ?_
              | refine a_region ?_
              | refine awp_ret ?_
              | refine awp_skip ?_
              | refine r_done ?_
              | (refine r_id ?_; first
                | refine r_ev tab_ok rfl rfl rfl rfl (by first | exact trivial | exact ⟨by omega, by omega⟩ | omega | exact ⟨by omega, by omega, by omega, by omega⟩ | exact Nat.le_of_ble_eq_true rfl) rfl ?_
                | refine r_ld tab_ok rfl rfl rfl rfl rfl ?_
                | refine r_st tab_ok rfl rfl rfl rfl ?_
                | refine r_nilck rfl rfl rfl rfl rfl rfl rfl ?_)
              | refine awp_cond_f rfl ?_)
            all_goals exact ret2ct tab_ok (by first | exact .inl rfl | exact .inr rfl) rfl rfl rfl rfl rfl rfl rfl (Sub.refl _) (Sub.refl _)
          | false =>
            rw [if_neg Bool.false_ne_true]
            repeat (first
              | refine awp_seq ?_
              | refine thenA_normal ?_
              | refine a_region ?_
              | refine awp_ret ?_
              | refine thenA_ret ?_
              | refine r_done ?_
              | (refine r_id ?_; first
                | refine r_ev tab_ok rfl rfl rfl rfl (by first | exact trivial | exact ⟨by omega, by omega⟩ | omega | exact ⟨by omega, by omega, by omega, by omega⟩ | exact Nat.le_of_ble_eq_true rfl) rfl ?_
                | refine r_st tab_ok rfl rfl rfl rfl ?_
                | refine r_build tab_ok rfl rfl rfl rfl rfl rfl ?_)
              | refine awp_cond_t rfl ?_)
            all_goals exact ret2ct tab_ok (by first | exact .inl rfl | exact .inr rfl) rfl rfl rfl rfl rfl rfl rfl (Sub.agg (by repeat' first | exact trivial | exact Sub.refl _ | exact Sub.nil _ | refine Sub.agg ?_ | apply And.intro)) (Sub.refl _)
  · rw [show defP r = (zSd, 1) from if_neg (fun h => hat h.1)]
    have hat2 : ¬ r.at_ = ⟨#[99, 111, 117, 110, 116, 101, 114, 45, 115, 116, 121, 108, 101]⟩ := hat
    repeat (first
      | refine awp_seq ?_
      | refine thenA_normal ?_
      | refine a_region ?_
      | refine r_done ?_
      | (refine r_id ?_; first
        | refine r_ev tab_ok rfl rfl rfl rfl (by first | exact trivial | exact ⟨by omega, by omega⟩ | omega | exact ⟨by omega, by omega, by omega, by omega⟩ | exact Nat.le_of_ble_eq_true rfl) rfl ?_
        | refine r_ld tab_ok rfl rfl rfl rfl rfl ?_
        | refine r_wr tab_ok rfl rfl rfl rfl rfl ?_
        | refine r_ev_cnd tab_ok rfl rfl rfl rfl rfl rfl (by first | exact fun _ => rfl | exact cs1 | exact cs2 | exact cs3) (by first | exact fun _ => trivial | (intro h; simp at h; first | exact ⟨by omega, by omega⟩ | omega)) rfl ?_
        | refine r_ld_cnd tab_ok rfl rfl rfl rfl rfl rfl (by first | exact fun _ => rfl | exact cs1 | exact cs2 | exact cs3) rfl ?_
        | refine r_or rfl rfl rfl rfl rfl rfl rfl rfl ?_))
    refine awp_cond rfl (fun _ => ?_) (fun hno => ?_)
    · repeat (first
        | refine awp_seq ?_
        | refine thenA_normal ?_
        | refine a_region ?_
        | refine awp_ret ?_
        | refine thenA_ret ?_
        | refine r_done ?_
        | (refine r_id ?_; first
          | refine r_ev tab_ok rfl rfl rfl rfl (by first | exact trivial | exact ⟨by omega, by omega⟩ | omega | exact ⟨by omega, by omega, by omega, by omega⟩ | exact Nat.le_of_ble_eq_true rfl) rfl ?_
          | refine r_st tab_ok rfl rfl rfl rfl ?_
          | refine r_build tab_ok rfl rfl rfl rfl rfl rfl ?_))
      all_goals exact ret2ct tab_ok (by first | exact .inl rfl | exact .inr rfl) rfl rfl rfl rfl rfl rfl rfl (Sub.agg (by repeat' first | exact trivial | exact Sub.refl _ | exact Sub.nil _ | refine Sub.agg ?_ | apply And.intro)) (Sub.refl _)
    · exfalso
      simp [hat2] at hno
end Go.Proofs.YtihakfihojickaaDoor
