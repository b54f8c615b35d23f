/- system.May; walked. -/
import Derived.Test.YtllmagfmbglefaaDoorI2
namespace Go.Proofs.YtllmagfmbglefaaDoor
open Go Go.RowKit
set_option maxRecDepth 20000

def cyclicS : ByteArray := ⟨#[99, 121, 99, 108, 105, 99]⟩
def qV : ByteArray := ⟨#[115, 121, 109, 98, 111, 108, 105, 99]⟩
def fixedS : ByteArray := ⟨#[102, 105, 120, 101, 100]⟩
def alphabeticS : ByteArray := ⟨#[97, 108, 112, 104, 97, 98, 101, 116, 105, 99]⟩
def numericS : ByteArray := ⟨#[110, 117, 109, 101, 114, 105, 99]⟩
def y8 : ByteArray := ⟨#[97, 100, 100, 105, 116, 105, 118, 101]⟩
def wS : ByteArray := ⟨#[101, 120, 116, 101, 110, 100, 115]⟩

theorem long_ok (s : ByteArray) : uV Tryd.prog 39 [.val (.string s)] (.val (.bool (decide (100 < (s.size : Int))))) := by
  refine u1 Tryd.func39 Tryd.ntmps39 rfl rfl rfl fun S w => ?_
  repeat (first | refine uf ?_ | refine uc ?_ | refine ud ?_ | refine un ?_ | refine ug ?_ | (refine uk ?_; first | refine ul tab_ok rfl rfl rfl rfl (by first | exact trivial | omega | exact nl rfl) rfl ?_) | refine vh (by simp) rfl rfl rfl ?_)
  exact Sub.refl _
theorem mayr_ok (r : Int × Int) : uV Tryd.prog 41 [.agg [.val (.int .i64 r.1), .val (.int .i64 r.2)]] (.val (.bool (decide (r.2 < r.1) || decide (r.1 < -2147483648) || decide (2147483647 < r.2)))) := by
  refine u1 Tryd.func41 Tryd.ntmps41 rfl rfl rfl fun S w => ?_
  repeat (first | refine uf ?_ | refine uc ?_ | refine ud ?_ | refine un ?_ | refine ug ?_ | (refine uk ?_; first | refine ul tab_ok rfl rfl rfl rfl (by first | exact trivial | omega | exact nl rfl) rfl ?_ | refine u9 tab_ok rfl rfl rfl rfl rfl ?_ | refine vI tab_ok rfl rfl rfl rfl rfl ?_ | refine uB tab_ok rfl rfl rfl rfl rfl rfl (by first | exact fun _ => rfl | exact cs1 | exact cs2 | exact cs3) (by first | exact fun _ => trivial | (intro h; simp at h; omega)) rfl ?_ | refine vY tab_ok rfl rfl rfl rfl rfl rfl (by first | exact fun _ => rfl | exact cs1 | exact cs2 | exact cs3) rfl ?_ | refine we rfl rfl rfl rfl rfl rfl rfl rfl ?_ | refine r_idxa tab_ok rfl rfl rfl rfl (by decide) rfl rfl rfl rfl ?_ | refine r_idxa_cnd tab_ok rfl rfl rfl rfl rfl rfl (by decide) rfl rfl rfl (by first | exact fun _ => rfl | exact cs1 | exact cs2 | exact cs3) rfl ?_) | refine vh (by simp) rfl rfl rfl ?_)
  exact Sub.refl _
/-- Weights that fall. -/
def fallF : List Int → Bool
  | [] => true
  | [a] => decide (0 ≤ a)
  | a :: b :: r => decide (0 ≤ a) && decide (b < a) && fallF (b :: r)
def qi (l : List Int) (i : Nat) : Bool := decide (0 ≤ l.getD i 0) && (decide (i = 0) || decide (l.getD i 0 < l.getD (i - 1) 0))
theorem fall_all : ∀ (l : List Int), fallF l = (List.range l.length).all (qi l)
  | [] => rfl
  | [a] => by simp [fallF, qi, List.range_succ]
  | a :: b :: r => by
    rw [fallF, fall_all (b :: r)]
    rw [Bool.eq_iff_iff]
    simp only [Bool.and_eq_true, List.all_eq_true, List.mem_range, decide_eq_true_eq, qi, Bool.or_eq_true, List.length_cons]
    constructor
    · rintro ⟨⟨h1, h2⟩, h3⟩ i hi
      match i with
      | 0 => exact ⟨by simpa using h1, .inl rfl⟩
      | 1 => exact ⟨by have := (h3 0 (by omega)).1; simpa using this, .inr (by simpa using h2)⟩
      | i + 2 =>
        obtain ⟨h4, h5⟩ := h3 (i + 1) (by omega)
        exact ⟨by simpa using h4, .inr (by rcases h5 with h | h; omega; simpa using h)⟩
    · intro h
      refine ⟨⟨by simpa using (h 0 (by omega)).1, ?_⟩, fun i hi => ?_⟩
      · rcases (h 1 (by omega)).2 with h | h
        · omega
        · simpa using h
      · obtain ⟨h4, h5⟩ := h (i + 1) (by omega)
        refine ⟨by simpa using h4, ?_⟩
        rcases Nat.eq_zero_or_pos i with h0 | h0
        · exact .inl h0
        · obtain ⟨j, rfl⟩ : ∃ j, i = j + 1 := ⟨i - 1, by omega⟩
          rcases h5 with h | h
          · omega
          · exact .inr (by simpa using h)
theorem falling_ok (l : List Int) (hl : l.length ≤ 4611686018427387904) : uV Tryd.prog 62 [.sl 1 (l.map wtD)] (.val (.bool (fallF l))) := by
  refine u1 Tryd.func62 Tryd.ntmps62 rfl rfl rfl fun S w => ?_
  repeat (first | refine uf ?_ | refine uc ?_ | refine uw ?_ | refine ud ?_ | refine ug ?_ | (refine uk ?_; first | refine vf tab_ok rfl rfl rfl rfl rfl rfl rfl ?_ | refine ul tab_ok rfl rfl rfl rfl (by first | exact trivial | omega | exact nl rfl) rfl ?_))
  refine vk (σ := {i : Nat // i ≤ l.length ∧ (List.range i).all (qi l) = true}) (fun _ => []) (fun x => [(0, .sl 1 (l.map wtD)), (5, .sl 1 (l.map wtD)), (6, .val (.int .i64 l.length)), (7, .val (.int .i64 x.1))]) (fun x => l.length - x.1) ⟨0, by simp⟩
    (vg rfl ⟨Sub.refl _, Sub.refl _, Sub.refl _, Sub.refl _, trivial⟩) ?_
  rintro ⟨i, hi, hall⟩
  dsimp only
  repeat (first | refine uf ?_ | refine ud ?_ | refine ug ?_ | (refine uk ?_; first | refine ul tab_ok rfl rfl rfl rfl (by first | exact trivial | omega | exact nl rfl) rfl ?_))
  refine uz rfl (fun hlt => ?_) (fun hge => ?_)
  · have hi' : i < l.length := by omega
    have hg0 : l.getD i 0 = l[i] := by simp [hi']
    repeat (first | refine uf ?_ | refine uc ?_ | refine uw ?_ | refine ud ?_ | refine uq ?_ | refine ug ?_ | (refine uk ?_; first | refine ul tab_ok rfl rfl rfl rfl (by first | exact trivial | omega | exact nl rfl) rfl ?_ | refine wk tab_ok rfl rfl rfl rfl rfl rfl rfl (by first | exact ⟨by omega, by omega⟩ | (simp; omega)) rfl rfl ?_ | refine uB tab_ok rfl rfl rfl rfl rfl rfl (by first | exact fun _ => rfl | exact cs1 | exact cs2 | exact cs3) (by first | exact fun _ => trivial | (intro h; simp at h; omega)) rfl ?_ | refine ze tab_ok rfl rfl rfl rfl rfl rfl rfl (by first | exact fun _ => rfl | exact cs1 | exact cs2 | exact cs3) rfl rfl (by first | (intro h; simp at h; exact ⟨by omega, by omega⟩) | (intro h; simp only [Bool.and_eq_true, Bool.or_eq_false_iff, beq_iff_eq, decide_eq_false_iff_not, decide_eq_true_eq] at h; exact ⟨by omega, by omega⟩)) rfl rfl ?_ | refine wz rfl rfl rfl rfl rfl rfl rfl rfl rfl rfl ?_ | refine we rfl rfl rfl rfl rfl rfl rfl rfl ?_))
    simp only [Int.toNat_natCast]
    refine uH rfl (fun hb => ?_) (fun hb => ?_)
    · repeat (first | refine uf ?_ | refine uc ?_ | refine ud ?_ | refine un ?_ | refine ur ?_ | refine uE ?_ | refine ug ?_ | (refine uk ?_; first | refine ul tab_ok rfl rfl rfl rfl (by first | exact trivial | omega | exact nl rfl) rfl ?_) | refine vh (by simp) rfl rfl rfl ?_)
      exact Sub.of_eq (by
        have : fallF l = false := by
          rw [fall_all, Bool.eq_false_iff]
          intro h
          rw [List.all_eq_true] at h
          have h1 := h i (List.mem_range.2 hi')
          simp only [qi, hg0, Bool.and_eq_true, Bool.or_eq_true, decide_eq_true_eq] at h1
          simp only [Bool.or_eq_true, Bool.and_eq_true, decide_eq_true_eq] at hb
          rcases hb with hb | ⟨hb, hb2⟩
          · omega
          · have e1 : (((i : Int) - 1).toNat) = i - 1 := by omega
            rw [e1] at hb2
            have e2 : l.getD (i - 1) default = l.getD (i - 1) 0 := rfl
            rw [e2] at hb2
            omega
        rw [this])
    · have hs : (List.range (i + 1)).all (qi l) = true := by
        rw [List.range_succ, List.all_append, hall]
        simp only [Bool.or_eq_false_iff, Bool.and_eq_false_iff, decide_eq_false_iff_not] at hb
        simp only [List.all_cons, List.all_nil, Bool.and_true, Bool.true_and, qi, hg0, Bool.and_eq_true, Bool.or_eq_true, decide_eq_true_eq]
        refine ⟨by omega, ?_⟩
        rcases hb.2 with h | h
        · exact .inl (by omega)
        · right
          have e1 : (((i : Int) - 1).toNat) = i - 1 := by omega
          rw [e1] at h
          have e2 : l.getD (i - 1) default = l.getD (i - 1) 0 := rfl
          rw [e2] at h
          omega
      repeat (first | refine uc ?_ | refine ud ?_ | refine uq ?_ | refine ug ?_ | (refine uk ?_; first | refine ul tab_ok rfl rfl rfl rfl (by first | exact trivial | omega | exact nl rfl) rfl ?_))
      exact ⟨⟨i + 1, by omega, hs⟩, by dsimp only; omega, vg rfl ⟨Sub.refl _, Sub.refl _, Sub.refl _, Sub.refl _, trivial⟩⟩
  · have : i = l.length := by omega
    subst this
    repeat (first | refine uf ?_ | refine uc ?_ | refine ud ?_ | refine un ?_ | refine uP ?_ | refine ug ?_ | (refine uk ?_; first | refine ul tab_ok rfl rfl rfl rfl (by first | exact trivial | omega | exact nl rfl) rfl ?_) | refine vh (by simp) rfl rfl rfl ?_)
    exact Sub.of_eq (by rw [fall_all, hall])
theorem find_str_ok (l : List ByteArray) (p : ByteArray → Bool) (f : FuncId) (caps : List AV) (hl : l.length ≤ 4611686018427387904) (hcall : uG Tryd.prog f) (hcf : AV.frees caps = true) (hp : ∀ s ∈ l, uV Tryd.prog f (.val (.string s) :: caps) (.val (.bool (p s)))) :
    uV Tryd.prog 63 [.sl 1 (l.map sF), .cl f caps] (.val (.int .i64 (yv p l))) := by
  refine u1 Tryd.func63 Tryd.ntmps63 rfl rfl rfl fun S w => ?_
  repeat (first | refine uf ?_ | refine uc ?_ | refine uw ?_ | refine ud ?_ | refine ug ?_ | (refine uk ?_; first | refine vf tab_ok rfl rfl rfl rfl rfl rfl rfl ?_ | refine ul tab_ok rfl rfl rfl rfl (by first | exact trivial | omega | exact nl rfl) rfl ?_))
  refine vk (σ := {i : Nat // i ≤ l.findIdx p}) (fun _ => []) (fun x => [(0, .sl 1 (l.map sF)), (1, .cl f caps), (7, .val (.int .i64 l.length)), (8, .val (.int .i64 x.1))]) (fun x => l.length - x.1) ⟨0, Nat.zero_le _⟩
    (vg rfl ⟨Sub.refl _, Sub.refl _, Sub.refl _, Sub.refl _, trivial⟩) ?_
  rintro ⟨i, hi⟩
  dsimp only
  have hle := List.findIdx_le_length (p := p) (xs := l)
  repeat (first | refine uf ?_ | refine ud ?_ | refine ug ?_ | (refine uk ?_; first | refine ul tab_ok rfl rfl rfl rfl (by first | exact trivial | omega | exact nl rfl) rfl ?_))
  refine uz rfl (fun hlt => ?_) (fun hge => ?_)
  · have hi' : i < l.length := by omega
    repeat (first | refine uf ?_ | refine uw ?_ | refine ud ?_ | refine uq ?_ | refine ug ?_ | (refine uk ?_; first | refine ul tab_ok rfl rfl rfl rfl (by first | exact trivial | omega | exact nl rfl) rfl ?_ | refine wk tab_ok rfl rfl rfl rfl rfl rfl rfl (by first | exact ⟨by omega, by omega⟩ | (simp; omega)) rfl rfl ?_))
    simp only [Int.toNat_natCast]
    refine qx (hp l[i] (List.getElem_mem hi')) hcall rfl rfl rfl ⟨Sub.refl _, yX _⟩ (by simp [AV.frees, AV.free, hcf]) rfl rfl rfl ?_
    repeat (first | refine uc ?_ | refine ug ?_)
    refine uH rfl (fun hb => ?_) (fun hb => ?_)
    · repeat (first | refine uf ?_ | refine uc ?_ | refine ud ?_ | refine un ?_ | refine ur ?_ | refine uE ?_ | refine ug ?_ | (refine uk ?_; first | refine ul tab_ok rfl rfl rfl rfl (by first | exact trivial | omega | exact nl rfl) rfl ?_) | refine vh (by simp) rfl rfl rfl ?_)
      have : l.findIdx p = i := by
        rcases Nat.lt_or_eq_of_le hi with h | h
        · have := List.not_of_lt_findIdx h
          simp_all
        · exact h.symm
      exact Sub.of_eq (by rw [yv, if_pos (by omega), this])
    · have : l.findIdx p ≠ i := fun h => by
        have := List.findIdx_getElem (p := p) (xs := l) (w := by omega)
        simp only [h] at this
        simp_all
      repeat (first | refine uc ?_ | refine ud ?_ | refine uq ?_ | refine ug ?_ | (refine uk ?_; first | refine ul tab_ok rfl rfl rfl rfl (by first | exact trivial | omega | exact nl rfl) rfl ?_))
      exact ⟨⟨i + 1, by omega⟩, by dsimp only; omega, vg rfl ⟨Sub.refl _, Sub.refl _, Sub.refl _, Sub.refl _, trivial⟩⟩
  · repeat (first | refine uf ?_ | refine uc ?_ | refine ud ?_ | refine un ?_ | refine uP ?_ | refine ug ?_ | (refine uk ?_; first | refine ul tab_ok rfl rfl rfl rfl (by first | exact trivial | omega | exact nl rfl) rfl ?_) | refine vh (by simp) rfl rfl rfl ?_)
    exact Sub.of_eq (by rw [yv, if_neg (by omega)])
def rgA (r : Int × Int) : AV := .agg [.val (.int .i64 r.1), .val (.int .i64 r.2)]
theorem find_rng_ok (l : List (Int × Int)) (p : (Int × Int) → Bool) (f : FuncId) (caps : List AV) (hl : l.length ≤ 4611686018427387904) (hcall : uG Tryd.prog f) (hcf : AV.frees caps = true) (hp : ∀ s ∈ l, uV Tryd.prog f (rgA s :: caps) (.val (.bool (p s)))) :
    uV Tryd.prog 64 [.sl 2 (l.map rgD), .cl f caps] (.val (.int .i64 (yv p l))) := by
  refine u1 Tryd.func64 Tryd.ntmps64 rfl rfl rfl fun S w => ?_
  repeat (first | refine uf ?_ | refine uc ?_ | refine uw ?_ | refine ud ?_ | refine ug ?_ | (refine uk ?_; first | refine vf tab_ok rfl rfl rfl rfl rfl rfl rfl ?_ | refine ul tab_ok rfl rfl rfl rfl (by first | exact trivial | omega | exact nl rfl) rfl ?_))
  refine vk (σ := {i : Nat // i ≤ l.findIdx p}) (fun _ => []) (fun x => [(0, .sl 2 (l.map rgD)), (1, .cl f caps), (7, .val (.int .i64 l.length)), (8, .val (.int .i64 x.1))]) (fun x => l.length - x.1) ⟨0, Nat.zero_le _⟩
    (vg rfl ⟨Sub.refl _, Sub.refl _, Sub.refl _, Sub.refl _, trivial⟩) ?_
  rintro ⟨i, hi⟩
  dsimp only
  have hle := List.findIdx_le_length (p := p) (xs := l)
  repeat (first | refine uf ?_ | refine ud ?_ | refine ug ?_ | (refine uk ?_; first | refine ul tab_ok rfl rfl rfl rfl (by first | exact trivial | omega | exact nl rfl) rfl ?_))
  refine uz rfl (fun hlt => ?_) (fun hge => ?_)
  · have hi' : i < l.length := by omega
    repeat (first | refine uf ?_ | refine uw ?_ | refine ud ?_ | refine uq ?_ | refine ug ?_ | (refine uk ?_; first | refine ul tab_ok rfl rfl rfl rfl (by first | exact trivial | omega | exact nl rfl) rfl ?_ | refine wk tab_ok rfl rfl rfl rfl rfl rfl rfl (by first | exact ⟨by omega, by omega⟩ | (simp; omega)) rfl rfl ?_))
    simp only [Int.toNat_natCast]
    refine qx (hp l[i] (List.getElem_mem hi')) hcall rfl rfl rfl ⟨Sub.refl _, yX _⟩ (by simp [AV.frees, AV.free, rgA, hcf]) rfl rfl rfl ?_
    repeat (first | refine uc ?_ | refine ug ?_)
    refine uH rfl (fun hb => ?_) (fun hb => ?_)
    · repeat (first | refine uf ?_ | refine uc ?_ | refine ud ?_ | refine un ?_ | refine ur ?_ | refine uE ?_ | refine ug ?_ | (refine uk ?_; first | refine ul tab_ok rfl rfl rfl rfl (by first | exact trivial | omega | exact nl rfl) rfl ?_) | refine vh (by simp) rfl rfl rfl ?_)
      have : l.findIdx p = i := by
        rcases Nat.lt_or_eq_of_le hi with h | h
        · have := List.not_of_lt_findIdx h
          simp_all
        · exact h.symm
      exact Sub.of_eq (by rw [yv, if_pos (by omega), this])
    · have : l.findIdx p ≠ i := fun h => by
        have := List.findIdx_getElem (p := p) (xs := l) (w := by omega)
        simp only [h] at this
        simp_all
      repeat (first | refine uc ?_ | refine ud ?_ | refine uq ?_ | refine ug ?_ | (refine uk ?_; first | refine ul tab_ok rfl rfl rfl rfl (by first | exact trivial | omega | exact nl rfl) rfl ?_))
      exact ⟨⟨i + 1, by omega⟩, by dsimp only; omega, vg rfl ⟨Sub.refl _, Sub.refl _, Sub.refl _, Sub.refl _, trivial⟩⟩
  · repeat (first | refine uf ?_ | refine uc ?_ | refine ud ?_ | refine un ?_ | refine uP ?_ | refine ug ?_ | (refine uk ?_; first | refine ul tab_ok rfl rfl rfl rfl (by first | exact trivial | omega | exact nl rfl) rfl ?_) | refine vh (by simp) rfl rfl rfl ?_)
    exact Sub.of_eq (by rw [yv, if_neg (by omega)])
theorem any_str_ok (l : List ByteArray) (p : ByteArray → Bool) (f : FuncId) (caps : List AV) (hl : l.length ≤ 4611686018427387904) (hcall : uG Tryd.prog f) (hcf : AV.frees caps = true) (hp : ∀ s ∈ l, uV Tryd.prog f (.val (.string s) :: caps) (.val (.bool (p s)))) :
    uV Tryd.prog 38 [.sl 1 (l.map sF), .cl f caps] (.val (.bool (l.any p))) := by
  refine u1 Tryd.func38 Tryd.ntmps38 rfl rfl rfl fun S w => ?_
  repeat (first | refine uf ?_ | refine ud ?_ | refine ug ?_ | (refine uk ?_; first | refine ul tab_ok rfl rfl rfl rfl (by first | exact trivial | omega | exact nl rfl) rfl ?_))
  refine um (find_str_ok l p f caps hl hcall hcf hp) call63 rfl rfl ⟨Sub.refl _, Sub.refl _, trivial⟩ (by simp [AV.frees, AV.free, rgA, hcf]) rfl rfl rfl ?_
  repeat (first | refine uc ?_ | refine un ?_ | refine ug ?_ | (refine uk ?_; first | refine ul tab_ok rfl rfl rfl rfl (by first | exact trivial | omega | exact nl rfl) rfl ?_) | refine vh (by simp) rfl rfl rfl ?_)
  exact Sub.of_eq (by rw [kj])
theorem any_rng_ok (l : List (Int × Int)) (p : (Int × Int) → Bool) (f : FuncId) (caps : List AV) (hl : l.length ≤ 4611686018427387904) (hcall : uG Tryd.prog f) (hcf : AV.frees caps = true) (hp : ∀ s ∈ l, uV Tryd.prog f (rgA s :: caps) (.val (.bool (p s)))) :
    uV Tryd.prog 40 [.sl 2 (l.map rgD), .cl f caps] (.val (.bool (l.any p))) := by
  refine u1 Tryd.func40 Tryd.ntmps40 rfl rfl rfl fun S w => ?_
  repeat (first | refine uf ?_ | refine ud ?_ | refine ug ?_ | (refine uk ?_; first | refine ul tab_ok rfl rfl rfl rfl (by first | exact trivial | omega | exact nl rfl) rfl ?_))
  refine um (find_rng_ok l p f caps hl hcall hcf hp) call64 rfl rfl ⟨Sub.refl _, Sub.refl _, trivial⟩ (by simp [AV.frees, AV.free, rgA, hcf]) rfl rfl rfl ?_
  repeat (first | refine uc ?_ | refine un ?_ | refine ug ?_ | (refine uk ?_; first | refine ul tab_ok rfl rfl rfl rfl (by first | exact trivial | omega | exact nl rfl) rfl ?_) | refine vh (by simp) rfl rfl rfl ?_)
  exact Sub.of_eq (by rw [kj])
/-- kind: may a style's system and its symbols be? -/
def kindF (d : Sd) : Bool :=
  if d.system = cyclicS ∨ d.system = qV ∨ d.system = fixedS then decide (1 ≤ (d.symbols.length : Int))
  else if d.system = alphabeticS ∨ d.system = numericS then decide (2 ≤ (d.symbols.length : Int))
  else if d.system = y8 then decide (1 ≤ (d.symbols.length : Int)) && decide ((d.symbols.length : Int) = d.weights.length) && fallF d.weights
  else if d.system = wS then decide ((d.symbols.length : Int) + d.weights.length = 0) else false
theorem kind_ok (d : Sd) (h1 : d.symbols.length ≤ 17592186044416) (h2 : d.weights.length ≤ 17592186044416) : uV Tryd.prog 37 [dfA d] (.val (.bool (kindF d))) := by
  refine u1 Tryd.func37 Tryd.ntmps37 rfl rfl rfl fun S w => ?_
  obtain ⟨name, sys, first, syms, ws, neg0, neg1, pre, suf, auto, rng, pad, padS, fall, ext, said, sy, su, wt, sb, ad⟩ := d
  by_cases e1 : sys = cyclicS
  · subst e1
    repeat (first | refine uf ?_ | refine uc ?_ | refine uw ?_ | refine ud ?_ | refine un ?_ | refine ur ?_ | refine uE ?_ | refine uq ?_ | refine ug ?_ | (refine uk ?_; first | refine vf tab_ok rfl rfl rfl rfl rfl rfl rfl ?_ | refine ul tab_ok rfl rfl rfl rfl (by first | exact trivial | omega | exact nl rfl) rfl ?_ | refine u9 tab_ok rfl rfl rfl rfl rfl ?_ | refine vI tab_ok rfl rfl rfl rfl rfl ?_) | refine vh (by simp) rfl rfl rfl ?_ | refine uA rfl ?_)
    exact Sub.refl _
  by_cases e2 : sys = qV
  · subst e2
    repeat (first | refine uf ?_ | refine uc ?_ | refine uw ?_ | refine ud ?_ | refine un ?_ | refine ur ?_ | refine uE ?_ | refine uq ?_ | refine ug ?_ | (refine uk ?_; first | refine vf tab_ok rfl rfl rfl rfl rfl rfl rfl ?_ | refine ul tab_ok rfl rfl rfl rfl (by first | exact trivial | omega | exact nl rfl) rfl ?_ | refine u9 tab_ok rfl rfl rfl rfl rfl ?_ | refine vI tab_ok rfl rfl rfl rfl rfl ?_) | refine vh (by simp) rfl rfl rfl ?_ | refine uA rfl ?_ | refine uF rfl ?_)
    exact Sub.refl _
  by_cases e3 : sys = fixedS
  · subst e3
    repeat (first | refine uf ?_ | refine uc ?_ | refine uw ?_ | refine ud ?_ | refine un ?_ | refine ur ?_ | refine uE ?_ | refine ug ?_ | (refine uk ?_; first | refine vf tab_ok rfl rfl rfl rfl rfl rfl rfl ?_ | refine ul tab_ok rfl rfl rfl rfl (by first | exact trivial | omega | exact nl rfl) rfl ?_ | refine u9 tab_ok rfl rfl rfl rfl rfl ?_ | refine vI tab_ok rfl rfl rfl rfl rfl ?_) | refine vh (by simp) rfl rfl rfl ?_ | refine uA rfl ?_ | refine uF rfl ?_)
    exact Sub.refl _
  by_cases e4 : sys = alphabeticS
  · subst e4
    repeat (first | refine uf ?_ | refine uc ?_ | refine uw ?_ | refine ud ?_ | refine un ?_ | refine ur ?_ | refine uE ?_ | refine uq ?_ | refine ug ?_ | (refine uk ?_; first | refine vf tab_ok rfl rfl rfl rfl rfl rfl rfl ?_ | refine ul tab_ok rfl rfl rfl rfl (by first | exact trivial | omega | exact nl rfl) rfl ?_ | refine u9 tab_ok rfl rfl rfl rfl rfl ?_ | refine vI tab_ok rfl rfl rfl rfl rfl ?_) | refine vh (by simp) rfl rfl rfl ?_ | refine uA rfl ?_ | refine uF rfl ?_)
    exact Sub.refl _
  by_cases e5 : sys = numericS
  · subst e5
    repeat (first | refine uf ?_ | refine uc ?_ | refine uw ?_ | refine ud ?_ | refine un ?_ | refine ur ?_ | refine uE ?_ | refine ug ?_ | (refine uk ?_; first | refine vf tab_ok rfl rfl rfl rfl rfl rfl rfl ?_ | refine ul tab_ok rfl rfl rfl rfl (by first | exact trivial | omega | exact nl rfl) rfl ?_ | refine u9 tab_ok rfl rfl rfl rfl rfl ?_ | refine vI tab_ok rfl rfl rfl rfl rfl ?_) | refine vh (by simp) rfl rfl rfl ?_ | refine uA rfl ?_ | refine uF rfl ?_)
    exact Sub.refl _
  by_cases e6 : sys = y8
  · subst e6
    repeat (first | refine uf ?_ | refine uc ?_ | refine uw ?_ | refine ud ?_ | refine ug ?_ | (refine uk ?_; first | refine vf tab_ok rfl rfl rfl rfl rfl rfl rfl ?_ | refine ul tab_ok rfl rfl rfl rfl (by first | exact trivial | omega | exact nl rfl) rfl ?_ | refine u9 tab_ok rfl rfl rfl rfl rfl ?_ | refine vI tab_ok rfl rfl rfl rfl rfl ?_ | refine xl tab_ok rfl rfl rfl rfl rfl rfl (by first | exact fun _ => rfl | exact cs1) rfl rfl rfl ?_ | refine uB tab_ok rfl rfl rfl rfl rfl rfl (by first | exact fun _ => rfl | exact cs1 | exact cs2 | exact cs3) (by first | exact fun _ => trivial | (intro h; simp at h; omega)) rfl ?_ | refine vY tab_ok rfl rfl rfl rfl rfl rfl (by first | exact fun _ => rfl | exact cs1 | exact cs2 | exact cs3) rfl ?_ | refine vN rfl rfl rfl rfl rfl rfl rfl rfl ?_) | refine uA rfl ?_ | refine uF rfl ?_)
    refine vK (fun _ => falling_ok ws (by dsimp only at h2; omega)) call62 rfl rfl rfl rfl (by first | exact fun _ => rfl | exact cs1 | exact cs2 | exact cs3) ⟨Sub.refl _, trivial⟩ rfl rfl rfl rfl ?_
    repeat (first | refine uc ?_ | refine un ?_ | refine ur ?_ | refine uE ?_ | refine ug ?_ | (refine uk ?_; first | refine ul tab_ok rfl rfl rfl rfl (by first | exact trivial | omega | exact nl rfl) rfl ?_ | refine vN rfl rfl rfl rfl rfl rfl rfl rfl ?_) | refine vh (by simp) rfl rfl rfl ?_)
    exact Sub.refl _
  by_cases e7 : sys = wS
  · subst e7
    repeat (first | refine uf ?_ | refine uc ?_ | refine uw ?_ | refine ud ?_ | refine un ?_ | refine ur ?_ | refine uE ?_ | refine ug ?_ | (refine uk ?_; first | refine vf tab_ok rfl rfl rfl rfl rfl rfl rfl ?_ | refine ul tab_ok rfl rfl rfl rfl (by first | exact trivial | omega | exact nl rfl) rfl ?_ | refine u9 tab_ok rfl rfl rfl rfl rfl ?_ | refine vI tab_ok rfl rfl rfl rfl rfl ?_) | refine vh (by simp) rfl rfl rfl ?_ | refine uA rfl ?_ | refine uF rfl ?_)
    exact Sub.refl _
  repeat (first | refine uf ?_ | refine uc ?_ | refine uw ?_ | refine ud ?_ | refine ug ?_ | (refine uk ?_; first | refine ul tab_ok rfl rfl rfl rfl (by first | exact trivial | omega | exact nl rfl) rfl ?_ | refine u9 tab_ok rfl rfl rfl rfl rfl ?_ | refine vI tab_ok rfl rfl rfl rfl rfl ?_))
  refine uz rfl (fun h => absurd h e1) (fun _ => ?_)
  repeat (first | refine uf ?_ | refine uc ?_ | refine ud ?_ | refine ug ?_ | (refine uk ?_; first | refine ul tab_ok rfl rfl rfl rfl (by first | exact trivial | omega | exact nl rfl) rfl ?_))
  refine uz rfl (fun h => absurd h e2) (fun _ => ?_)
  repeat (first | refine uc ?_ | refine ud ?_ | refine ug ?_ | (refine uk ?_; first | refine ul tab_ok rfl rfl rfl rfl (by first | exact trivial | omega | exact nl rfl) rfl ?_))
  refine uz rfl (fun h => absurd h e3) (fun _ => ?_)
  repeat (first | refine uf ?_ | refine uc ?_ | refine ud ?_ | refine ug ?_ | (refine uk ?_; first | refine ul tab_ok rfl rfl rfl rfl (by first | exact trivial | omega | exact nl rfl) rfl ?_))
  refine uz rfl (fun h => absurd h e4) (fun _ => ?_)
  repeat (first | refine uc ?_ | refine ud ?_ | refine ug ?_ | (refine uk ?_; first | refine ul tab_ok rfl rfl rfl rfl (by first | exact trivial | omega | exact nl rfl) rfl ?_))
  refine uz rfl (fun h => absurd h e5) (fun _ => ?_)
  repeat (first | refine uf ?_ | refine uc ?_ | refine ud ?_ | refine ug ?_ | (refine uk ?_; first | refine ul tab_ok rfl rfl rfl rfl (by first | exact trivial | omega | exact nl rfl) rfl ?_))
  refine uz rfl (fun h => absurd h e6) (fun _ => ?_)
  repeat (first | refine uf ?_ | refine uc ?_ | refine ud ?_ | refine ug ?_ | (refine uk ?_; first | refine ul tab_ok rfl rfl rfl rfl (by first | exact trivial | omega | exact nl rfl) rfl ?_))
  refine uz rfl (fun h => absurd h e7) (fun _ => ?_)
  repeat (first | refine uf ?_ | refine uc ?_ | refine ud ?_ | refine un ?_ | refine uq ?_ | refine ug ?_ | (refine uk ?_; first | refine ul tab_ok rfl rfl rfl rfl (by first | exact trivial | omega | exact nl rfl) rfl ?_) | refine vh (by simp) rfl rfl rfl ?_)
  exact Sub.of_eq (by simp [kindF, e1, e2, e3, e4, e5, e6, e7])
def longF (s : ByteArray) : Bool := decide (100 < (s.size : Int))
def badR (r : Int × Int) : Bool := decide (r.2 < r.1) || decide (r.1 < -2147483648) || decide (2147483647 < r.2)
def signsL (d : Sd) : List ByteArray := [d.pre, d.suf, d.padSign, d.neg1, d.neg2] ++ d.symbols
def mayD (d : Sd) : Bool := if (!kindF d || decide (64 < (d.symbols.length : Int)) || decide (d.pad < 0) || decide (200 < d.pad) || (signsL d).any longF) = true then false else !d.range.any badR
theorem smay_ok (d : Sd) (h1 : d.symbols.length ≤ 65536) (h2 : d.weights.length ≤ 65536) (h3 : d.range.length ≤ 65536) : uV Tryd.prog 23 [dfA d] (.val (.bool (mayD d))) := by
  refine u1 Tryd.func23 Tryd.ntmps23 rfl rfl rfl fun S w => ?_
  repeat (first | refine uf ?_)
  refine ud ?_
  repeat (first | refine uf ?_ | refine ug ?_ | (refine uk ?_; first | refine ul tab_ok rfl rfl rfl rfl (by first | exact trivial | omega | exact nl rfl) rfl ?_ | refine vI tab_ok rfl rfl rfl rfl rfl ?_))
  refine ud ?_
  repeat (first | (refine uk ?_; first | refine ul tab_ok rfl rfl rfl rfl (by first | exact trivial | omega | exact nl rfl) rfl ?_ | refine u9 tab_ok rfl rfl rfl rfl rfl ?_ | refine r_idxa tab_ok rfl rfl rfl rfl (by decide) rfl rfl rfl rfl ?_))
  refine zA tab_ok rfl rfl rfl rfl rfl rfl rfl rfl rfl ?_
  repeat (first | refine uf ?_ | refine ug ?_ | (refine uk ?_; first | refine ul tab_ok rfl rfl rfl rfl (by first | exact trivial | omega | exact nl rfl) rfl ?_ | refine u9 tab_ok rfl rfl rfl rfl rfl ?_ | refine vT tab_ok rfl rfl rfl rfl rfl rfl rfl rfl rfl (by first | omega | (simp; omega)) rfl ?_))
  refine vM (uK (M' := [.box 47 (dfC d), .gone]) (F' := [(1, .ptr 0 0), (3, .sl 1 ((signsL d).map sF))]) (by repeat' first | exact trivial | exact rfl | (rw [List.map_append]; first | done | rfl) | exact ue rfl (Sub.refl _) rfl | exact ut rfl rfl | exact uo rfl rfl rfl | exact uj rfl rfl rfl | exact uj rfl rfl (by rw [List.map_append]; first | done | rfl) | exact uh rfl rfl rfl rfl | exact Or.inl ⟨ue rfl (Sub.refl _) rfl, uh rfl rfl rfl rfl⟩ | exact uu rfl rfl rfl rfl | exact uC rfl rfl | exact uD rfl rfl | exact ue rfl (Sub.altl _ _) rfl | exact ue rfl (Sub.nil _) rfl | refine ⟨_, _, rfl, ?_, ?_⟩ | apply And.intro) (by repeat' first | exact trivial | exact rfl | (rw [List.map_append]; first | done | rfl) | exact ue rfl (Sub.refl _) rfl | exact ut rfl rfl | exact uo rfl rfl rfl | exact uj rfl rfl rfl | exact uj rfl rfl (by rw [List.map_append]; first | done | rfl) | exact uh rfl rfl rfl rfl | exact Or.inl ⟨ue rfl (Sub.refl _) rfl, uh rfl rfl rfl rfl⟩ | exact uu rfl rfl rfl rfl | exact uC rfl rfl | exact uD rfl rfl | exact ue rfl (Sub.altl _ _) rfl | exact ue rfl (Sub.nil _) rfl | refine ⟨_, _, rfl, ?_, ?_⟩ | apply And.intro)) ?_
  repeat (first | refine ud ?_ | (refine uk ?_; first | refine u9 tab_ok rfl rfl rfl rfl rfl ?_))
  refine um (kind_ok d (by omega) (by omega)) call37 rfl rfl ⟨Sub.agg (by repeat' first | exact trivial | exact Sub.refl _ | exact Sub.nil _ | refine Sub.agg ?_ | apply And.intro), trivial⟩ rfl rfl rfl rfl ?_
  repeat (first | (refine uk ?_; first | refine ul tab_ok rfl rfl rfl rfl (by first | exact trivial | omega | exact nl rfl) rfl ?_ | refine xl tab_ok rfl rfl rfl rfl rfl rfl (by first | exact fun _ => rfl | exact cs1) rfl rfl rfl ?_ | refine uB tab_ok rfl rfl rfl rfl rfl rfl (by first | exact fun _ => rfl | exact cs1 | exact cs2 | exact cs3) (by first | exact fun _ => trivial | (intro h; simp at h; omega)) rfl ?_ | refine vY tab_ok rfl rfl rfl rfl rfl rfl (by first | exact fun _ => rfl | exact cs1 | exact cs2 | exact cs3) rfl ?_ | refine we rfl rfl rfl rfl rfl rfl rfl rfl ?_))
  refine vK (fun _ => any_str_ok (signsL d) longF 39 [] (by simp [signsL]; omega) call39 rfl (fun s _ => long_ok s)) call38 rfl rfl rfl rfl (by first | exact fun _ => rfl | exact cs1 | exact cs2 | exact cs3) ⟨Sub.refl _, Sub.refl _, trivial⟩ rfl rfl rfl rfl ?_
  repeat (first | refine uc ?_ | refine ug ?_ | (refine uk ?_; first | refine we rfl rfl rfl rfl rfl rfl rfl rfl ?_))
  refine uH rfl (fun h => ?_) (fun h => ?_)
  · repeat (first | refine uf ?_ | refine uc ?_ | refine ud ?_ | refine un ?_ | refine ur ?_ | refine ug ?_ | (refine uk ?_; first | refine ul tab_ok rfl rfl rfl rfl (by first | exact trivial | omega | exact nl rfl) rfl ?_) | refine vh (by simp) rfl rfl rfl ?_)
    exact Sub.of_eq (by rw [mayD, if_pos h])
  · repeat (first | refine uf ?_ | refine ud ?_ | refine uq ?_ | (refine uk ?_; first | refine ul tab_ok rfl rfl rfl rfl (by first | exact trivial | omega | exact nl rfl) rfl ?_ | refine u9 tab_ok rfl rfl rfl rfl rfl ?_))
    refine um (any_rng_ok d.range badR 41 [] (by omega) call41 rfl (fun r _ => mayr_ok r)) call40 rfl rfl ⟨Sub.refl _, Sub.refl _, trivial⟩ rfl rfl rfl rfl ?_
    repeat (first | refine uc ?_ | refine un ?_ | refine ug ?_ | (refine uk ?_; first | refine ul tab_ok rfl rfl rfl rfl (by first | exact trivial | omega | exact nl rfl) rfl ?_) | refine vh (by simp) rfl rfl rfl ?_)
    exact Sub.of_eq (by rw [mayD, if_neg (by simpa using h)])
end Go.Proofs.YtllmagfmbglefaaDoor
