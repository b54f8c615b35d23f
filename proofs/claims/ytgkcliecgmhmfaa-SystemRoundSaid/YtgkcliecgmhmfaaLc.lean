/- Counter styles: Signs. Numbers of law9's seat. -/
import Derived.Test.YtgkcliecgmhmfaaLb
namespace Go.Proofs.Ytgkcliecgmhmfaa
open Go Go.RowKit Go.Shelf

def symAt (d : Df) (i : Nat) : ByteArray := d.syms.getD i ⟨#[]⟩
def noTB : ByteArray × Bool := (⟨#[]⟩, false)
def chosenTB (d : Df) (ns : List Nat) : ByteArray × Bool := (if 60 < ns.length then ⟨#[]⟩ else ustr (chosenB d (ns.map (Nat.cast : Nat → Int))), !decide (60 < ns.length))
def signsF (d : Df) (n : Int) : ByteArray × Bool :=
  if mayF d = false ∨ n < -2147483648 ∨ 2147483648 < n then noTB
  else if d.sys = cyclicS then (symAt d ((n - 1) % d.syms.length).toNat, true)
  else if d.sys = fixedS then (if d.first ≤ n ∧ n - d.first < d.syms.length then (symAt d (n - d.first).toNat, true) else noTB)
  else if d.sys = symbolicS then (if 1 ≤ n ∧ (n + d.syms.length - 1) / d.syms.length ≤ 60 then (repS (symAt d ((n - 1) % d.syms.length).toNat) ((n + d.syms.length - 1) / d.syms.length).toNat, true) else noTB)
  else if d.sys = alphabeticS then (if 1 ≤ n then chosenTB d (digL d.syms.length n.toNat) else noTB)
  else if d.sys = numericS then (if 0 ≤ n then chosenTB d (digN d.syms.length n.toNat) else noTB)
  else if d.sys = additiveS then (if 0 ≤ n then addTB d n.toNat else noTB)
  else noTB
theorem symAt_get (d : Df) (i : Nat) (h : i < d.syms.length) : d.syms[i] = symAt d i := by
  rw [symAt, List.getD_eq_getElem?_getD, List.getElem?_eq_getElem h]; rfl
/-- What a style that may be is like. -/
theorem may_kind {d : Df} (h : mayF d = true) : kindF d = true ∧ d.syms.length ≤ 64 ∧ (∀ s ∈ signsL d, s.size ≤ 100) := by
  unfold mayF at h
  split at h
  · cases h
  · rename_i h1
    simp only [Bool.or_eq_true, Bool.not_eq_true', decide_eq_true_eq, not_or, Bool.not_eq_false, Bool.not_eq_true, List.any_eq_false] at h1
    obtain ⟨⟨⟨⟨h2, h3⟩, _⟩, _⟩, h4⟩ := h1
    refine ⟨h2, by omega, fun s hs => ?_⟩
    have h5 := h4 s hs
    simp only [longF, decide_eq_false_iff_not] at h5
    omega
theorem digN_lt_all (k : Nat) (hk : 0 < k) (n : Nat) : ∀ x ∈ digN k n, x < k := by
  rw [digN]
  split
  · rename_i h
    intro x hx
    rcases List.mem_cons.1 hx with rfl | hx
    · exact Nat.mod_lt _ hk
    · exact digN_lt_all k hk (n / k) x hx
  · intro x hx
    simp at hx
    subst hx
    exact Nat.mod_lt _ hk
termination_by n
decreasing_by exact Nat.div_lt_self (by omega) (by omega)
theorem digL_lt_all (k : Nat) (hk : 0 < k) (n : Nat) : ∀ x ∈ digL k n, x < k := by
  rw [digL]
  split
  · rename_i h
    intro x hx
    rcases List.mem_cons.1 hx with rfl | hx
    · exact Nat.mod_lt _ hk
    · exact digL_lt_all k hk ((n - 1) / k) x hx
  · intro x hx
    cases hx
termination_by n
decreasing_by have := Nat.div_le_self (n - 1) k; omega
theorem kind_one {d : Df} (h : kindF d = true) (hs : d.sys = cyclicS ∨ d.sys = symbolicS ∨ d.sys = fixedS) : 1 ≤ d.syms.length := by
  rw [kindF, if_pos hs, decide_eq_true_eq] at h
  omega
theorem kind_two {d : Df} (h : kindF d = true) (hs : d.sys = alphabeticS ∨ d.sys = numericS) : 2 ≤ d.syms.length := by
  rw [kindF, if_neg, if_pos hs, decide_eq_true_eq] at h
  · omega
  · rcases hs with e | e <;> rw [e] <;> decide
theorem kind_add {d : Df} (h : kindF d = true) (hs : d.sys = additiveS) : d.syms.length = d.ws.length ∧ fallF d.ws = true := by
  rw [kindF, if_neg (by rw [hs]; decide), if_neg (by rw [hs]; decide), if_pos hs] at h
  simp only [Bool.and_eq_true, decide_eq_true_eq] at h
  exact ⟨by omega, h.2⟩
theorem wrap_u64 (n : Int) : IntKind.u64.wrap n = n % 18446744073709551616 := by
  unfold IntKind.wrap
  simp [IntKind.bits, IntKind.signed]
set_option maxHeartbeats 8000000 in
theorem signs_ok (d : Df) (n : Int) (h0 : -9223372036854775808 ≤ d.first) (h1 : d.syms.length ≤ 65536) (h2 : d.ws.length ≤ 65536) (h3 : d.rng.length ≤ 65536) : PCalls Try.prog 11 [dfA d, .val (.int .i64 n)] (tbA (signsF d n)) := by
  refine p_start Try.func11 Try.ntmps11 rfl rfl rfl fun S w => ?_
  repeat (first
    | refine awp_seq ?_
    | refine a_region ?_
    | refine r_done ?_
    | (refine r_id ?_; first
      | refine r_ev tab_ok rfl rfl rfl rfl (by first | exact trivial | exact ⟨by omega, by omega⟩ | omega | exact ⟨by omega, by omega, by omega, by omega⟩ | exact Nat.le_of_ble_eq_true rfl) rfl ?_
      | refine r_ld tab_ok rfl rfl rfl rfl rfl ?_
      | refine r_wr tab_ok rfl rfl rfl rfl rfl ?_))
  refine r_call (may_ok d h1 h2 h3) call13 rfl rfl ⟨Sub.agg (by repeat' first | exact trivial | exact Sub.refl _ | exact Sub.nil _ | refine Sub.agg ?_ | apply And.intro), trivial⟩ rfl rfl rfl rfl ?_
  repeat (first
    | refine thenA_normal ?_
    | refine r_done ?_
    | (refine r_id ?_; first
      | refine r_ev tab_ok rfl rfl rfl rfl (by first | exact trivial | exact ⟨by omega, by omega⟩ | omega | exact ⟨by omega, by omega, by omega, by omega⟩ | exact Nat.le_of_ble_eq_true rfl) rfl ?_
      | refine r_ev_cnd tab_ok rfl rfl rfl rfl rfl rfl (by first | exact fun _ => rfl | exact cs1 | exact cs2 | exact cs3) (by first | exact fun _ => trivial | (intro h; simp at h; first | exact ⟨by omega, by omega⟩ | omega)) rfl ?_
      | refine r_or rfl rfl rfl rfl rfl rfl rfl rfl ?_))
  refine awp_cond rfl (fun h => ?_) (fun h => ?_)
  · have e : signsF d n = noTB := by
      rw [signsF, if_pos]
      simp only [Bool.or_eq_true, Bool.not_eq_true', decide_eq_true_eq] at h
      rcases h with (h | h) | h
      · exact .inl h
      · exact .inr (.inl h)
      · exact .inr (.inr h)
    rw [e]
    repeat (first
      | refine awp_seq ?_
      | refine thenA_normal ?_
      | refine a_region ?_
      | refine awp_ret ?_
      | refine thenA_ret ?_
      | refine r_done ?_
      | (refine r_id ?_; first
        | refine r_ev tab_ok rfl rfl rfl rfl (by first | exact trivial | exact ⟨by omega, by omega⟩ | omega | exact ⟨by omega, by omega, by omega, by omega⟩ | exact Nat.le_of_ble_eq_true rfl) rfl ?_)
      | refine ret2 (by first | exact .inl rfl | exact .inr rfl) rfl rfl rfl rfl ?_ ?_)
    · exact Sub.refl _
    · exact Sub.refl _
  simp only [Bool.or_eq_false_iff, Bool.not_eq_false', decide_eq_false_iff_not] at h
  obtain ⟨⟨hm, hn1⟩, hn2⟩ := h
  obtain ⟨hk, hl, hz⟩ := may_kind hm
  have hsz : ∀ s ∈ d.syms, s.size ≤ 100 := fun s hs => hz s (by simp [signsL, hs])
  have e0 : ¬ (mayF d = false ∨ n < -2147483648 ∨ 2147483648 < n) := by rw [hm]; simp; omega
  repeat (first
    | refine awp_seq ?_
    | refine thenA_normal ?_
    | refine awp_block ?_
    | refine a_region ?_
    | refine awp_skip ?_
    | refine r_done ?_
    | (refine r_id ?_; first
      | refine r_len tab_ok rfl rfl rfl rfl rfl rfl rfl ?_
      | refine r_ev tab_ok rfl rfl rfl rfl (by first | exact trivial | exact ⟨by omega, by omega⟩ | omega | exact ⟨by omega, by omega, by omega, by omega⟩ | exact Nat.le_of_ble_eq_true rfl) rfl ?_
      | refine r_ld tab_ok rfl rfl rfl rfl rfl ?_))
  refine awp_cond_p rfl (fun e1 => ?_) (fun e1 => ?_)
  · replace e1 : d.sys = cyclicS := e1
    have hk1 : 1 ≤ d.syms.length := kind_one hk (.inl e1)
    have q1 := Int.tmod_lt_of_pos (n - 1) (b := (d.syms.length : Int)) (by omega)
    have q2 := Int.lt_tmod_of_pos (n - 1) (b := (d.syms.length : Int)) (by omega)
    have q3 := round_eq (n - 1) d.syms.length (by omega)
    repeat (first
      | refine awp_seq ?_
      | refine a_draw1 mixed_ok (by kernel_rfl) ?_
      | (refine r_id ?_; first
        | refine r_ev tab_ok rfl rfl rfl rfl (by first | exact trivial | exact ⟨by omega, by omega⟩ | omega | exact ⟨by omega, by omega, by omega, by omega⟩ | exact Nat.le_of_ble_eq_true rfl) rfl ?_
        | refine r_ld tab_ok rfl rfl rfl rfl rfl ?_
        | refine r_rem rfl rfl rfl rfl rfl rfl (by omega) rfl ?_))
    generalize (n - 1).tmod (d.syms.length : Int) = t at q1 q2 q3 ⊢
    rw [Int.tmod_eq_emod_of_nonneg (by omega)] at q3
    have q4 := Int.emod_nonneg (t + d.syms.length) (b := (d.syms.length : Int)) (by omega)
    have q5 := Int.emod_lt_of_pos (t + d.syms.length) (b := (d.syms.length : Int)) (by omega)
    have e : signsF d n = (d.syms[((t + d.syms.length) % (d.syms.length : Int)).toNat]'(by omega), true) := by
      rw [signsF, if_neg e0, if_pos e1, symAt_get, q3]
    rw [e]
    repeat (first
      | refine thenA_normal ?_
      | refine awp_ret ?_
      | refine thenA_ret ?_
      | refine blockA_ret ?_
      | refine r_done' ?_
      | (refine r_id ?_; first
        | refine r_ev tab_ok rfl rfl rfl rfl (by first | exact trivial | exact ⟨by omega, by omega⟩ | omega | exact ⟨by omega, by omega, by omega, by omega⟩ | exact Nat.le_of_ble_eq_true rfl) rfl ?_
        | refine r_idx tab_ok rfl rfl rfl rfl rfl rfl rfl (by first | exact ⟨by omega, by omega⟩ | (simp; omega)) rfl rfl ?_)
      | refine ret2 (by first | exact .inl rfl | exact .inr rfl) rfl rfl rfl rfl ?_ ?_)
    · exact Sub.refl _
    · exact Sub.refl _
  replace e1 : ¬ d.sys = cyclicS := e1
  repeat (first
    | refine awp_seq ?_
    | refine thenA_normal ?_
    | refine a_region ?_
    | refine r_done ?_
    | (refine r_id ?_; first
      | refine r_ev tab_ok rfl rfl rfl rfl (by first | exact trivial | exact ⟨by omega, by omega⟩ | omega | exact ⟨by omega, by omega, by omega, by omega⟩ | exact Nat.le_of_ble_eq_true rfl) rfl ?_))
  refine awp_cond_p rfl (fun e2 => ?_) (fun e2 => ?_)
  · replace e2 : d.sys = fixedS := e2
    have hk1 : 1 ≤ d.syms.length := kind_one hk (.inr (.inr e2))
    repeat (first
      | refine awp_seq ?_
      | refine a_region ?_
      | (refine r_id ?_; first
        | refine r_ev tab_ok rfl rfl rfl rfl (by first | exact trivial | exact ⟨by omega, by omega⟩ | omega | exact ⟨by omega, by omega, by omega, by omega⟩ | exact Nat.le_of_ble_eq_true rfl) rfl ?_))
    refine r_by (fun _ => astep_conv_int tab_ok rfl rfl rfl rfl) rfl rfl rfl rfl rfl ?_
    repeat (first
      | (refine r_id ?_; first
        | refine r_ev tab_ok rfl rfl rfl rfl (by first | exact trivial | exact ⟨by omega, by omega⟩ | omega | exact ⟨by omega, by omega, by omega, by omega⟩ | exact Nat.le_of_ble_eq_true rfl) rfl ?_
        | refine r_ld tab_ok rfl rfl rfl rfl rfl ?_))
    refine r_by (fun _ => astep_conv_int tab_ok rfl rfl rfl rfl) rfl rfl rfl rfl rfl ?_
    refine r_by (fun _ => astep_sub rfl rfl rfl) rfl rfl rfl rfl rfl ?_
    generalize hX : IntKind.u64.wrap (IntKind.u64.wrap n - IntKind.u64.wrap d.first) = X
    have hX1 : d.first ≤ n → X = n - d.first := fun hh => by
      rw [← hX]
      simp only [wrap_u64]
      omega
    have hX2 : 0 ≤ X ∧ X < 18446744073709551616 := by
      rw [← hX]
      simp only [wrap_u64]
      omega
    repeat (first
      | refine awp_seq ?_
      | refine thenA_normal ?_
      | refine a_region ?_
      | refine r_done ?_
      | (refine r_id ?_; first
        | refine r_ev tab_ok rfl rfl rfl rfl (by first | exact trivial | exact ⟨by omega, by omega⟩ | omega | exact ⟨by omega, by omega, by omega, by omega⟩ | exact Nat.le_of_ble_eq_true rfl) rfl ?_
        | refine r_ld tab_ok rfl rfl rfl rfl rfl ?_
        | refine r_ev_cnd tab_ok rfl rfl rfl rfl rfl rfl (by first | exact fun _ => rfl | exact cs1 | exact cs2 | exact cs3) (by first | exact fun _ => trivial | (intro h; simp at h; first | exact ⟨by omega, by omega⟩ | omega)) rfl ?_
        | refine r_and rfl rfl rfl rfl rfl rfl rfl rfl ?_))
    refine awp_cond rfl (fun hb => ?_) (fun hb => ?_)
    · simp only [Bool.and_eq_true, decide_eq_true_eq] at hb
      have hX3 := hX1 hb.1
      have e : signsF d n = (d.syms[X.toNat]'(by omega), true) := by
        rw [signsF, if_neg e0, if_neg e1, if_pos e2, if_pos (by omega), symAt_get, hX3]
      rw [e]
      repeat (first
        | refine awp_seq ?_
        | refine thenA_normal ?_
        | refine a_region ?_
        | refine awp_ret ?_
        | refine thenA_ret ?_
        | refine blockA_ret ?_
        | refine r_done ?_
        | (refine r_id ?_; first
          | refine r_ev tab_ok rfl rfl rfl rfl (by first | exact trivial | exact ⟨by omega, by omega⟩ | omega | exact ⟨by omega, by omega, by omega, by omega⟩ | exact Nat.le_of_ble_eq_true rfl) rfl ?_
          | refine r_ld tab_ok rfl rfl rfl rfl rfl ?_
          | refine r_idx tab_ok rfl rfl rfl rfl rfl rfl rfl (by first | exact ⟨by omega, by omega⟩ | (simp; omega)) rfl rfl ?_)
        | refine ret2 (by first | exact .inl rfl | exact .inr rfl) rfl rfl rfl rfl ?_ ?_)
      · exact Sub.refl _
      · exact Sub.refl _
    · have hb' : ¬ (d.first ≤ n ∧ n - d.first < d.syms.length) := by
        rintro ⟨k1, k2⟩
        have := hX1 k1
        simp only [Bool.and_eq_false_iff, decide_eq_false_iff_not] at hb
        omega
      have e : signsF d n = noTB := by rw [signsF, if_neg e0, if_neg e1, if_pos e2, if_neg hb']
      rw [e]
      repeat (first
        | refine awp_seq ?_
        | refine thenA_normal ?_
        | refine a_region ?_
        | refine awp_ret ?_
        | refine awp_skip ?_
        | refine r_done ?_
        | (refine r_id ?_; first
          | refine r_ev tab_ok rfl rfl rfl rfl (by first | exact trivial | exact ⟨by omega, by omega⟩ | omega | exact ⟨by omega, by omega, by omega, by omega⟩ | exact Nat.le_of_ble_eq_true rfl) rfl ?_)
        | refine ret2 (by first | exact .inl rfl | exact .inr rfl) rfl rfl rfl rfl ?_ ?_)
      · exact Sub.refl _
      · exact Sub.refl _
  replace e2 : ¬ d.sys = fixedS := e2
  repeat (first
    | refine awp_seq ?_
    | refine thenA_normal ?_
    | refine a_region ?_
    | refine r_done ?_
    | (refine r_id ?_; first
      | refine r_ev tab_ok rfl rfl rfl rfl (by first | exact trivial | exact ⟨by omega, by omega⟩ | omega | exact ⟨by omega, by omega, by omega, by omega⟩ | exact Nat.le_of_ble_eq_true rfl) rfl ?_))
  refine awp_cond_p rfl (fun e3 => ?_) (fun e3 => ?_)
  · replace e3 : d.sys = symbolicS := e3
    have hk1 : 1 ≤ d.syms.length := kind_one hk (.inr (.inl e3))
    by_cases hn : 1 ≤ n
    · have q1 : 0 ≤ (n + d.syms.length - 1) / (d.syms.length : Int) := Int.ediv_nonneg (by omega) (by omega)
      have q2 : (n + d.syms.length - 1) / (d.syms.length : Int) ≤ n + d.syms.length - 1 := Int.ediv_le_self _ (by omega)
      have q3 : 1 ≤ (n + d.syms.length - 1) / (d.syms.length : Int) := by
        rw [Int.le_ediv_iff_mul_le (by omega)]
        omega
      have q4 := Int.emod_nonneg (n - 1) (b := (d.syms.length : Int)) (by omega)
      have q5 := Int.emod_lt_of_pos (n - 1) (b := (d.syms.length : Int)) (by omega)
      repeat (first
        | refine awp_seq ?_
        | refine thenA_normal ?_
        | refine a_region ?_
        | refine r_done ?_
        | (refine r_id ?_; first
          | refine r_ev tab_ok rfl rfl rfl rfl (by first | exact trivial | exact ⟨by omega, by omega⟩ | omega | exact ⟨by omega, by omega, by omega, by omega⟩ | exact Nat.le_of_ble_eq_true rfl) rfl ?_
          | refine r_ev_cnd tab_ok rfl rfl rfl rfl rfl rfl (by first | exact fun _ => rfl | exact cs1 | exact cs2 | exact cs3) (by first | exact fun _ => trivial | (intro h; simp at h; first | exact ⟨by omega, by omega⟩ | omega)) rfl ?_
          | refine r_and rfl rfl rfl rfl rfl rfl rfl rfl ?_))
      generalize hT : (n + d.syms.length - 1) / (d.syms.length : Int) = T at q1 q2 q3 ⊢
      obtain ⟨c, rfl⟩ : ∃ c : Nat, T = c := ⟨T.toNat, by omega⟩
      refine awp_cond rfl (fun hb => ?_) (fun hb => ?_)
      · simp only [Bool.and_eq_true, decide_eq_true_eq] at hb
        have e : signsF d n = (repS (d.syms[((n - 1) % (d.syms.length : Int)).toNat]'(by omega)) c, true) := by
          rw [signsF, if_neg e0, if_neg e1, if_neg e2, if_pos e3, hT, if_pos (by omega), symAt_get]
          rfl
        rw [e]
        repeat (first
          | refine awp_seq ?_
          | refine a_draw1 mixed_ok (by kernel_rfl) ?_
          | (refine r_id ?_; first
            | refine r_ev tab_ok rfl rfl rfl rfl (by first | exact trivial | exact ⟨by omega, by omega⟩ | omega | exact ⟨by omega, by omega, by omega, by omega⟩ | exact Nat.le_of_ble_eq_true rfl) rfl ?_
            | refine r_ld tab_ok rfl rfl rfl rfl rfl ?_
            | refine r_idx tab_ok rfl rfl rfl rfl rfl rfl rfl (by first | exact ⟨by omega, by omega⟩ | (simp; omega)) rfl rfl ?_))
        refine r_call (rep_ok (d.syms[((n - 1) % (d.syms.length : Int)).toNat]'(by omega)) c (by omega) (by omega) (hsz _ (List.getElem_mem _))) call18 rfl rfl ⟨Sub.refl _, Sub.refl _, trivial⟩ rfl rfl rfl rfl ?_
        repeat (first
          | refine thenA_normal ?_
          | refine awp_ret ?_
          | refine thenA_ret ?_
          | refine blockA_ret ?_
          | refine r_done' ?_
          | (refine r_id ?_; first
            | refine r_ev tab_ok rfl rfl rfl rfl (by first | exact trivial | exact ⟨by omega, by omega⟩ | omega | exact ⟨by omega, by omega, by omega, by omega⟩ | exact Nat.le_of_ble_eq_true rfl) rfl ?_)
          | refine ret2 (by first | exact .inl rfl | exact .inr rfl) rfl rfl rfl rfl ?_ ?_)
        · exact Sub.refl _
        · exact Sub.refl _
      · have e : signsF d n = noTB := by
          simp only [Bool.and_eq_false_iff, decide_eq_false_iff_not] at hb
          rw [signsF, if_neg e0, if_neg e1, if_neg e2, if_pos e3, hT, if_neg (by omega)]
        rw [e]
        repeat (first
          | refine awp_seq ?_
          | refine thenA_normal ?_
          | refine a_region ?_
          | refine awp_ret ?_
          | refine awp_skip ?_
          | refine r_done ?_
          | (refine r_id ?_; first
            | refine r_ev tab_ok rfl rfl rfl rfl (by first | exact trivial | exact ⟨by omega, by omega⟩ | omega | exact ⟨by omega, by omega, by omega, by omega⟩ | exact Nat.le_of_ble_eq_true rfl) rfl ?_)
          | refine ret2 (by first | exact .inl rfl | exact .inr rfl) rfl rfl rfl rfl ?_ ?_)
        · exact Sub.refl _
        · exact Sub.refl _
    · have e : signsF d n = noTB := by
        rw [signsF, if_neg e0, if_neg e1, if_neg e2, if_pos e3, if_neg (by omega)]
      rw [e]
      repeat (first
        | refine awp_seq ?_
        | refine a_region ?_
        | (refine r_id ?_; first
          | refine r_ev tab_ok rfl rfl rfl rfl (by first | exact trivial | exact ⟨by omega, by omega⟩ | omega | exact ⟨by omega, by omega, by omega, by omega⟩ | exact Nat.le_of_ble_eq_true rfl) rfl ?_))
      refine r_by (fun _ => astep_quo rfl rfl rfl (by omega)) rfl rfl rfl rfl rfl ?_
      repeat (first
        | refine awp_seq ?_
        | refine thenA_normal ?_
        | refine a_region ?_
        | refine r_done ?_
        | (refine r_id ?_; first
          | refine r_ev tab_ok rfl rfl rfl rfl (by first | exact trivial | exact ⟨by omega, by omega⟩ | omega | exact ⟨by omega, by omega, by omega, by omega⟩ | exact Nat.le_of_ble_eq_true rfl) rfl ?_
          | refine r_ev_cnd tab_ok rfl rfl rfl rfl rfl rfl (by first | exact fun _ => rfl | exact cs1 | exact cs2 | exact cs3) (by first | exact fun _ => trivial | (intro h; simp at h; first | exact ⟨by omega, by omega⟩ | omega)) rfl ?_
          | refine r_and rfl rfl rfl rfl rfl rfl rfl rfl ?_))
      refine awp_cond rfl (fun hb => ?_) (fun hb => ?_)
      · exfalso
        simp only [Bool.and_eq_true, decide_eq_true_eq] at hb
        omega
      repeat (first
        | refine awp_seq ?_
        | refine thenA_normal ?_
        | refine a_region ?_
        | refine awp_ret ?_
        | refine awp_skip ?_
        | refine r_done ?_
        | (refine r_id ?_; first
          | refine r_ev tab_ok rfl rfl rfl rfl (by first | exact trivial | exact ⟨by omega, by omega⟩ | omega | exact ⟨by omega, by omega, by omega, by omega⟩ | exact Nat.le_of_ble_eq_true rfl) rfl ?_)
        | refine ret2 (by first | exact .inl rfl | exact .inr rfl) rfl rfl rfl rfl ?_ ?_)
      · exact Sub.refl _
      · exact Sub.refl _
  replace e3 : ¬ d.sys = symbolicS := e3
  repeat (first
    | refine awp_seq ?_
    | refine thenA_normal ?_
    | refine a_region ?_
    | refine r_done ?_
    | (refine r_id ?_; first
      | refine r_ev tab_ok rfl rfl rfl rfl (by first | exact trivial | exact ⟨by omega, by omega⟩ | omega | exact ⟨by omega, by omega, by omega, by omega⟩ | exact Nat.le_of_ble_eq_true rfl) rfl ?_))
  refine awp_cond_p rfl (fun e4 => ?_) (fun e4 => ?_)
  · replace e4 : d.sys = alphabeticS := e4
    have hk2 : 2 ≤ d.syms.length := kind_two hk (.inl e4)
    repeat (first
      | refine awp_seq ?_
      | refine thenA_normal ?_
      | refine a_region ?_
      | refine r_done ?_
      | (refine r_id ?_; first
        | refine r_ev tab_ok rfl rfl rfl rfl (by first | exact trivial | exact ⟨by omega, by omega⟩ | omega | exact ⟨by omega, by omega, by omega, by omega⟩ | exact Nat.le_of_ble_eq_true rfl) rfl ?_))
    refine awp_cond_p rfl (fun hn => ?_) (fun hn => ?_)
    · obtain ⟨m, rfl⟩ : ∃ m : Nat, n = m := ⟨n.toNat, by omega⟩
      have hz1 : ∀ z ∈ (digL d.syms.length m).map (Nat.cast : Nat → Int), 0 ≤ z ∧ z < (d.syms.length : Int) := by
        intro z hz
        obtain ⟨p, hp, rfl⟩ := List.mem_map.1 hz
        have := digL_lt_all d.syms.length (by omega) m p hp
        omega
      have hlen := digL_len d.syms.length m
      have e : signsF d (m : Int) = chosenTB d (digL d.syms.length m) := by
        rw [signsF, if_neg e0, if_neg e1, if_neg e2, if_neg e3, if_pos e4, if_pos hn, Int.toNat_natCast]
      rw [e]
      repeat (first
        | refine awp_seq ?_
        | refine a_draw1 mixed_ok (by kernel_rfl) ?_
        | (refine r_id ?_; first
          | refine r_ev tab_ok rfl rfl rfl rfl (by first | exact trivial | exact ⟨by omega, by omega⟩ | omega | exact ⟨by omega, by omega, by omega, by omega⟩ | exact Nat.le_of_ble_eq_true rfl) rfl ?_
          | refine r_ld tab_ok rfl rfl rfl rfl rfl ?_))
      refine r_call (posL_ok m d.syms.length (by omega) (by omega) (by omega)) call20 rfl rfl ⟨Sub.refl _, Sub.refl _, Sub.refl _, trivial⟩ rfl rfl rfl rfl ?_
      refine r_call (chosen_ok d ((digL d.syms.length m).map (Nat.cast : Nat → Int)) (by simp; omega) hz1 (fun s hs => Nat.le_trans (hsz s hs) (by decide))) call19 rfl rfl ⟨Sub.agg (by repeat' first | exact trivial | exact Sub.refl _ | exact Sub.nil _ | refine Sub.agg ?_ | apply And.intro), Sub.of_eq (by rw [map_nD]; rfl), trivial⟩ rfl rfl rfl rfl ?_
      repeat (first
        | refine thenA_normal ?_
        | refine awp_ret ?_
        | refine thenA_ret ?_
        | refine blockA_ret ?_
        | refine r_done' ?_
        | (refine r_id ?_; first
          | refine r_ev tab_ok rfl rfl rfl rfl (by first | exact trivial | exact ⟨by omega, by omega⟩ | omega | exact ⟨by omega, by omega, by omega, by omega⟩ | exact Nat.le_of_ble_eq_true rfl) rfl ?_)
        | refine ret2 (by first | exact .inl rfl | exact .inr rfl) rfl rfl rfl rfl ?_ ?_)
      · exact Sub.of_eq (by rw [List.length_map]; rfl)
      · exact Sub.of_eq (by rw [List.length_map]; rfl)
    · have e : signsF d n = noTB := by
        rw [signsF, if_neg e0, if_neg e1, if_neg e2, if_neg e3, if_pos e4, if_neg hn]
      rw [e]
      repeat (first
        | refine awp_seq ?_
        | refine thenA_normal ?_
        | refine a_region ?_
        | refine awp_ret ?_
        | refine awp_skip ?_
        | refine r_done ?_
        | (refine r_id ?_; first
          | refine r_ev tab_ok rfl rfl rfl rfl (by first | exact trivial | exact ⟨by omega, by omega⟩ | omega | exact ⟨by omega, by omega, by omega, by omega⟩ | exact Nat.le_of_ble_eq_true rfl) rfl ?_)
        | refine ret2 (by first | exact .inl rfl | exact .inr rfl) rfl rfl rfl rfl ?_ ?_)
      · exact Sub.refl _
      · exact Sub.refl _
  replace e4 : ¬ d.sys = alphabeticS := e4
  repeat (first
    | refine awp_seq ?_
    | refine thenA_normal ?_
    | refine a_region ?_
    | refine r_done ?_
    | (refine r_id ?_; first
      | refine r_ev tab_ok rfl rfl rfl rfl (by first | exact trivial | exact ⟨by omega, by omega⟩ | omega | exact ⟨by omega, by omega, by omega, by omega⟩ | exact Nat.le_of_ble_eq_true rfl) rfl ?_))
  refine awp_cond_p rfl (fun e5 => ?_) (fun e5 => ?_)
  · replace e5 : d.sys = numericS := e5
    have hk2 : 2 ≤ d.syms.length := kind_two hk (.inr e5)
    repeat (first
      | refine awp_seq ?_
      | refine thenA_normal ?_
      | refine a_region ?_
      | refine r_done ?_
      | (refine r_id ?_; first
        | refine r_ev tab_ok rfl rfl rfl rfl (by first | exact trivial | exact ⟨by omega, by omega⟩ | omega | exact ⟨by omega, by omega, by omega, by omega⟩ | exact Nat.le_of_ble_eq_true rfl) rfl ?_))
    refine awp_cond_p rfl (fun hn => ?_) (fun hn => ?_)
    · obtain ⟨m, rfl⟩ : ∃ m : Nat, n = m := ⟨n.toNat, by omega⟩
      have hz1 : ∀ z ∈ (digN d.syms.length m).map (Nat.cast : Nat → Int), 0 ≤ z ∧ z < (d.syms.length : Int) := by
        intro z hz
        obtain ⟨p, hp, rfl⟩ := List.mem_map.1 hz
        have := digN_lt_all d.syms.length (by omega) m p hp
        omega
      have hlen := digN_len d.syms.length m
      have e : signsF d (m : Int) = chosenTB d (digN d.syms.length m) := by
        rw [signsF, if_neg e0, if_neg e1, if_neg e2, if_neg e3, if_neg e4, if_pos e5, if_pos hn, Int.toNat_natCast]
      rw [e]
      repeat (first
        | refine awp_seq ?_
        | refine a_draw1 mixed_ok (by kernel_rfl) ?_
        | (refine r_id ?_; first
          | refine r_ev tab_ok rfl rfl rfl rfl (by first | exact trivial | exact ⟨by omega, by omega⟩ | omega | exact ⟨by omega, by omega, by omega, by omega⟩ | exact Nat.le_of_ble_eq_true rfl) rfl ?_
          | refine r_ld tab_ok rfl rfl rfl rfl rfl ?_))
      refine r_call (pos0_ok m d.syms.length (by omega) (by omega) (by omega)) call20 rfl rfl ⟨Sub.refl _, Sub.refl _, Sub.refl _, trivial⟩ rfl rfl rfl rfl ?_
      refine r_call (chosen_ok d ((digN d.syms.length m).map (Nat.cast : Nat → Int)) (by simp; omega) hz1 (fun s hs => Nat.le_trans (hsz s hs) (by decide))) call19 rfl rfl ⟨Sub.agg (by repeat' first | exact trivial | exact Sub.refl _ | exact Sub.nil _ | refine Sub.agg ?_ | apply And.intro), Sub.of_eq (by rw [map_nD]; rfl), trivial⟩ rfl rfl rfl rfl ?_
      repeat (first
        | refine thenA_normal ?_
        | refine awp_ret ?_
        | refine thenA_ret ?_
        | refine blockA_ret ?_
        | refine r_done' ?_
        | (refine r_id ?_; first
          | refine r_ev tab_ok rfl rfl rfl rfl (by first | exact trivial | exact ⟨by omega, by omega⟩ | omega | exact ⟨by omega, by omega, by omega, by omega⟩ | exact Nat.le_of_ble_eq_true rfl) rfl ?_)
        | refine ret2 (by first | exact .inl rfl | exact .inr rfl) rfl rfl rfl rfl ?_ ?_)
      · exact Sub.of_eq (by rw [List.length_map]; rfl)
      · exact Sub.of_eq (by rw [List.length_map]; rfl)
    · have e : signsF d n = noTB := by
        rw [signsF, if_neg e0, if_neg e1, if_neg e2, if_neg e3, if_neg e4, if_pos e5, if_neg hn]
      rw [e]
      repeat (first
        | refine awp_seq ?_
        | refine thenA_normal ?_
        | refine a_region ?_
        | refine awp_ret ?_
        | refine awp_skip ?_
        | refine r_done ?_
        | (refine r_id ?_; first
          | refine r_ev tab_ok rfl rfl rfl rfl (by first | exact trivial | exact ⟨by omega, by omega⟩ | omega | exact ⟨by omega, by omega, by omega, by omega⟩ | exact Nat.le_of_ble_eq_true rfl) rfl ?_)
        | refine ret2 (by first | exact .inl rfl | exact .inr rfl) rfl rfl rfl rfl ?_ ?_)
      · exact Sub.refl _
      · exact Sub.refl _
  replace e5 : ¬ d.sys = numericS := e5
  repeat (first
    | refine awp_seq ?_
    | refine thenA_normal ?_
    | refine a_region ?_
    | refine r_done ?_
    | (refine r_id ?_; first
      | refine r_ev tab_ok rfl rfl rfl rfl (by first | exact trivial | exact ⟨by omega, by omega⟩ | omega | exact ⟨by omega, by omega, by omega, by omega⟩ | exact Nat.le_of_ble_eq_true rfl) rfl ?_))
  refine awp_cond_p rfl (fun e6 => ?_) (fun e6 => ?_)
  · replace e6 : d.sys = additiveS := e6
    obtain ⟨ha, hfa⟩ := kind_add hk e6
    repeat (first
      | refine awp_seq ?_
      | refine thenA_normal ?_
      | refine a_region ?_
      | refine r_done ?_
      | (refine r_id ?_; first
        | refine r_ev tab_ok rfl rfl rfl rfl (by first | exact trivial | exact ⟨by omega, by omega⟩ | omega | exact ⟨by omega, by omega, by omega, by omega⟩ | exact Nat.le_of_ble_eq_true rfl) rfl ?_))
    refine awp_cond_p rfl (fun hn => ?_) (fun hn => ?_)
    · obtain ⟨m, rfl⟩ : ∃ m : Nat, n = m := ⟨n.toNat, by omega⟩
      have e : signsF d (m : Int) = addTB d m := by
        rw [signsF, if_neg e0, if_neg e1, if_neg e2, if_neg e3, if_neg e4, if_neg e5, if_pos e6, if_pos hn, Int.toNat_natCast]
      rw [e]
      repeat (first
        | refine awp_seq ?_
        | refine a_region ?_
        | (refine r_id ?_; first
          | refine r_ev tab_ok rfl rfl rfl rfl (by first | exact trivial | exact ⟨by omega, by omega⟩ | omega | exact ⟨by omega, by omega, by omega, by omega⟩ | exact Nat.le_of_ble_eq_true rfl) rfl ?_
          | refine r_ld tab_ok rfl rfl rfl rfl rfl ?_))
      refine r_call (additive_ok d m (by omega) ha h2 hfa (fun s hs => Nat.le_trans (hsz s hs) (by decide))) call21 rfl rfl ⟨Sub.agg (by repeat' first | exact trivial | exact Sub.refl _ | exact Sub.nil _ | refine Sub.agg ?_ | apply And.intro), Sub.refl _, trivial⟩ rfl rfl rfl rfl ?_
      repeat (first
        | refine thenA_normal ?_
        | refine awp_ret ?_
        | refine thenA_ret ?_
        | refine blockA_ret ?_
        | refine r_done ?_
        | (refine r_id ?_; first
          | refine r_ev tab_ok rfl rfl rfl rfl (by first | exact trivial | exact ⟨by omega, by omega⟩ | omega | exact ⟨by omega, by omega, by omega, by omega⟩ | exact Nat.le_of_ble_eq_true rfl) rfl ?_)
        | refine ret2 (by first | exact .inl rfl | exact .inr rfl) rfl rfl rfl rfl ?_ ?_)
      · exact Sub.refl _
      · exact Sub.refl _
    · have e : signsF d n = noTB := by
        rw [signsF, if_neg e0, if_neg e1, if_neg e2, if_neg e3, if_neg e4, if_neg e5, if_pos e6, if_neg hn]
      rw [e]
      repeat (first
        | refine awp_seq ?_
        | refine thenA_normal ?_
        | refine a_region ?_
        | refine awp_ret ?_
        | refine awp_skip ?_
        | refine r_done ?_
        | (refine r_id ?_; first
          | refine r_ev tab_ok rfl rfl rfl rfl (by first | exact trivial | exact ⟨by omega, by omega⟩ | omega | exact ⟨by omega, by omega, by omega, by omega⟩ | exact Nat.le_of_ble_eq_true rfl) rfl ?_)
        | refine ret2 (by first | exact .inl rfl | exact .inr rfl) rfl rfl rfl rfl ?_ ?_)
      · exact Sub.refl _
      · exact Sub.refl _
  replace e6 : ¬ d.sys = additiveS := e6
  have e : signsF d n = noTB := by rw [signsF, if_neg e0, if_neg e1, if_neg e2, if_neg e3, if_neg e4, if_neg e5, if_neg e6]
  rw [e]
  repeat (first
    | refine awp_seq ?_
    | refine thenA_normal ?_
    | refine a_region ?_
    | refine awp_ret ?_
    | refine awp_skip ?_
    | refine r_done ?_
    | (refine r_id ?_; first
      | refine r_ev tab_ok rfl rfl rfl rfl (by first | exact trivial | exact ⟨by omega, by omega⟩ | omega | exact ⟨by omega, by omega, by omega, by omega⟩ | exact Nat.le_of_ble_eq_true rfl) rfl ?_)
    | refine ret2 (by first | exact .inl rfl | exact .inr rfl) rfl rfl rfl rfl ?_ ?_)
  · exact Sub.refl _
  · exact Sub.refl _
end Go.Proofs.Ytgkcliecgmhmfaa
