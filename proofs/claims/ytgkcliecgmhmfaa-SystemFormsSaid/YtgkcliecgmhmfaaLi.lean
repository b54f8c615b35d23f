/- law9: few, SystemForms. Numbers of law9's seat. -/
import Derived.Test.YtgkcliecgmhmfaaLd
namespace Go.Proofs.Ytgkcliecgmhmfaa
open Go Go.RowKit Go.Shelf

def okS (s : ByteArray) : Bool := decide ((s.size : Int) ≤ 120)
def fewF (d : Df) : Bool := if (d.syms.take 80).all okS then
  decide ((d.syms.length : Int) ≤ 70) && decide ((d.ws.length : Int) ≤ 70) && decide ((d.rng.length : Int) ≤ 20) && decide ((d.pre.size : Int) ≤ 200) && decide ((d.suf.size : Int) ≤ 200) && decide ((d.padS.size : Int) ≤ 200) && decide ((d.neg0.size : Int) ≤ 200) && decide ((d.neg1.size : Int) ≤ 200) else false
theorem few_len {d : Df} (h : fewF d = true) : d.syms.length ≤ 70 ∧ d.ws.length ≤ 70 ∧ d.rng.length ≤ 20 := by
  unfold fewF at h
  split at h
  · simp only [Bool.and_eq_true, decide_eq_true_eq] at h
    omega
  · cases h
theorem take_step (l : List ByteArray) (i : Nat) (h : i < l.length) : (l.take (i + 1)).all okS = ((l.take i).all okS && okS l[i]) := by
  rw [List.take_succ_eq_append_getElem h, List.all_append]
  simp
theorem all_take (l : List ByteArray) (i : Nat) (h : i < l.length) (hi : i < 80) (hn : okS l[i] = false) : (l.take 80).all okS = false := by
  rw [Bool.eq_false_iff]
  intro ha
  rw [List.all_eq_true] at ha
  have hl : i < (l.take 80).length := by rw [List.length_take]; omega
  have := ha _ (List.getElem_mem hl)
  rw [List.getElem_take] at this
  rw [this] at hn
  cases hn
theorem few_ok (d : Df) (hl : d.syms.length ≤ 9223372036854775807) : PCalls Try.prog 16 [dfA d] (.val (.bool (fewF d))) := by
  refine p_start Try.func16 Try.ntmps16 rfl rfl rfl fun S w => ?_
  repeat (first
    | refine awp_seq ?_
    | refine thenA_normal ?_
    | refine awp_block ?_
    | refine a_region ?_
    | refine r_done ?_
    | (refine r_id ?_; first
      | refine r_ev tab_ok rfl rfl rfl rfl (by first | exact trivial | exact ⟨by omega, by omega⟩ | omega | exact ⟨by omega, by omega, by omega, by omega⟩ | exact Nat.le_of_ble_eq_true rfl) rfl ?_
      | refine r_wr tab_ok rfl rfl rfl rfl rfl ?_))
  refine a_loop (σ := {i : Nat // i ≤ 80 ∧ i ≤ d.syms.length ∧ (d.syms.take i).all okS = true}) (fun _ => [.box 28 (dfC d)]) (fun x => [(1, .ptr 0 0), (3, .val (.int .i64 x.1))]) (fun x => 80 - x.1) ⟨0, by omega, by omega, rfl⟩ (fits_conv (by repeat' first | exact trivial | exact rfl | (rw [List.map_append]; first | done | rfl) | exact c_sub rfl (Sub.refl _) rfl | exact c_nil rfl rfl | exact c_thaw rfl rfl rfl | exact c_row rfl rfl rfl | exact c_row rfl rfl (by rw [List.map_append]; first | done | rfl) | exact c_ptr rfl rfl rfl rfl | exact Or.inl ⟨c_sub rfl (Sub.refl _) rfl, c_ptr rfl rfl rfl rfl⟩ | exact c_alt rfl rfl rfl rfl | exact c_ro rfl rfl | exact c_eo rfl rfl | exact c_sub rfl (Sub.altl _ _) rfl | exact c_sub rfl (Sub.nil _) rfl | refine ⟨_, _, rfl, ?_, ?_⟩ | apply And.intro) (by repeat' first | exact trivial | exact rfl | (rw [List.map_append]; first | done | rfl) | exact c_sub rfl (Sub.refl _) rfl | exact c_nil rfl rfl | exact c_thaw rfl rfl rfl | exact c_row rfl rfl rfl | exact c_row rfl rfl (by rw [List.map_append]; first | done | rfl) | exact c_ptr rfl rfl rfl rfl | exact Or.inl ⟨c_sub rfl (Sub.refl _) rfl, c_ptr rfl rfl rfl rfl⟩ | exact c_alt rfl rfl rfl rfl | exact c_ro rfl rfl | exact c_eo rfl rfl | exact c_sub rfl (Sub.altl _ _) rfl | exact c_sub rfl (Sub.nil _) rfl | refine ⟨_, _, rfl, ?_, ?_⟩ | apply And.intro)) ?_
  rintro ⟨i, h1, h2, h3⟩
  dsimp only
  repeat (first
    | refine awp_seq ?_
    | refine thenA_normal ?_
    | refine a_region ?_
    | refine r_done ?_
    | (refine r_id ?_; first
      | refine r_len tab_ok rfl rfl rfl rfl rfl rfl rfl ?_
      | refine r_ev tab_ok rfl rfl rfl rfl (by first | exact trivial | exact ⟨by omega, by omega⟩ | omega | exact ⟨by omega, by omega, by omega, by omega⟩ | exact Nat.le_of_ble_eq_true rfl) rfl ?_
      | refine r_ld tab_ok rfl rfl rfl rfl rfl ?_
      | refine r_ev_cnd tab_ok rfl rfl rfl rfl rfl rfl (by first | exact fun _ => rfl | exact cs1 | exact cs2 | exact cs3) (by first | exact fun _ => trivial | (intro h; simp at h; first | exact ⟨by omega, by omega⟩ | omega)) rfl ?_
      | refine r_and rfl rfl rfl rfl rfl rfl rfl rfl ?_))
  refine awp_cond rfl (fun hb => ?_) (fun hb => ?_)
  · simp only [Bool.and_eq_true, decide_eq_true_eq] at hb
    have hil : i < d.syms.length := by omega
    repeat (first
      | refine awp_seq ?_
      | refine thenA_normal ?_
      | refine awp_block ?_
      | refine a_region ?_
      | refine awp_skip ?_
      | refine r_done ?_
      | (refine r_id ?_; first
        | refine r_ev tab_ok rfl rfl rfl rfl (by first | exact trivial | exact ⟨by omega, by omega⟩ | omega | exact ⟨by omega, by omega, by omega, by omega⟩ | exact Nat.le_of_ble_eq_true rfl) rfl ?_
        | refine r_ld tab_ok rfl rfl rfl rfl rfl ?_
        | refine r_idx tab_ok rfl rfl rfl rfl rfl rfl rfl (by first | exact ⟨by omega, by omega⟩ | (simp; omega)) rfl rfl ?_))
    simp only [Int.toNat_natCast]
    refine awp_cond_p rfl (fun hc => ?_) (fun hc => ?_)
    · have hF : fewF d = false := by
        rw [fewF, all_take d.syms i hil (by omega) (by rw [okS, decide_eq_false (by omega)])]
        rfl
      rw [hF]
      repeat (first
        | refine awp_seq ?_
        | refine thenA_normal ?_
        | refine a_region ?_
        | refine awp_ret ?_
        | refine thenA_ret ?_
        | refine blockA_ret ?_
        | refine r_done ?_
        | (refine r_id ?_; first
          | refine r_ev tab_ok rfl rfl rfl rfl (by first | exact trivial | exact ⟨by omega, by omega⟩ | omega | exact ⟨by omega, by omega, by omega, by omega⟩ | exact Nat.le_of_ble_eq_true rfl) rfl ?_)
        | refine ret1 (by first | exact .inl rfl | exact .inr rfl) rfl rfl rfl ?_)
      exact Sub.refl _
    · repeat (first
        | refine thenA_normal ?_
        | refine a_region ?_
        | refine awp_skip ?_
        | refine r_done ?_
        | (refine r_id ?_; first
          | refine r_ev tab_ok rfl rfl rfl rfl (by first | exact trivial | exact ⟨by omega, by omega⟩ | omega | exact ⟨by omega, by omega, by omega, by omega⟩ | exact Nat.le_of_ble_eq_true rfl) rfl ?_))
      exact ⟨⟨i + 1, by omega, by omega, by rw [take_step d.syms i hil, h3, okS, decide_eq_true (by omega)]; rfl⟩, by dsimp only; omega, fits_conv (by repeat' first | exact trivial | exact rfl | (rw [List.map_append]; first | done | rfl) | exact c_sub rfl (Sub.refl _) rfl | exact c_nil rfl rfl | exact c_thaw rfl rfl rfl | exact c_row rfl rfl rfl | exact c_row rfl rfl (by rw [List.map_append]; first | done | rfl) | exact c_ptr rfl rfl rfl rfl | exact Or.inl ⟨c_sub rfl (Sub.refl _) rfl, c_ptr rfl rfl rfl rfl⟩ | exact c_alt rfl rfl rfl rfl | exact c_ro rfl rfl | exact c_eo rfl rfl | exact c_sub rfl (Sub.altl _ _) rfl | exact c_sub rfl (Sub.nil _) rfl | refine ⟨_, _, rfl, ?_, ?_⟩ | apply And.intro) (by repeat' first | exact trivial | exact rfl | (rw [List.map_append]; first | done | rfl) | exact c_sub rfl (Sub.refl _) rfl | exact c_nil rfl rfl | exact c_thaw rfl rfl rfl | exact c_row rfl rfl rfl | exact c_row rfl rfl (by rw [List.map_append]; first | done | rfl) | exact c_ptr rfl rfl rfl rfl | exact Or.inl ⟨c_sub rfl (Sub.refl _) rfl, c_ptr rfl rfl rfl rfl⟩ | exact c_alt rfl rfl rfl rfl | exact c_ro rfl rfl | exact c_eo rfl rfl | exact c_sub rfl (Sub.altl _ _) rfl | exact c_sub rfl (Sub.nil _) rfl | refine ⟨_, _, rfl, ?_, ?_⟩ | apply And.intro)⟩
  · have he : (d.syms.take 80).all okS = true := by
      simp only [Bool.and_eq_false_iff, decide_eq_false_iff_not] at hb
      by_cases h80 : i = 80
      · rw [h80] at h3; exact h3
      · have : i = d.syms.length := by omega
        rw [List.take_of_length_le (by omega)] at h3 ⊢
        exact h3
    repeat (first
      | refine awp_seq ?_
      | refine thenA_normal ?_
      | refine a_region ?_
      | refine awp_ret ?_
      | refine awp_exit ?_
      | refine r_done ?_
      | (refine r_id ?_; first
        | refine r_len tab_ok rfl rfl rfl rfl rfl rfl rfl ?_
        | refine r_ev tab_ok rfl rfl rfl rfl (by first | exact trivial | exact ⟨by omega, by omega⟩ | omega | exact ⟨by omega, by omega, by omega, by omega⟩ | exact Nat.le_of_ble_eq_true rfl) rfl ?_
        | refine r_ld tab_ok rfl rfl rfl rfl rfl ?_
        | refine r_len_cnd tab_ok rfl rfl rfl rfl rfl rfl (by first | exact fun _ => rfl | exact cs1) rfl rfl rfl ?_
        | refine r_ev_cnd tab_ok rfl rfl rfl rfl rfl rfl (by first | exact fun _ => rfl | exact cs1 | exact cs2 | exact cs3) (by first | exact fun _ => trivial | (intro h; simp at h; first | exact ⟨by omega, by omega⟩ | omega)) rfl ?_
        | refine r_ld_cnd tab_ok rfl rfl rfl rfl rfl rfl (by first | exact fun _ => rfl | exact cs1 | exact cs2 | exact cs3) rfl ?_
        | refine r_and rfl rfl rfl rfl rfl rfl rfl rfl ?_
        | refine r_idxa_cnd tab_ok rfl rfl rfl rfl rfl rfl (by decide) rfl rfl rfl (by first | exact fun _ => rfl | exact cs1 | exact cs2 | exact cs3) rfl ?_)
      | refine ret1 (by first | exact .inl rfl | exact .inr rfl) rfl rfl rfl ?_)
    exact Sub.of_eq (by rw [fewF, he]; rfl)
def NoOk (x : ByteArray × Bool) : Prop := x.2 = false → x.1 = ⟨#[]⟩
theorem no_ite {c : Prop} [Decidable c] {x y : ByteArray × Bool} (hx : NoOk x) (hy : NoOk y) : NoOk (if c then x else y) := by split <;> assumption
theorem no_no : NoOk noTB := fun _ => rfl
theorem no_yes {s : ByteArray} : NoOk (s, true) := fun h => by cases h
/-- What holds of a style's signs. -/
theorem signs_no {d : Df} {n : Int} (h : (signsF d n).2 = false) : (signsF d n).1 = ⟨#[]⟩ := by
  have hc : ∀ ns, (chosenTB d ns).2 = false → (chosenTB d ns).1 = ⟨#[]⟩ := fun ns hh => by
    unfold chosenTB at hh ⊢
    simp only [Bool.not_eq_false', decide_eq_true_eq] at hh
    simp only
    rw [if_pos hh]
  have ha : ∀ m, (addTB d m).2 = false → (addTB d m).1 = ⟨#[]⟩ := fun m hh => by
    unfold addTB at hh ⊢
    split at hh
    · rename_i h0
      rw [if_pos h0]
      split at hh
      · cases hh
      · rename_i h1; rw [if_neg h1]
    · rename_i h0
      rw [if_neg h0]
      split at hh
      · rename_i h1; rw [if_pos h1]
      · cases hh
  have key : NoOk (signsF d n) := by
    unfold signsF
    exact no_ite no_no (no_ite no_yes (no_ite (no_ite no_yes no_no) (no_ite (no_ite no_yes no_no) (no_ite (no_ite (hc _) no_no) (no_ite (no_ite (hc _) no_no) (no_ite (no_ite (ha _) no_no) no_no))))))
  exact key h
theorem signs_yes {d : Df} {n : Int} (h : (signsF d n).2 = true) : ¬ n < -2147483648 ∧ ¬ 2147483648 < n ∧ d.sys ≠ extendsS := by
  refine ⟨fun hc => ?_, fun hc => ?_, fun hc => ?_⟩
  · rw [signsF, if_pos (.inr (.inl hc))] at h; cases h
  · rw [signsF, if_pos (.inr (.inr hc))] at h; cases h
  · rw [signsF, hc] at h
    split at h
    · cases h
    · rw [if_neg (by decide), if_neg (by decide), if_neg (by decide), if_neg (by decide), if_neg (by decide), if_neg (by decide)] at h
      cases h
theorem may_pad (d : Df) : mayF { d with pad := 201 } = false := by
  rw [mayF, if_pos]
  simp
def z101 : ByteArray := ⟨(List.replicate 101 (0 : UInt8)).toArray⟩
theorem may_pre (d : Df) : mayF { d with pre := z101 } = false := by
  have h1 : (signsL { d with pre := z101 }).any longF = true := by
    rw [List.any_eq_true]
    exact ⟨z101, by simp [signsL], by kernel_rfl⟩
  rw [mayF, if_pos]
  rw [h1, Bool.or_true]
end Go.Proofs.Ytgkcliecgmhmfaa
