/- law9: SystemRound. Numbers of law9's seat. -/
import Derived.Test.YtgkcliecgmhmfaaLg
import Derived.Test.YtgkcliecgmhmfaaLm
namespace Go.Proofs.Ytgkcliecgmhmfaa
open Go Go.RowKit Go.Shelf

def capB (i : Nat) : UInt8 := UInt8.ofNat (65 + i)
def capS (i : Nat) : ByteArray := ⟨#[capB i]⟩
def caps (i : Nat) : List ByteArray := (List.range i).map capS
theorem caps_succ (i : Nat) : caps (i + 1) = caps i ++ [capS i] := by rw [caps, List.range_succ, List.map_append]; rfl
theorem caps_len (i : Nat) : (caps i).length = i := by simp [caps]
def cD (m : Nat) : Df := mk cyclicS (caps m)
def fD (m : Nat) (first : Int) : Df := { mk fixedS (caps m) with first := first }
def yD (m : Nat) : Df := mk symbolicS (caps m)
def allR (p : Nat → Bool) : Bool := (List.range 30).all fun i => p (i + 1)
theorem allR_get {p : Nat → Bool} (h : allR p = true) {k : Nat} (h1 : 1 ≤ k) (h2 : k ≤ 30) : p k = true := by
  have := List.all_eq_true.1 h (k - 1) (List.mem_range.2 (by omega))
  rwa [show k - 1 + 1 = k by omega] at this
theorem may_c : allR (fun k => mayF (cD k)) = true := by kernel_rfl
theorem may_f : allR (fun k => mayF (fD k 1)) = true := by kernel_rfl
theorem may_y : allR (fun k => mayF (yD k)) = true := by kernel_rfl
theorem sym_caps {d : Df} {m : Nat} (hd : d.syms = caps m) {i : Nat} (h : i < (caps m).length) : symAt d i = (caps m)[i] := by
  rw [symAt, hd, List.getD_eq_getElem?_getD, List.getElem?_eq_getElem h]; rfl
section
variable {m : Nat} {n : Int} (h1 : 1 ≤ m) (h2 : m ≤ 30) (hn1 : -2147483648 ≤ n) (hn2 : n < 2147483648)
include h1 h2 hn1 hn2
theorem signs_c (h : ((n - 1) % m).toNat < (caps m).length) : signsF (cD m) n = ((caps m)[((n - 1) % m).toNat], true) := by
  have hm := allR_get may_c h1 h2
  rw [signsF, if_neg (by rw [hm]; simp; omega), if_pos (show (cD m).sys = cyclicS from rfl), show ((cD m).syms.length : Int) = m by rw [show (cD m).syms = caps m from rfl, caps_len], sym_caps rfl h]
theorem signs_f (first : Int) : signsF (fD m first) n = if first ≤ n ∧ n - first < m then ((caps m).getD (n - first).toNat ⟨#[]⟩, true) else noTB := by
  have hm : mayF (fD m first) = true := allR_get may_f h1 h2
  rw [signsF, if_neg (by rw [hm]; simp; omega), show (fD m first).sys = fixedS from rfl, if_neg (by decide), if_pos rfl, show ((fD m first).syms.length : Int) = m by rw [show (fD m first).syms = caps m from rfl, caps_len]]
  rfl
theorem signs_y (h : ((n - 1) % m).toNat < (caps m).length) : signsF (yD m) n = if 1 ≤ n ∧ (n + m - 1) / m ≤ 60 then (repS (caps m)[((n - 1) % m).toNat] ((n + m - 1) / m).toNat, true) else noTB := by
  have hm := allR_get may_y h1 h2
  rw [signsF, if_neg (by rw [hm]; simp; omega), show (yD m).sys = symbolicS from rfl, if_neg (by decide), if_neg (by decide), if_pos rfl, show ((yD m).syms.length : Int) = m by rw [show (yD m).syms = caps m from rfl, caps_len], sym_caps rfl h]
end
theorem caps_get {m i : Nat} (h : i < (caps m).length) : (caps m)[i] = capS i := by simp [caps]
theorem rep_bytes (i c : Nat) : (repS (capS i) c).data.toList = List.replicate c (capB i) := by
  rw [repS, List.toList_toArray, show (capS i).data.toList = List.replicate 1 (capB i) from rfl, Lib.repeatL_replicate, Nat.mul_one]
theorem rep_size (i c : Nat) : (repS (capS i) c).size = c := by rw [Lib.size_eq, rep_bytes, List.length_replicate]
theorem rep_cut (i c j : Nat) (h : j < c) : (repS (capS i) c).extract j (j + 1) = capS i := by
  have e : ((repS (capS i) c).extract j (j + 1)).data.toList = (capS i).data.toList := by
    rw [Lib.extract_data, rep_bytes]
    rw [List.drop_replicate, List.take_replicate, show j + 1 - j = 1 by omega, show min 1 (c - j) = 1 by omega]
    rfl
  exact ByteArray.ext (Array.toList_inj.1 e)
set_option maxHeartbeats 8000000 in
theorem roundl_ok (k n first : Int) : PCalls Try.prog 4 [.val (.int .i64 k), .val (.int .i64 n), .val (.int .i64 first)] (.val (.bool true)) := by
  refine p_start Try.func4 Try.ntmps4 rfl rfl rfl fun S w => ?_
  repeat (first
    | refine awp_seq ?_
    | refine thenA_normal ?_
    | refine a_region ?_
    | refine r_done ?_
    | (refine r_id ?_; first
      | refine r_ev tab_ok rfl rfl rfl rfl (by first | exact trivial | exact ⟨by omega, by omega⟩ | omega | exact ⟨by omega, by omega, by omega, by omega⟩ | exact Nat.le_of_ble_eq_true rfl) rfl ?_
      | refine r_ev_cnd tab_ok rfl rfl rfl rfl rfl rfl (by first | exact fun _ => rfl | exact cs1 | exact cs2 | exact cs3) (by first | exact fun _ => trivial | (intro h; simp at h; first | exact ⟨by omega, by omega⟩ | omega)) rfl ?_
      | refine r_or rfl rfl rfl rfl rfl rfl rfl rfl ?_))
  refine awp_cond rfl (fun h => ?_) (fun h => ?_)
  · repeat (first
      | refine awp_seq ?_
      | refine a_region ?_)
    refine r_call awake_ok call9 rfl rfl trivial rfl rfl rfl rfl ?_
    repeat (first
      | refine thenA_normal ?_
      | refine awp_ret ?_
      | refine thenA_ret ?_
      | refine r_done ?_
      | (refine r_id ?_; first
        | refine r_ev tab_ok rfl rfl rfl rfl (by first | exact trivial | exact ⟨by omega, by omega⟩ | omega | exact ⟨by omega, by omega, by omega, by omega⟩ | exact Nat.le_of_ble_eq_true rfl) rfl ?_)
      | refine ret1 (by first | exact .inl rfl | exact .inr rfl) rfl rfl rfl ?_)
    exact Sub.refl _
  simp only [Bool.or_eq_false_iff, decide_eq_false_iff_not] at h
  obtain ⟨m, rfl⟩ : ∃ m : Nat, k = m := ⟨k.toNat, by omega⟩
  have hm1 : 1 ≤ m := by omega
  have hm2 : m ≤ 30 := by omega
  repeat (first
    | refine awp_seq ?_
    | refine a_region ?_
    | refine awp_skip ?_)
  refine r_call (made0_ok cyclicS) call10 rfl rfl ⟨Sub.refl _, Sub.refl _, trivial⟩ rfl rfl rfl rfl ?_
  refine r_call (made0_ok fixedS) call10 rfl rfl ⟨Sub.refl _, Sub.refl _, trivial⟩ rfl rfl rfl rfl ?_
  refine r_call (made0_ok symbolicS) call10 rfl rfl ⟨Sub.refl _, Sub.refl _, trivial⟩ rfl rfl rfl rfl ?_
  repeat (first
    | refine awp_seq ?_
    | refine thenA_normal ?_
    | refine awp_block ?_
    | refine a_region ?_
    | refine r_done ?_
    | (refine r_id ?_; first
      | refine r_ev tab_ok rfl rfl rfl rfl (by first | exact trivial | exact ⟨by omega, by omega⟩ | omega | exact ⟨by omega, by omega, by omega, by omega⟩ | exact Nat.le_of_ble_eq_true rfl) rfl ?_
      | refine r_wr tab_ok rfl rfl rfl rfl rfl ?_
      | refine r_st tab_ok rfl rfl rfl rfl ?_))
  refine a_loop (σ := {i : Nat // i ≤ m}) (fun x => [.box 28 (dfG cyclicS 1 (.row 3 0) nilA nilA true), .box 28 (dfG fixedS first (.row 4 0) nilA nilA true), .box 28 (dfG symbolicS 1 (.row 5 0) nilA nilA true), .row 0 9 1 ((caps x.1).map sD), .row 0 9 1 ((caps x.1).map sD), .row 0 9 1 ((caps x.1).map sD)])
    (fun x => [(0, .val (.int .i64 m)), (1, .val (.int .i64 n)), (2, .val (.int .i64 first)), (7, .ptr 0 0), (8, .ptr 1 0), (9, .ptr 2 0), (10, .val (.int .i64 x.1))]) (fun x => m - x.1) ⟨0, Nat.zero_le _⟩ (fits_conv (by repeat' first | exact trivial | exact rfl | (rw [List.map_append]; first | done | rfl) | exact c_sub rfl (Sub.refl _) rfl | exact c_nil rfl rfl | exact c_thaw rfl rfl rfl | exact c_row rfl rfl rfl | exact c_row rfl rfl (by rw [List.map_append]; first | done | rfl) | exact c_ptr rfl rfl rfl rfl | exact Or.inl ⟨c_sub rfl (Sub.refl _) rfl, c_ptr rfl rfl rfl rfl⟩ | exact c_alt rfl rfl rfl rfl | exact c_ro rfl rfl | exact c_eo rfl rfl | exact c_sub rfl (Sub.altl _ _) rfl | exact c_sub rfl (Sub.nil _) rfl | refine ⟨_, _, rfl, ?_, ?_⟩ | apply And.intro) (by repeat' first | exact trivial | exact rfl | (rw [List.map_append]; first | done | rfl) | exact c_sub rfl (Sub.refl _) rfl | exact c_nil rfl rfl | exact c_thaw rfl rfl rfl | exact c_row rfl rfl rfl | exact c_row rfl rfl (by rw [List.map_append]; first | done | rfl) | exact c_ptr rfl rfl rfl rfl | exact Or.inl ⟨c_sub rfl (Sub.refl _) rfl, c_ptr rfl rfl rfl rfl⟩ | exact c_alt rfl rfl rfl rfl | exact c_ro rfl rfl | exact c_eo rfl rfl | exact c_sub rfl (Sub.altl _ _) rfl | exact c_sub rfl (Sub.nil _) rfl | refine ⟨_, _, rfl, ?_, ?_⟩ | apply And.intro)) ?_
  rintro ⟨i, hi⟩
  dsimp only
  have hcl := caps_len i
  repeat (first
    | refine awp_seq ?_
    | refine thenA_normal ?_
    | refine a_region ?_
    | refine r_done ?_
    | (refine r_id ?_; first
      | refine r_ev tab_ok rfl rfl rfl rfl (by first | exact trivial | exact ⟨by omega, by omega⟩ | omega | exact ⟨by omega, by omega, by omega, by omega⟩ | exact Nat.le_of_ble_eq_true rfl) rfl ?_))
  refine awp_cond_p rfl (fun hlt => ?_) (fun hge => ?_)
  · repeat (first
      | refine awp_seq ?_
      | refine thenA_normal ?_
      | refine awp_block ?_
      | refine a_region ?_
      | refine awp_skip ?_
      | refine r_done ?_
      | (refine r_id ?_; first
        | refine r_ev tab_ok rfl rfl rfl rfl (by first | exact trivial | exact ⟨by omega, by omega⟩ | omega | exact ⟨by omega, by omega, by omega, by omega⟩ | exact Nat.le_of_ble_eq_true rfl) rfl ?_
        | refine r_bstr tab_ok rfl rfl rfl rfl rfl rfl rfl rfl rfl rfl ?_
        | refine r_built tab_ok rfl rfl rfl rfl rfl rfl rfl rfl rfl ?_))
    refine a_draw mixed_ok [0, 6, 0, 0, 5, 0, 6, 0, 0, 5, 0, 6, 0, 0, 5, 0, 2, 0, 2, 0, 2] (by kernel_rfl) ?_
    repeat (first
      | (refine r_id ?_; first
        | refine r_ev tab_ok rfl rfl rfl rfl (by first | exact trivial | exact ⟨by omega, by omega⟩ | omega | exact ⟨by omega, by omega, by omega, by omega⟩ | exact Nat.le_of_ble_eq_true rfl) rfl ?_))
    refine r_ld3 tab_ok rfl rfl rfl rfl rfl rfl rfl rfl ?_
    repeat (first
      | (refine r_id ?_; first
        | refine r_ev tab_ok rfl rfl rfl rfl (by first | exact trivial | exact ⟨by omega, by omega⟩ | omega | exact ⟨by omega, by omega, by omega, by omega⟩ | exact Nat.le_of_ble_eq_true rfl) rfl ?_))
    refine r_builtp tab_ok rfl rfl rfl rfl rfl rfl rfl rfl rfl ?_
    refine r_append3 tab_ok rfl rfl rfl rfl rfl rfl rfl rfl rfl rfl (by simp; omega) rfl ?_
    repeat (first
      | (refine r_id ?_; first
        | refine r_ev tab_ok rfl rfl rfl rfl (by first | exact trivial | exact ⟨by omega, by omega⟩ | omega | exact ⟨by omega, by omega, by omega, by omega⟩ | exact Nat.le_of_ble_eq_true rfl) rfl ?_))
    refine r_ld3 tab_ok rfl rfl rfl rfl rfl rfl rfl rfl ?_
    repeat (first
      | (refine r_id ?_; first
        | refine r_ev tab_ok rfl rfl rfl rfl (by first | exact trivial | exact ⟨by omega, by omega⟩ | omega | exact ⟨by omega, by omega, by omega, by omega⟩ | exact Nat.le_of_ble_eq_true rfl) rfl ?_))
    refine r_builtp tab_ok rfl rfl rfl rfl rfl rfl rfl rfl rfl ?_
    refine r_append3 tab_ok rfl rfl rfl rfl rfl rfl rfl rfl rfl rfl (by simp; omega) rfl ?_
    repeat (first
      | (refine r_id ?_; first
        | refine r_ev tab_ok rfl rfl rfl rfl (by first | exact trivial | exact ⟨by omega, by omega⟩ | omega | exact ⟨by omega, by omega, by omega, by omega⟩ | exact Nat.le_of_ble_eq_true rfl) rfl ?_))
    refine r_ld3 tab_ok rfl rfl rfl rfl rfl rfl rfl rfl ?_
    repeat (first
      | (refine r_id ?_; first
        | refine r_ev tab_ok rfl rfl rfl rfl (by first | exact trivial | exact ⟨by omega, by omega⟩ | omega | exact ⟨by omega, by omega, by omega, by omega⟩ | exact Nat.le_of_ble_eq_true rfl) rfl ?_))
    refine r_builtp tab_ok rfl rfl rfl rfl rfl rfl rfl rfl rfl ?_
    refine r_append3 tab_ok rfl rfl rfl rfl rfl rfl rfl rfl rfl rfl (by simp; omega) rfl ?_
    repeat (first
      | refine thenA_normal ?_
      | refine a_region ?_
      | refine r_done ?_
      | refine r_done' ?_
      | (refine r_id ?_; first
        | refine r_ev tab_ok rfl rfl rfl rfl (by first | exact trivial | exact ⟨by omega, by omega⟩ | omega | exact ⟨by omega, by omega, by omega, by omega⟩ | exact Nat.le_of_ble_eq_true rfl) rfl ?_
        | refine r_st tab_ok rfl rfl rfl rfl ?_))
    have hE : (caps i).map sD ++ [D.val (.string (bytesStr [65 + (i : Int)]))] = (caps (i + 1)).map sD := by
      rw [caps_succ, List.map_append]
      rfl
    exact ⟨⟨i + 1, by omega⟩, by dsimp only; omega, fits_conv (by repeat' first | exact trivial | exact rfl | (rw [hE]; first | done | rfl) | exact c_sub rfl (Sub.refl _) rfl | exact c_nil rfl rfl | exact c_thaw rfl rfl rfl | exact c_row rfl rfl rfl | exact c_row rfl rfl (by rw [hE]; first | done | rfl) | exact c_ptr rfl rfl rfl rfl | exact Or.inl ⟨c_sub rfl (Sub.refl _) rfl, c_ptr rfl rfl rfl rfl⟩ | exact c_alt rfl rfl rfl rfl | exact c_sub rfl (Sub.altl _ _) rfl | exact c_sub rfl (Sub.nil _) rfl | refine ⟨_, _, rfl, ?_, ?_⟩ | apply And.intro) (by repeat' first | exact trivial | exact rfl | (rw [hE]; first | done | rfl) | exact c_sub rfl (Sub.refl _) rfl | exact c_nil rfl rfl | exact c_thaw rfl rfl rfl | exact c_row rfl rfl rfl | exact c_row rfl rfl (by rw [hE]; first | done | rfl) | exact c_ptr rfl rfl rfl rfl | exact Or.inl ⟨c_sub rfl (Sub.refl _) rfl, c_ptr rfl rfl rfl rfl⟩ | exact c_alt rfl rfl rfl rfl | exact c_sub rfl (Sub.altl _ _) rfl | exact c_sub rfl (Sub.nil _) rfl | refine ⟨_, _, rfl, ?_, ?_⟩ | apply And.intro)⟩
  · have him : i = m := by omega
    subst him
    have hi0 : (0 : Int) < (i : Int) := by omega
    have q4 := Int.emod_nonneg (n - 1) (b := (i : Int)) (by omega)
    have q5 := Int.emod_lt_of_pos (n - 1) hi0
    have hq : ((n - 1) % (i : Int)).toNat < (caps i).length := by omega
    have q1 : 1 ≤ n → 0 ≤ (n + i - 1) / (i : Int) ∧ (n + i - 1) / (i : Int) ≤ n + i - 1 := fun hh => ⟨Int.ediv_nonneg (by omega) (by omega), Int.ediv_le_self _ (by omega)⟩
    have hpc := signs_ok (cD i) n (by show (-9223372036854775808 : Int) ≤ 1; decide) (by show (caps i).length ≤ _; omega) (by show 0 ≤ _; omega) (by show 0 ≤ _; omega)
    rw [signs_c hm1 hm2 (by omega) (by omega) hq] at hpc
    have hpf := signs_ok (fD i first) n (by show (-9223372036854775808 : Int) ≤ first; omega) (by show (caps i).length ≤ _; omega) (by show 0 ≤ _; omega) (by show 0 ≤ _; omega)
    have hpf1 : (signsF (fD i first) n).2 = (decide (first ≤ n) && decide (n < first + i)) := by
      rw [signs_f hm1 hm2 (by omega) (by omega)]
      split
      · rename_i hh
        rw [decide_eq_true hh.1, decide_eq_true (by omega)]; rfl
      · rename_i hh
        symm
        show _ = false
        rw [Bool.eq_false_iff]
        intro hx
        simp only [Bool.and_eq_true, decide_eq_true_eq] at hx
        exact hh ⟨hx.1, by omega⟩
    have hpf2 : (signsF (fD i first) n).2 = true → (signsF (fD i first) n).1 = (caps i).getD (n - first).toNat default := fun hx => by
      rw [signs_f hm1 hm2 (by omega) (by omega)] at hx ⊢
      split
      · rfl
      · rename_i hh
        rw [if_neg hh] at hx
        cases hx
    generalize signsF (fD i first) n = rf at hpf hpf1 hpf2
    obtain ⟨f1, f2⟩ := rf
    have hpy := signs_ok (yD i) n (by show (-9223372036854775808 : Int) ≤ 1; decide) (by show (caps i).length ≤ _; omega) (by show 0 ≤ _; omega) (by show 0 ≤ _; omega)
    have hy := signs_y hm1 hm2 (by omega) (by omega) hq
    generalize signsF (yD i) n = ry at hpy hy
    obtain ⟨y1, y2⟩ := ry
    repeat (first
      | refine awp_seq ?_
      | refine awp_exit ?_)
    refine awp_fits (fits_conv (M' := [.box 28 (dfC (cD i)), .box 28 (dfC (fD i first)), .box 28 (dfC (yD i)), .gone, .gone, .gone]) (F' := [(0, .val (.int .i64 i)), (1, .val (.int .i64 n)), (2, .val (.int .i64 first)), (7, .ptr 0 0), (8, .ptr 1 0), (9, .ptr 2 0)]) (by repeat' first | exact trivial | exact rfl | (rw [List.map_append]; first | done | rfl) | exact c_sub rfl (Sub.refl _) rfl | exact c_nil rfl rfl | exact c_thaw rfl rfl rfl | exact c_row rfl rfl rfl | exact c_row rfl rfl (by rw [List.map_append]; first | done | rfl) | exact c_ptr rfl rfl rfl rfl | exact Or.inl ⟨c_sub rfl (Sub.refl _) rfl, c_ptr rfl rfl rfl rfl⟩ | exact c_alt rfl rfl rfl rfl | exact c_ro rfl rfl | exact c_eo rfl rfl | exact c_sub rfl (Sub.altl _ _) rfl | exact c_sub rfl (Sub.nil _) rfl | refine ⟨_, _, rfl, ?_, ?_⟩ | apply And.intro) (by repeat' first | exact trivial | exact rfl | (rw [List.map_append]; first | done | rfl) | exact c_sub rfl (Sub.refl _) rfl | exact c_nil rfl rfl | exact c_thaw rfl rfl rfl | exact c_row rfl rfl rfl | exact c_row rfl rfl (by rw [List.map_append]; first | done | rfl) | exact c_ptr rfl rfl rfl rfl | exact Or.inl ⟨c_sub rfl (Sub.refl _) rfl, c_ptr rfl rfl rfl rfl⟩ | exact c_alt rfl rfl rfl rfl | exact c_ro rfl rfl | exact c_eo rfl rfl | exact c_sub rfl (Sub.altl _ _) rfl | exact c_sub rfl (Sub.nil _) rfl | refine ⟨_, _, rfl, ?_, ?_⟩ | apply And.intro)) ?_
    repeat (first
      | refine a_region ?_
      | (refine r_id ?_; first
        | refine r_ev tab_ok rfl rfl rfl rfl (by first | exact trivial | exact ⟨by omega, by omega⟩ | omega | exact ⟨by omega, by omega, by omega, by omega⟩ | exact Nat.le_of_ble_eq_true rfl) rfl ?_
        | refine r_ld tab_ok rfl rfl rfl rfl rfl ?_))
    refine r_call hpc call11 rfl rfl ⟨Sub.agg (by repeat' first | exact trivial | exact Sub.refl _ | exact Sub.nil _ | refine Sub.agg ?_ | apply And.intro), Sub.refl _, trivial⟩ rfl rfl rfl rfl ?_
    repeat (first
      | refine awp_seq ?_
      | refine a_region ?_
      | refine r_done ?_
      | (refine r_id ?_; first
        | refine r_ev tab_ok rfl rfl rfl rfl (by first | exact trivial | exact ⟨by omega, by omega⟩ | omega | exact ⟨by omega, by omega, by omega, by omega⟩ | exact Nat.le_of_ble_eq_true rfl) rfl ?_
        | refine r_ld tab_ok rfl rfl rfl rfl rfl ?_))
    refine r_call hpf call11 rfl rfl ⟨Sub.agg (by repeat' first | exact trivial | exact Sub.refl _ | exact Sub.nil _ | refine Sub.agg ?_ | apply And.intro), Sub.refl _, trivial⟩ rfl rfl rfl rfl ?_
    repeat (first
      | refine awp_seq ?_
      | refine a_region ?_
      | refine r_done ?_
      | (refine r_id ?_; first
        | refine r_ev tab_ok rfl rfl rfl rfl (by first | exact trivial | exact ⟨by omega, by omega⟩ | omega | exact ⟨by omega, by omega, by omega, by omega⟩ | exact Nat.le_of_ble_eq_true rfl) rfl ?_
        | refine r_ld tab_ok rfl rfl rfl rfl rfl ?_))
    refine r_call hpy call11 rfl rfl ⟨Sub.agg (by repeat' first | exact trivial | exact Sub.refl _ | exact Sub.nil _ | refine Sub.agg ?_ | apply And.intro), Sub.refl _, trivial⟩ rfl rfl rfl rfl ?_
    repeat (first
      | refine awp_seq ?_
      | refine a_region ?_
      | refine r_done ?_
      | (refine r_id ?_; first
        | refine r_ev tab_ok rfl rfl rfl rfl (by first | exact trivial | exact ⟨by omega, by omega⟩ | omega | exact ⟨by omega, by omega, by omega, by omega⟩ | exact Nat.le_of_ble_eq_true rfl) rfl ?_))
    refine r_call (round_ok (n - 1) i hi0 (by omega)) call12 rfl rfl ⟨Sub.refl _, Sub.refl _, trivial⟩ rfl rfl rfl rfl ?_
    repeat (first
      | refine awp_seq ?_
      | refine a_region ?_
      | refine r_done ?_
      | (refine r_id ?_; first
        | refine r_ev tab_ok rfl rfl rfl rfl (by first | exact trivial | exact ⟨by omega, by omega⟩ | omega | exact ⟨by omega, by omega, by omega, by omega⟩ | exact Nat.le_of_ble_eq_true rfl) rfl ?_
        | refine r_ev_cnd tab_ok rfl rfl rfl rfl rfl rfl (by first | exact fun _ => rfl | exact cs1 | exact cs2 | exact cs3) (by first | exact fun _ => trivial | (intro h; simp at h; first | exact ⟨by omega, by omega⟩ | omega)) rfl ?_
        | refine r_ld_cnd tab_ok rfl rfl rfl rfl rfl rfl (by first | exact fun _ => rfl | exact cs1 | exact cs2 | exact cs3) rfl ?_))
    refine r_idx_cnd tab_ok (f := sD) (l := caps i) rfl rfl rfl rfl rfl rfl rfl (by first | exact fun _ => rfl | exact cs1 | exact cs2 | exact cs3) rfl rfl ⟨q4, hq⟩ rfl rfl ?_
    repeat (first
      | (refine r_id ?_; first
        | refine r_ev tab_ok rfl rfl rfl rfl (by first | exact trivial | exact ⟨by omega, by omega⟩ | omega | exact ⟨by omega, by omega, by omega, by omega⟩ | exact Nat.le_of_ble_eq_true rfl) rfl ?_
        | refine r_ev_cnd tab_ok rfl rfl rfl rfl rfl rfl (by first | exact fun _ => rfl | exact cs1 | exact cs2 | exact cs3) (by first | exact fun _ => trivial | (intro h; simp at h; first | exact ⟨by omega, by omega⟩ | omega)) rfl ?_
        | refine r_ld_cnd tab_ok rfl rfl rfl rfl rfl rfl (by first | exact fun _ => rfl | exact cs1 | exact cs2 | exact cs3) rfl ?_
        | refine r_and_cnd rfl rfl rfl rfl rfl rfl rfl rfl rfl rfl ?_
        | refine r_or rfl rfl rfl rfl rfl rfl rfl rfl ?_))
    refine r_idx_cnd' tab_ok (f := sD) (l := caps i) rfl rfl rfl rfl rfl rfl rfl (by first | exact fun _ => rfl | exact cs1 | exact cs2 | exact cs3) rfl rfl (fun hh => by
      simp only [Bool.and_eq_true, beq_iff_eq] at hh
      have h2 : (f1, f2).snd = true := hh.2
      rw [hpf1] at h2
      simp only [Bool.and_eq_true, decide_eq_true_eq] at h2
      exact ⟨by omega, by rw [hcl]; omega⟩) rfl rfl ?_
    repeat (first
      | refine thenA_normal ?_
      | refine r_done ?_
      | (refine r_id ?_; first
        | refine r_ev_cnd tab_ok rfl rfl rfl rfl rfl rfl (by first | exact fun _ => rfl | exact cs1 | exact cs2 | exact cs3) (by first | exact fun _ => trivial | (intro h; simp at h; first | exact ⟨by omega, by omega⟩ | omega)) rfl ?_
        | refine r_and_cnd rfl rfl rfl rfl rfl rfl rfl rfl rfl rfl ?_
        | refine r_or rfl rfl rfl rfl rfl rfl rfl rfl ?_))
    refine awp_cond rfl (fun hb => ?_) (fun _ => ?_)
    · exfalso
      have e1 : f2 = (decide (first ≤ n) && decide (n < first + i)) := hpf1
      rw [← e1] at hb
      simp at hb
      exact hb.2 (hpf2 hb.1)
    repeat (first
      | refine awp_seq ?_
      | refine thenA_normal ?_
      | refine a_region ?_
      | refine awp_skip ?_
      | refine r_done ?_
      | (refine r_id ?_; first
        | refine r_ev tab_ok rfl rfl rfl rfl (by first | exact trivial | exact ⟨by omega, by omega⟩ | omega | exact ⟨by omega, by omega, by omega, by omega⟩ | exact Nat.le_of_ble_eq_true rfl) rfl ?_
        | refine r_ev_cnd tab_ok rfl rfl rfl rfl rfl rfl (by first | exact fun _ => rfl | exact cs1 | exact cs2 | exact cs3) (by first | exact fun _ => trivial | (intro h; simp at h; first | exact ⟨by omega, by omega⟩ | omega)) rfl ?_
        | refine r_or rfl rfl rfl rfl rfl rfl rfl rfl ?_))
    refine awp_cond rfl (fun hb => ?_) (fun hb => ?_)
    · simp only [Bool.or_eq_true, decide_eq_true_eq] at hb
      rw [if_neg (by omega)] at hy
      cases hy
      repeat (first
        | refine awp_seq ?_
        | refine a_region ?_
        | (refine r_id ?_; first
          | refine r_ev tab_ok rfl rfl rfl rfl (by first | exact trivial | exact ⟨by omega, by omega⟩ | omega | exact ⟨by omega, by omega, by omega, by omega⟩ | exact Nat.le_of_ble_eq_true rfl) rfl ?_
          | refine r_ev_cnd tab_ok rfl rfl rfl rfl rfl rfl (by first | exact fun _ => rfl | exact cs1 | exact cs2 | exact cs3) (by first | exact fun _ => trivial | (intro h; simp at h; first | exact ⟨by omega, by omega⟩ | omega)) rfl ?_
          | refine r_and rfl rfl rfl rfl rfl rfl rfl rfl ?_))
      refine r_call_cnd (fun _ => awake_ok) call9 rfl rfl rfl rfl (by first | exact fun _ => rfl | exact cs1 | exact cs2 | exact cs3) trivial rfl rfl rfl rfl ?_
      repeat (first
        | refine thenA_normal ?_
        | refine awp_ret ?_
        | refine thenA_ret ?_
        | refine r_done ?_
        | (refine r_id ?_; first
          | refine r_ev tab_ok rfl rfl rfl rfl (by first | exact trivial | exact ⟨by omega, by omega⟩ | omega | exact ⟨by omega, by omega, by omega, by omega⟩ | exact Nat.le_of_ble_eq_true rfl) rfl ?_
          | refine r_and rfl rfl rfl rfl rfl rfl rfl rfl ?_)
        | refine ret1 (by first | exact .inl rfl | exact .inr rfl) rfl rfl rfl ?_)
      exact Sub.refl _
    simp only [Bool.or_eq_false_iff, decide_eq_false_iff_not] at hb
    have q6 := q1 (by omega)
    obtain ⟨c, hc⟩ : ∃ c : Nat, (n + i - 1) / (i : Int) = c := ⟨((n + i - 1) / (i : Int)).toNat, by omega⟩
    rw [if_pos (by omega), hc, Int.toNat_natCast, caps_get hq] at hy
    have hY1 : y1 = repS (capS ((n - 1) % (i : Int)).toNat) c := congrArg Prod.fst hy
    have hY2 : y2 = true := congrArg Prod.snd hy
    have hYs : y1.size = c := by rw [hY1, rep_size]
    have hYc : ∀ j, j < c → y1.extract j (j + 1) = (caps i)[((n - 1) % (i : Int)).toNat] := fun j hj => by rw [hY1, rep_cut _ _ _ hj, caps_get hq]
    clear hy hY1
    subst hY2
    repeat (first
      | refine awp_seq ?_
      | refine thenA_normal ?_
      | refine a_region ?_
      | refine awp_skip ?_
      | refine r_done ?_
      | (refine r_id ?_; first
        | refine r_ev tab_ok rfl rfl rfl rfl (by first | exact trivial | exact ⟨by omega, by omega⟩ | omega | exact ⟨by omega, by omega, by omega, by omega⟩ | exact Nat.le_of_ble_eq_true rfl) rfl ?_
        | refine r_ev_cnd tab_ok rfl rfl rfl rfl rfl rfl (by first | exact fun _ => rfl | exact cs1 | exact cs2 | exact cs3) (by first | exact fun _ => trivial | (intro h; simp at h; first | exact ⟨by omega, by omega⟩ | omega)) rfl ?_
        | refine r_or rfl rfl rfl rfl rfl rfl rfl rfl ?_))
    refine awp_cond rfl (fun hb2 => ?_) (fun _ => ?_)
    · exfalso
      simp [hYs, hc] at hb2
    repeat (first
      | refine awp_seq ?_
      | refine thenA_normal ?_
      | refine awp_block ?_
      | refine a_region ?_
      | refine awp_skip ?_
      | refine r_done ?_
      | (refine r_id ?_; first
        | refine r_ev tab_ok rfl rfl rfl rfl (by first | exact trivial | exact ⟨by omega, by omega⟩ | omega | exact ⟨by omega, by omega, by omega, by omega⟩ | exact Nat.le_of_ble_eq_true rfl) rfl ?_))
    refine a_loop (σ := {j : Nat // j ≤ c}) (fun _ => [.box 28 (dfC (cD i)), .box 28 (dfC (fD i first)), .box 28 (dfC (yD i)), .gone, .gone, .gone]) (fun x => [(7, .ptr 0 0), (16, .val (.string y1)), (18, .val (.int .i64 ((n - 1) % (i : Int)))), (19, .val (.int .i64 x.1))]) (fun x => c - x.1) ⟨0, Nat.zero_le _⟩ (fits_conv (by repeat' first | exact trivial | exact rfl | (rw [List.map_append]; first | done | rfl) | exact c_sub rfl (Sub.refl _) rfl | exact c_nil rfl rfl | exact c_thaw rfl rfl rfl | exact c_row rfl rfl rfl | exact c_row rfl rfl (by rw [List.map_append]; first | done | rfl) | exact c_ptr rfl rfl rfl rfl | exact Or.inl ⟨c_sub rfl (Sub.refl _) rfl, c_ptr rfl rfl rfl rfl⟩ | exact c_alt rfl rfl rfl rfl | exact c_ro rfl rfl | exact c_eo rfl rfl | exact c_sub rfl (Sub.altl _ _) rfl | exact c_sub rfl (Sub.nil _) rfl | refine ⟨_, _, rfl, ?_, ?_⟩ | apply And.intro) (by repeat' first | exact trivial | exact rfl | (rw [List.map_append]; first | done | rfl) | exact c_sub rfl (Sub.refl _) rfl | exact c_nil rfl rfl | exact c_thaw rfl rfl rfl | exact c_row rfl rfl rfl | exact c_row rfl rfl (by rw [List.map_append]; first | done | rfl) | exact c_ptr rfl rfl rfl rfl | exact Or.inl ⟨c_sub rfl (Sub.refl _) rfl, c_ptr rfl rfl rfl rfl⟩ | exact c_alt rfl rfl rfl rfl | exact c_ro rfl rfl | exact c_eo rfl rfl | exact c_sub rfl (Sub.altl _ _) rfl | exact c_sub rfl (Sub.nil _) rfl | refine ⟨_, _, rfl, ?_, ?_⟩ | apply And.intro)) ?_
    rintro ⟨j, hj⟩
    dsimp only
    repeat (first
      | refine awp_seq ?_
      | refine thenA_normal ?_
      | refine a_region ?_
      | refine r_done ?_
      | (refine r_id ?_; first
        | refine r_ev tab_ok rfl rfl rfl rfl (by first | exact trivial | exact ⟨by omega, by omega⟩ | omega | exact ⟨by omega, by omega, by omega, by omega⟩ | exact Nat.le_of_ble_eq_true rfl) rfl ?_))
    refine awp_cond_p rfl (fun hlt => ?_) (fun hge => ?_)
    · have hjc : j < c := by omega
      repeat (first
        | refine awp_seq ?_
        | refine awp_block ?_
        | refine a_draw1 mixed_ok (by kernel_rfl) ?_
        | refine awp_skip ?_
        | (refine r_id ?_; first
          | refine r_ev tab_ok rfl rfl rfl rfl (by first | exact trivial | exact ⟨by omega, by omega⟩ | omega | exact ⟨by omega, by omega, by omega, by omega⟩ | exact Nat.le_of_ble_eq_true rfl) rfl ?_))
      refine r_scut tab_ok rfl rfl rfl rfl rfl rfl rfl rfl ⟨by show (0 : Int) ≤ (j : Int); omega, by show (j : Int) ≤ (j : Int) + 1; omega, by show (j : Int) + 1 ≤ (y1.size : Int); omega⟩ rfl ?_
      repeat (first
        | (refine r_id ?_; first
          | refine r_ev tab_ok rfl rfl rfl rfl (by first | exact trivial | exact ⟨by omega, by omega⟩ | omega | exact ⟨by omega, by omega, by omega, by omega⟩ | exact Nat.le_of_ble_eq_true rfl) rfl ?_
          | refine r_ld tab_ok rfl rfl rfl rfl rfl ?_))
      refine r_idx tab_ok (f := sD) (l := caps i) rfl rfl rfl rfl rfl rfl rfl ⟨q4, hq⟩ rfl rfl ?_
      repeat (first
        | refine thenA_normal ?_
        | refine r_done' ?_
        | (refine r_id ?_; first
          | refine r_ev tab_ok rfl rfl rfl rfl (by first | exact trivial | exact ⟨by omega, by omega⟩ | omega | exact ⟨by omega, by omega, by omega, by omega⟩ | exact Nat.le_of_ble_eq_true rfl) rfl ?_))
      refine awp_cond_n rfl (fun hne => ?_) (fun _ => ?_)
      · exfalso
        exact hne (hYc j hjc)
      repeat (first
        | refine thenA_normal ?_
        | refine a_region ?_
        | refine awp_skip ?_
        | refine r_done ?_
        | (refine r_id ?_; first
          | refine r_ev tab_ok rfl rfl rfl rfl (by first | exact trivial | exact ⟨by omega, by omega⟩ | omega | exact ⟨by omega, by omega, by omega, by omega⟩ | exact Nat.le_of_ble_eq_true rfl) rfl ?_))
      exact ⟨⟨j + 1, by omega⟩, by dsimp only; omega, fits_conv (by repeat' first | exact trivial | exact rfl | (rw [List.map_append]; first | done | rfl) | exact c_sub rfl (Sub.refl _) rfl | exact c_nil rfl rfl | exact c_thaw rfl rfl rfl | exact c_row rfl rfl rfl | exact c_row rfl rfl (by rw [List.map_append]; first | done | rfl) | exact c_ptr rfl rfl rfl rfl | exact Or.inl ⟨c_sub rfl (Sub.refl _) rfl, c_ptr rfl rfl rfl rfl⟩ | exact c_alt rfl rfl rfl rfl | exact c_ro rfl rfl | exact c_eo rfl rfl | exact c_sub rfl (Sub.altl _ _) rfl | exact c_sub rfl (Sub.nil _) rfl | refine ⟨_, _, rfl, ?_, ?_⟩ | apply And.intro) (by repeat' first | exact trivial | exact rfl | (rw [List.map_append]; first | done | rfl) | exact c_sub rfl (Sub.refl _) rfl | exact c_nil rfl rfl | exact c_thaw rfl rfl rfl | exact c_row rfl rfl rfl | exact c_row rfl rfl (by rw [List.map_append]; first | done | rfl) | exact c_ptr rfl rfl rfl rfl | exact Or.inl ⟨c_sub rfl (Sub.refl _) rfl, c_ptr rfl rfl rfl rfl⟩ | exact c_alt rfl rfl rfl rfl | exact c_ro rfl rfl | exact c_eo rfl rfl | exact c_sub rfl (Sub.altl _ _) rfl | exact c_sub rfl (Sub.nil _) rfl | refine ⟨_, _, rfl, ?_, ?_⟩ | apply And.intro)⟩
    · repeat (first
        | refine awp_seq ?_
        | refine a_region ?_
        | refine awp_exit ?_)
      refine r_call awake_ok call9 rfl rfl trivial rfl rfl rfl rfl ?_
      repeat (first
        | refine thenA_normal ?_
        | refine awp_ret ?_
        | refine r_done ?_
        | (refine r_id ?_; first
          | refine r_ev tab_ok rfl rfl rfl rfl (by first | exact trivial | exact ⟨by omega, by omega⟩ | omega | exact ⟨by omega, by omega, by omega, by omega⟩ | exact Nat.le_of_ble_eq_true rfl) rfl ?_)
        | refine ret1 (by first | exact .inl rfl | exact .inr rfl) rfl rfl rfl ?_)
      exact Sub.refl _
end Go.Proofs.Ytgkcliecgmhmfaa
