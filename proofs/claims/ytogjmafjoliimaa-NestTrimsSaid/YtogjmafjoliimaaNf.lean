/- NestTrims: the law's walk. -/
import Derived.Test.YtogjmafjoliimaaNc
namespace Go.Proofs.Ytogjmafjoliimaa
open Go Go.RowKit

theorem trimF_sz (l : List Nd) : nszs (trimF l) ≤ nszs l := by
  have e : ∀ l : List Nd, nszs (l.dropWhile whN) ≤ nszs l := by
    intro l
    induction l with
    | nil => exact Nat.le_refl _
    | cons n r ih =>
      rw [List.dropWhile_cons]
      split
      · rw [nszs]; omega
      · exact Nat.le_refl _
  have r : ∀ l : List Nd, nszs l.reverse = nszs l := by
    intro l
    induction l with
    | nil => rfl
    | cons n q ih => rw [List.reverse_cons, nszs_append, ih, nszs, nszs, nszs]; omega
  rw [trimF, trimB, r]
  exact Nat.le_trans (e _) (by rw [r]; exact e _)
theorem trimB_take (m : List Nd) : m.take (trimB m).length = trimB m := by
  have h := congrArg List.reverse (List.takeWhile_append_dropWhile (p := whN) (l := m.reverse))
  rw [List.reverse_append, List.reverse_reverse] at h
  have h2 : m = trimB m ++ (m.reverse.takeWhile whN).reverse := h.symm
  have h3 : (trimB m ++ (m.reverse.takeWhile whN).reverse).take (trimB m).length = trimB m := List.take_left
  rw [← h2] at h3
  exact h3
set_option maxHeartbeats 2000000 in
theorem trims_law (s : ByteArray) (hs : s.size ≤ 9223372036854775807) : PCalls Try.prog 7 [.val (.string s)] (.val (.bool true)) := by
  refine p_start Try.func7 Try.ntmps7 rfl rfl rfl fun S w => ?_
  repeat (first
    | refine awp_seq ?_
    | refine thenA_normal ?_
    | refine a_region ?_
    | refine r_done ?_
    | (refine r_id ?_; first
      | refine r_ev tab_ok rfl rfl rfl rfl (by first | exact trivial | exact ⟨by omega, by omega⟩ | omega | exact ⟨by omega, by omega, by omega, by omega⟩ | exact Nat.le_of_ble_eq_true rfl) rfl ?_))
  refine awp_cond_p rfl (fun h => ?_) (fun h => ?_)
  · repeat (first
      | refine awp_seq ?_
      | refine a_region ?_)
    refine r_call awake_ok call8 rfl rfl trivial rfl rfl rfl rfl ?_
    repeat (first
      | refine thenA_normal ?_
      | refine awp_ret ?_
      | refine thenA_ret ?_
      | refine r_done ?_
      | (refine r_id ?_; first
        | refine r_ev tab_ok rfl rfl rfl rfl (by first | exact trivial | exact ⟨by omega, by omega⟩ | omega | exact ⟨by omega, by omega, by omega, by omega⟩ | exact Nat.le_of_ble_eq_true rfl) rfl ?_)
      | refine ret1 (by first | exact .inl rfl | exact .inr rfl) rfl rfl rfl ?_)
    exact Sub.refl _
  have hs' : s.size ≤ 500 := by omega
  have htl := toks_len s
  have hal := allA_sz0 (toks s)
  repeat (first
    | refine awp_seq ?_
    | refine a_region ?_
    | refine awp_skip ?_
    | (refine r_id ?_; first
      | refine r_ev tab_ok rfl rfl rfl rfl (by first | exact trivial | exact ⟨by omega, by omega⟩ | omega | exact ⟨by omega, by omega, by omega, by omega⟩ | exact Nat.le_of_ble_eq_true rfl) rfl ?_))
  refine r_call (text_ok s (by omega)) call10 rfl rfl ⟨Sub.refl _, trivial⟩ rfl rfl rfl rfl ?_
  refine r_call (all_ok (toks s) (by omega)) call9 rfl rfl ⟨Sub.refl _, trivial⟩ rfl rfl rfl rfl ?_
  repeat (first
    | refine awp_seq ?_
    | refine a_region ?_
    | refine r_done ?_
    | (refine r_id ?_; first
      | refine r_ev tab_ok rfl rfl rfl rfl (by first | exact trivial | exact ⟨by omega, by omega⟩ | omega | exact ⟨by omega, by omega, by omega, by omega⟩ | exact Nat.le_of_ble_eq_true rfl) rfl ?_))
  have hdeep := all_trim_deep (toks s)
  generalize allA (toks s) 0 = l at *
  have hll := nszs_len l
  have htz := trimF_sz l
  have hlm : (l.map nF).length = l.length := List.length_map _
  refine r_call (trim_ok 1000 l (by omega) (by decide)) call18 rfl rfl ⟨Sub.refl _, trivial⟩ rfl rfl rfl rfl ?_
  repeat (first
    | refine awp_seq ?_
    | refine a_region ?_
    | refine r_done ?_
    | (refine r_id ?_; first
      | refine r_len tab_ok rfl rfl rfl rfl rfl rfl rfl ?_
      | refine r_ev tab_ok rfl rfl rfl rfl (by first | exact trivial | exact ⟨by omega, by omega⟩ | omega | exact ⟨by omega, by omega, by omega, by omega⟩ | exact Nat.le_of_ble_eq_true rfl) rfl ?_))
  have hdl : (l.dropWhile whN).length ≤ l.length := (List.dropWhile_sublist _).length_le
  obtain ⟨K, hK⟩ : ∃ K, K = l.length - (l.dropWhile whN).length := ⟨_, rfl⟩
  have hdK : l.drop K = l.dropWhile whN := by
    have := List.takeWhile_append_dropWhile (p := whN) (l := l)
    have h1 := congrArg List.length this
    rw [List.length_append] at h1
    have h2 : K = (l.takeWhile whN).length := by omega
    have h3 : (l.takeWhile whN ++ l.dropWhile whN).drop (l.takeWhile whN).length = l.dropWhile whN := List.drop_left
    rw [this] at h3
    rw [h2, h3]
  refine awp_cut ⟨[], [(3, .sl 7 (l.map nF)), (4, .sl 7 ((trimF l).map nF)), (5, .val (.int .i64 K)), (6, .val (.int .i64 l.length))]⟩ ?_ ?_
  · refine awp_block ?_
    refine a_loop (σ := {f : Nat // f ≤ l.length ∧ (l.drop f).dropWhile whN = l.dropWhile whN}) (fun _ => []) (fun x => [(3, .sl 7 (l.map nF)), (4, .sl 7 ((trimF l).map nF)), (5, .val (.int .i64 x.1)), (6, .val (.int .i64 l.length))]) (fun x => l.length - x.1) ⟨0, Nat.zero_le _, rfl⟩ (fits_conv (by repeat' first | exact trivial | exact rfl | (rw [List.map_append]; first | done | rfl) | exact c_sub rfl (Sub.refl _) rfl | exact c_nil rfl rfl | exact c_thaw rfl rfl rfl | exact c_row rfl rfl rfl | exact c_row rfl rfl (by rw [List.map_append]; first | done | rfl) | exact c_ptr rfl rfl rfl rfl | exact Or.inl ⟨c_sub rfl (Sub.refl _) rfl, c_ptr rfl rfl rfl rfl⟩ | exact c_alt rfl rfl rfl rfl | exact c_ro rfl rfl | exact c_eo rfl rfl | exact c_sub rfl (Sub.altl _ _) rfl | exact c_sub rfl (Sub.nil _) rfl | refine ⟨_, _, rfl, ?_, ?_⟩ | apply And.intro) (by repeat' first | exact trivial | exact rfl | (rw [List.map_append]; first | done | rfl) | exact c_sub rfl (Sub.refl _) rfl | exact c_nil rfl rfl | exact c_thaw rfl rfl rfl | exact c_row rfl rfl rfl | exact c_row rfl rfl (by rw [List.map_append]; first | done | rfl) | exact c_ptr rfl rfl rfl rfl | exact Or.inl ⟨c_sub rfl (Sub.refl _) rfl, c_ptr rfl rfl rfl rfl⟩ | exact c_alt rfl rfl rfl rfl | exact c_ro rfl rfl | exact c_eo rfl rfl | exact c_sub rfl (Sub.altl _ _) rfl | exact c_sub rfl (Sub.nil _) rfl | refine ⟨_, _, rfl, ?_, ?_⟩ | apply And.intro)) ?_
    rintro ⟨f, hf, hdw⟩
    dsimp only
    by_cases hlt : f < l.length
    · have hf' : ((f : Nat) : Int).toNat < l.length := by rw [Int.toNat_natCast]; exact hlt
      rw [List.drop_eq_getElem_cons hlt, List.dropWhile_cons] at hdw
      repeat (first
        | refine awp_seq ?_
        | refine thenA_normal ?_
        | refine a_region ?_
        | refine r_done ?_
        | (refine r_id ?_; first
          | refine r_ev tab_ok rfl rfl rfl rfl (by first | exact trivial | exact ⟨by omega, by omega⟩ | omega | exact ⟨by omega, by omega, by omega, by omega⟩ | exact Nat.le_of_ble_eq_true rfl) rfl ?_
          | refine r_idx tab_ok rfl rfl rfl rfl rfl rfl rfl (by first | exact ⟨by omega, by omega⟩ | (simp; omega)) rfl rfl ?_)
        | refine r_g rfl rfl (congrArg (fun b => AV.val (.bool b)) (decide_eq_true (by omega))) ?_
        | refine r_pick_t rfl rfl (congrArg (fun b => AV.val (.bool b)) (decide_eq_true (by omega))) rfl rfl rfl rfl ?_)
      refine awp_cond rfl (fun hw => ?_) (fun hw => ?_)
      · simp only [Int.toNat_natCast] at hw
        rw [if_pos (show whN l[f] = true from hw)] at hdw
        repeat (first
          | refine thenA_normal ?_
          | refine awp_block ?_
          | refine a_region ?_
          | refine blockA_normal ?_
          | refine awp_skip ?_
          | refine r_done ?_
          | (refine r_id ?_; first
            | refine r_ev tab_ok rfl rfl rfl rfl (by first | exact trivial | exact ⟨by omega, by omega⟩ | omega | exact ⟨by omega, by omega, by omega, by omega⟩ | exact Nat.le_of_ble_eq_true rfl) rfl ?_))
        exact ⟨⟨f + 1, hlt, hdw⟩, by dsimp only; omega, fits_conv (by repeat' first | exact trivial | exact rfl | (rw [List.map_append]; first | done | rfl) | exact c_sub rfl (Sub.refl _) rfl | exact c_nil rfl rfl | exact c_thaw rfl rfl rfl | exact c_row rfl rfl rfl | exact c_row rfl rfl (by rw [List.map_append]; first | done | rfl) | exact c_ptr rfl rfl rfl rfl | exact Or.inl ⟨c_sub rfl (Sub.refl _) rfl, c_ptr rfl rfl rfl rfl⟩ | exact c_alt rfl rfl rfl rfl | exact c_ro rfl rfl | exact c_eo rfl rfl | exact c_sub rfl (Sub.altl _ _) rfl | exact c_sub rfl (Sub.nil _) rfl | refine ⟨_, _, rfl, ?_, ?_⟩ | apply And.intro) (by repeat' first | exact trivial | exact rfl | (rw [List.map_append]; first | done | rfl) | exact c_sub rfl (Sub.refl _) rfl | exact c_nil rfl rfl | exact c_thaw rfl rfl rfl | exact c_row rfl rfl rfl | exact c_row rfl rfl (by rw [List.map_append]; first | done | rfl) | exact c_ptr rfl rfl rfl rfl | exact Or.inl ⟨c_sub rfl (Sub.refl _) rfl, c_ptr rfl rfl rfl rfl⟩ | exact c_alt rfl rfl rfl rfl | exact c_ro rfl rfl | exact c_eo rfl rfl | exact c_sub rfl (Sub.altl _ _) rfl | exact c_sub rfl (Sub.nil _) rfl | refine ⟨_, _, rfl, ?_, ?_⟩ | apply And.intro)⟩
      · simp only [Int.toNat_natCast] at hw
        rw [if_neg (by rw [show whN l[f] = false from hw]; decide)] at hdw
        have e : f = K := by
          have := congrArg List.length hdw
          rw [List.length_cons, List.length_drop] at this
          omega
        subst e
        repeat (first
          | refine awp_exit ?_
          | refine thenA_exit ?_
          | refine blockA_hit rfl ?_)
        exact ⟨rfl, fits_conv (by repeat' first | exact trivial | exact rfl | (rw [List.map_append]; first | done | rfl) | exact c_sub rfl (Sub.refl _) rfl | exact c_nil rfl rfl | exact c_thaw rfl rfl rfl | exact c_row rfl rfl rfl | exact c_row rfl rfl (by rw [List.map_append]; first | done | rfl) | exact c_ptr rfl rfl rfl rfl | exact Or.inl ⟨c_sub rfl (Sub.refl _) rfl, c_ptr rfl rfl rfl rfl⟩ | exact c_alt rfl rfl rfl rfl | exact c_ro rfl rfl | exact c_eo rfl rfl | exact c_sub rfl (Sub.altl _ _) rfl | exact c_sub rfl (Sub.nil _) rfl | refine ⟨_, _, rfl, ?_, ?_⟩ | apply And.intro) (by repeat' first | exact trivial | exact rfl | (rw [List.map_append]; first | done | rfl) | exact c_sub rfl (Sub.refl _) rfl | exact c_nil rfl rfl | exact c_thaw rfl rfl rfl | exact c_row rfl rfl rfl | exact c_row rfl rfl (by rw [List.map_append]; first | done | rfl) | exact c_ptr rfl rfl rfl rfl | exact Or.inl ⟨c_sub rfl (Sub.refl _) rfl, c_ptr rfl rfl rfl rfl⟩ | exact c_alt rfl rfl rfl rfl | exact c_ro rfl rfl | exact c_eo rfl rfl | exact c_sub rfl (Sub.altl _ _) rfl | exact c_sub rfl (Sub.nil _) rfl | refine ⟨_, _, rfl, ?_, ?_⟩ | apply And.intro)⟩
    · rw [List.drop_of_length_le (by omega)] at hdw
      have e : f = K := by
        have := congrArg List.length hdw
        rw [List.dropWhile_nil, List.length_nil] at this
        omega
      subst e
      repeat (first
        | refine awp_seq ?_
        | refine thenA_normal ?_
        | refine a_region ?_
        | refine awp_exit ?_
        | refine thenA_exit ?_
        | refine blockA_hit rfl ?_
        | refine r_done ?_
        | (refine r_id ?_; first
          | refine r_ev tab_ok rfl rfl rfl rfl (by first | exact trivial | exact ⟨by omega, by omega⟩ | omega | exact ⟨by omega, by omega, by omega, by omega⟩ | exact Nat.le_of_ble_eq_true rfl) rfl ?_)
        | refine awp_cond_f rfl ?_
        | refine r_pick_f rfl rfl (congrArg (fun b => AV.val (.bool b)) (decide_eq_false (by omega))) rfl rfl rfl rfl ?_
        | refine r_off rfl rfl (congrArg (fun b => AV.val (.bool b)) (decide_eq_false (by omega))) rfl rfl rfl ?_)
      exact ⟨rfl, fits_conv (by repeat' first | exact trivial | exact rfl | (rw [List.map_append]; first | done | rfl) | exact c_sub rfl (Sub.refl _) rfl | exact c_nil rfl rfl | exact c_thaw rfl rfl rfl | exact c_row rfl rfl rfl | exact c_row rfl rfl (by rw [List.map_append]; first | done | rfl) | exact c_ptr rfl rfl rfl rfl | exact Or.inl ⟨c_sub rfl (Sub.refl _) rfl, c_ptr rfl rfl rfl rfl⟩ | exact c_alt rfl rfl rfl rfl | exact c_ro rfl rfl | exact c_eo rfl rfl | exact c_sub rfl (Sub.altl _ _) rfl | exact c_sub rfl (Sub.nil _) rfl | refine ⟨_, _, rfl, ?_, ?_⟩ | apply And.intro) (by repeat' first | exact trivial | exact rfl | (rw [List.map_append]; first | done | rfl) | exact c_sub rfl (Sub.refl _) rfl | exact c_nil rfl rfl | exact c_thaw rfl rfl rfl | exact c_row rfl rfl rfl | exact c_row rfl rfl (by rw [List.map_append]; first | done | rfl) | exact c_ptr rfl rfl rfl rfl | exact Or.inl ⟨c_sub rfl (Sub.refl _) rfl, c_ptr rfl rfl rfl rfl⟩ | exact c_alt rfl rfl rfl rfl | exact c_ro rfl rfl | exact c_eo rfl rfl | exact c_sub rfl (Sub.altl _ _) rfl | exact c_sub rfl (Sub.nil _) rfl | refine ⟨_, _, rfl, ?_, ?_⟩ | apply And.intro)⟩
  repeat (first
    | refine awp_seq ?_)
  have htK : trimF l = trimB (l.drop K) := by rw [trimF, hdK]
  have htl2 : (trimF l).length ≤ l.length - K := by
    rw [htK, trimB, List.length_reverse]
    have := (List.dropWhile_sublist (l := (l.drop K).reverse) whN).length_le
    rw [List.length_reverse, List.length_drop] at this
    exact this
  have hKl : K ≤ l.length := by omega
  refine awp_cut ⟨[], [(3, .sl 7 (l.map nF)), (4, .sl 7 ((trimF l).map nF)), (5, .val (.int .i64 K)), (6, .val (.int .i64 (K + (trimF l).length : Nat)))]⟩ ?_ ?_
  · refine awp_block ?_
    refine a_loop (σ := {t : Nat // K ≤ t ∧ t ≤ l.length ∧ trimB ((l.take t).drop K) = trimF l}) (fun _ => []) (fun x => [(3, .sl 7 (l.map nF)), (4, .sl 7 ((trimF l).map nF)), (5, .val (.int .i64 K)), (6, .val (.int .i64 x.1))]) (fun x => x.1) ⟨l.length, hKl, Nat.le_refl _, by rw [List.take_length]; exact htK.symm⟩ (fits_conv (by repeat' first | exact trivial | exact rfl | (rw [List.map_append]; first | done | rfl) | exact c_sub rfl (Sub.refl _) rfl | exact c_nil rfl rfl | exact c_thaw rfl rfl rfl | exact c_row rfl rfl rfl | exact c_row rfl rfl (by rw [List.map_append]; first | done | rfl) | exact c_ptr rfl rfl rfl rfl | exact Or.inl ⟨c_sub rfl (Sub.refl _) rfl, c_ptr rfl rfl rfl rfl⟩ | exact c_alt rfl rfl rfl rfl | exact c_ro rfl rfl | exact c_eo rfl rfl | exact c_sub rfl (Sub.altl _ _) rfl | exact c_sub rfl (Sub.nil _) rfl | refine ⟨_, _, rfl, ?_, ?_⟩ | apply And.intro) (by repeat' first | exact trivial | exact rfl | (rw [List.map_append]; first | done | rfl) | exact c_sub rfl (Sub.refl _) rfl | exact c_nil rfl rfl | exact c_thaw rfl rfl rfl | exact c_row rfl rfl rfl | exact c_row rfl rfl (by rw [List.map_append]; first | done | rfl) | exact c_ptr rfl rfl rfl rfl | exact Or.inl ⟨c_sub rfl (Sub.refl _) rfl, c_ptr rfl rfl rfl rfl⟩ | exact c_alt rfl rfl rfl rfl | exact c_ro rfl rfl | exact c_eo rfl rfl | exact c_sub rfl (Sub.altl _ _) rfl | exact c_sub rfl (Sub.nil _) rfl | refine ⟨_, _, rfl, ?_, ?_⟩ | apply And.intro)) ?_
    rintro ⟨t, hKt, htl3, htb⟩
    dsimp only
    by_cases hlt : K < t
    · have hx : t - 1 < l.length := by omega
      have ex : ((t : Int) - 1).toNat = t - 1 := by omega
      have hf' : ((t : Int) - 1).toNat < l.length := by omega
      have hsp : (l.take t).drop K = (l.take (t - 1)).drop K ++ [l[t - 1]] := by
        have e : t = t - 1 + 1 := by omega
        conv => lhs; rw [e, List.take_succ_eq_append_getElem hx]
        rw [List.drop_append_of_le_length (by rw [List.length_take]; omega)]
      rw [hsp] at htb
      repeat (first
        | refine awp_seq ?_
        | refine thenA_normal ?_
        | refine a_region ?_
        | refine r_done ?_
        | (refine r_id ?_; first
          | refine r_ev tab_ok rfl rfl rfl rfl (by first | exact trivial | exact ⟨by omega, by omega⟩ | omega | exact ⟨by omega, by omega, by omega, by omega⟩ | exact Nat.le_of_ble_eq_true rfl) rfl ?_
          | refine r_idx tab_ok rfl rfl rfl rfl rfl rfl rfl (by first | exact ⟨by omega, by omega⟩ | (simp; omega)) rfl rfl ?_)
        | refine r_g rfl rfl (congrArg (fun b => AV.val (.bool b)) (decide_eq_true (by omega))) ?_
        | refine r_pick_t rfl rfl (congrArg (fun b => AV.val (.bool b)) (decide_eq_true (by omega))) rfl rfl rfl rfl ?_)
      refine awp_cond rfl (fun hw => ?_) (fun hw => ?_)
      · simp only [ex] at hw
        rw [trimB_go (show whN l[t - 1] = true from hw)] at htb
        repeat (first
          | refine thenA_normal ?_
          | refine awp_block ?_
          | refine a_region ?_
          | refine blockA_normal ?_
          | refine awp_skip ?_
          | refine r_done ?_
          | (refine r_id ?_; first
            | refine r_ev tab_ok rfl rfl rfl rfl (by first | exact trivial | exact ⟨by omega, by omega⟩ | omega | exact ⟨by omega, by omega, by omega, by omega⟩ | exact Nat.le_of_ble_eq_true rfl) rfl ?_))
        exact ⟨⟨t - 1, by omega, by omega, htb⟩, by dsimp only; omega, fits_conv (by repeat' first | exact trivial | exact rfl | (rw [List.map_append]; first | done | rfl) | exact c_sub rfl (Sub.refl _) rfl | exact c_nil rfl rfl | exact c_thaw rfl rfl rfl | exact c_row rfl rfl rfl | exact c_row rfl rfl (by rw [List.map_append]; first | done | rfl) | exact c_ptr rfl rfl rfl rfl | exact Or.inl ⟨c_sub rfl (Sub.refl _) rfl, c_ptr rfl rfl rfl rfl⟩ | exact c_alt rfl rfl rfl rfl | exact c_ro rfl rfl | exact c_eo rfl rfl | exact c_sub rfl (Sub.altl _ _) rfl | exact c_sub rfl (Sub.nil _) rfl | refine ⟨_, _, rfl, ?_, ?_⟩ | apply And.intro) ⟨c_sub rfl (Sub.refl _) rfl, c_sub rfl (Sub.refl _) rfl, c_sub rfl (Sub.refl _) rfl, c_sub rfl (Sub.of_eq (by rw [show ((t - 1 : Nat) : Int) = (t : Int) - 1 by omega]; rfl)) rfl, trivial⟩⟩
      · simp only [ex] at hw
        rw [trimB_no (show whN l[t - 1] = false from hw), ← hsp] at htb
        have e : t = K + (trimF l).length := by
          have := congrArg List.length htb
          rw [List.length_drop, List.length_take] at this
          omega
        rw [← e]
        repeat (first
          | refine awp_exit ?_
          | refine thenA_exit ?_
          | refine blockA_hit rfl ?_)
        exact ⟨rfl, fits_conv (by repeat' first | exact trivial | exact rfl | (rw [List.map_append]; first | done | rfl) | exact c_sub rfl (Sub.refl _) rfl | exact c_nil rfl rfl | exact c_thaw rfl rfl rfl | exact c_row rfl rfl rfl | exact c_row rfl rfl (by rw [List.map_append]; first | done | rfl) | exact c_ptr rfl rfl rfl rfl | exact Or.inl ⟨c_sub rfl (Sub.refl _) rfl, c_ptr rfl rfl rfl rfl⟩ | exact c_alt rfl rfl rfl rfl | exact c_ro rfl rfl | exact c_eo rfl rfl | exact c_sub rfl (Sub.altl _ _) rfl | exact c_sub rfl (Sub.nil _) rfl | refine ⟨_, _, rfl, ?_, ?_⟩ | apply And.intro) (by repeat' first | exact trivial | exact rfl | (rw [List.map_append]; first | done | rfl) | exact c_sub rfl (Sub.refl _) rfl | exact c_nil rfl rfl | exact c_thaw rfl rfl rfl | exact c_row rfl rfl rfl | exact c_row rfl rfl (by rw [List.map_append]; first | done | rfl) | exact c_ptr rfl rfl rfl rfl | exact Or.inl ⟨c_sub rfl (Sub.refl _) rfl, c_ptr rfl rfl rfl rfl⟩ | exact c_alt rfl rfl rfl rfl | exact c_ro rfl rfl | exact c_eo rfl rfl | exact c_sub rfl (Sub.altl _ _) rfl | exact c_sub rfl (Sub.nil _) rfl | refine ⟨_, _, rfl, ?_, ?_⟩ | apply And.intro)⟩
    · have e : t = K + (trimF l).length := by
        rw [List.drop_of_length_le (by rw [List.length_take]; omega)] at htb
        rw [← htb, show trimB [] = [] from rfl, List.length_nil]
        omega
      rw [← e]
      repeat (first
        | refine awp_seq ?_
        | refine thenA_normal ?_
        | refine a_region ?_
        | refine awp_exit ?_
        | refine thenA_exit ?_
        | refine blockA_hit rfl ?_
        | refine r_done ?_
        | (refine r_id ?_; first
          | refine r_ev tab_ok rfl rfl rfl rfl (by first | exact trivial | exact ⟨by omega, by omega⟩ | omega | exact ⟨by omega, by omega, by omega, by omega⟩ | exact Nat.le_of_ble_eq_true rfl) rfl ?_)
        | refine awp_cond_f rfl ?_
        | refine r_pick_f rfl rfl (congrArg (fun b => AV.val (.bool b)) (decide_eq_false (by omega))) rfl rfl rfl rfl ?_
        | refine r_off rfl rfl (congrArg (fun b => AV.val (.bool b)) (decide_eq_false (by omega))) rfl rfl rfl ?_)
      exact ⟨rfl, fits_conv (by repeat' first | exact trivial | exact rfl | (rw [List.map_append]; first | done | rfl) | exact c_sub rfl (Sub.refl _) rfl | exact c_nil rfl rfl | exact c_thaw rfl rfl rfl | exact c_row rfl rfl rfl | exact c_row rfl rfl (by rw [List.map_append]; first | done | rfl) | exact c_ptr rfl rfl rfl rfl | exact Or.inl ⟨c_sub rfl (Sub.refl _) rfl, c_ptr rfl rfl rfl rfl⟩ | exact c_alt rfl rfl rfl rfl | exact c_ro rfl rfl | exact c_eo rfl rfl | exact c_sub rfl (Sub.altl _ _) rfl | exact c_sub rfl (Sub.nil _) rfl | refine ⟨_, _, rfl, ?_, ?_⟩ | apply And.intro) (by repeat' first | exact trivial | exact rfl | (rw [List.map_append]; first | done | rfl) | exact c_sub rfl (Sub.refl _) rfl | exact c_nil rfl rfl | exact c_thaw rfl rfl rfl | exact c_row rfl rfl rfl | exact c_row rfl rfl (by rw [List.map_append]; first | done | rfl) | exact c_ptr rfl rfl rfl rfl | exact Or.inl ⟨c_sub rfl (Sub.refl _) rfl, c_ptr rfl rfl rfl rfl⟩ | exact c_alt rfl rfl rfl rfl | exact c_ro rfl rfl | exact c_eo rfl rfl | exact c_sub rfl (Sub.altl _ _) rfl | exact c_sub rfl (Sub.nil _) rfl | refine ⟨_, _, rfl, ?_, ?_⟩ | apply And.intro)⟩
  have hcut : (l.take ((K + (trimF l).length : Nat) : Int).toNat).drop ((K : Int)).toNat = trimF l := by
    rw [Int.toNat_natCast, Int.toNat_natCast, List.drop_take, Nat.add_sub_cancel_left, htK, trimB_take]
  have hsame : ∀ m : List Nd, nszs m < 1000 → PCalls Try.prog 14 [.sl 7 (m.map nF), .sl 7 (m.map nF)] (.val (.bool true)) := fun m hm => by
    have := refSame_ok 1000 m m hm (by decide)
    rw [sameL_self] at this
    exact this
  have hti : PCalls Try.prog 18 [.sl 7 ((trimF l).map nF)] (.sl 7 ((trimF l).map nF)) := by
    have := trim_ok 1000 (trimF l) (by omega) (by decide)
    rw [trim_idem] at this
    exact this
  repeat (first
    | refine awp_seq ?_
    | refine a_region ?_
    | (refine r_id ?_; first
      | refine r_ev tab_ok rfl rfl rfl rfl (by first | exact trivial | exact ⟨by omega, by omega⟩ | omega | exact ⟨by omega, by omega, by omega, by omega⟩ | exact Nat.le_of_ble_eq_true rfl) rfl ?_))
  refine r_cut tab_ok rfl rfl rfl rfl rfl rfl rfl rfl ⟨Int.natCast_nonneg _, by show (K : Int) ≤ ((K + (trimF l).length : Nat) : Int); omega, by show ((K + (trimF l).length : Nat) : Int) ≤ (l.length : Int); omega⟩ rfl ?_
  refine r_call (hsame (trimF l) (by omega)) call14 rfl rfl ⟨Sub.refl _, Sub.of_eq (by rw [← congrArg (List.map nF) hcut]; rfl), trivial⟩ rfl rfl rfl rfl ?_
  repeat (first
    | (refine r_id ?_; first
      | refine r_ev tab_ok rfl rfl rfl rfl (by first | exact trivial | exact ⟨by omega, by omega⟩ | omega | exact ⟨by omega, by omega, by omega, by omega⟩ | exact Nat.le_of_ble_eq_true rfl) rfl ?_
      | refine r_ev_on tab_ok rfl rfl rfl rfl rfl rfl (by first | exact trivial | exact ⟨by omega, by omega⟩ | omega) rfl ?_)
    | refine r_g rfl rfl rfl ?_)
  refine r_call hti call18 rfl rfl ⟨Sub.refl _, trivial⟩ rfl rfl rfl rfl ?_
  repeat (first
    | (refine r_id ?_; first
      | refine r_ev_on tab_ok rfl rfl rfl rfl rfl rfl (by first | exact trivial | exact ⟨by omega, by omega⟩ | omega) rfl ?_)
    | refine r_g rfl rfl rfl ?_)
  refine r_call (hsame (trimF l) (by omega)) call14 rfl rfl ⟨Sub.refl _, Sub.refl _, trivial⟩ rfl rfl rfl rfl ?_
  by_cases hnil : trimF l = []
  · rw [hnil]
    repeat (first
      | (refine r_id ?_; first
        | refine r_ev tab_ok rfl rfl rfl rfl (by first | exact trivial | exact ⟨by omega, by omega⟩ | omega | exact ⟨by omega, by omega, by omega, by omega⟩ | exact Nat.le_of_ble_eq_true rfl) rfl ?_
        | refine r_pick_t rfl rfl rfl rfl rfl rfl rfl ?_
        | refine r_off rfl rfl rfl rfl rfl rfl ?_
        | refine r_len_on tab_ok rfl rfl rfl rfl rfl rfl rfl rfl rfl ?_
        | refine r_ev_on tab_ok rfl rfl rfl rfl rfl rfl (by first | exact trivial | exact ⟨by omega, by omega⟩ | omega) rfl ?_)
      | refine r_g rfl rfl rfl ?_)
    refine r_call awake_ok call8 rfl rfl trivial rfl rfl rfl rfl ?_
    repeat (first
      | refine thenA_normal ?_
      | refine awp_ret ?_
      | refine r_done ?_
      | (refine r_id ?_; first
        | refine r_ev tab_ok rfl rfl rfl rfl (by first | exact trivial | exact ⟨by omega, by omega⟩ | omega | exact ⟨by omega, by omega, by omega, by omega⟩ | exact Nat.le_of_ble_eq_true rfl) rfl ?_
        | refine r_pick_t rfl rfl rfl rfl rfl rfl rfl ?_)
      | refine ret1 (by first | exact .inl rfl | exact .inr rfl) rfl rfl rfl ?_)
    exact Sub.refl _
  · have hdeep := hdeep hnil
    have hpos : 0 < (trimF l).length := List.length_pos_iff.2 hnil
    have htm : ((trimF l).map nF).length = (trimF l).length := List.length_map _
    repeat (first
      | (refine r_id ?_; first
        | refine r_ev tab_ok rfl rfl rfl rfl (by first | exact trivial | exact ⟨by omega, by omega⟩ | omega | exact ⟨by omega, by omega, by omega, by omega⟩ | exact Nat.le_of_ble_eq_true rfl) rfl ?_
        | refine r_pick_t rfl rfl rfl rfl rfl rfl rfl ?_
        | refine r_len_on tab_ok rfl rfl rfl rfl rfl rfl rfl rfl rfl ?_
        | refine r_ev_on tab_ok rfl rfl rfl rfl rfl rfl (by first | exact trivial | exact ⟨by omega, by omega⟩ | omega) rfl ?_)
      | refine r_g rfl rfl (congrArg (fun b => AV.val (.bool b)) (decide_eq_false (by omega))) ?_)
    refine r_call (deep_ok 1000 (trimF l) (by omega) (by decide)) call11 rfl rfl ⟨Sub.refl _, trivial⟩ rfl rfl rfl rfl ?_
    repeat (first
      | (refine r_id ?_; first
        | refine r_ev tab_ok rfl rfl rfl rfl (by first | exact trivial | exact ⟨by omega, by omega⟩ | omega | exact ⟨by omega, by omega, by omega, by omega⟩ | exact Nat.le_of_ble_eq_true rfl) rfl ?_)
      | refine r_g rfl rfl (congrArg (fun b => AV.val (.bool b)) (decide_eq_false (by omega))) ?_)
    refine r_call (deep_ok 1000 l (by omega) (by decide)) call11 rfl rfl ⟨Sub.refl _, trivial⟩ rfl rfl rfl rfl ?_
    rw [hdeep]
    repeat (first
      | (refine r_id ?_; first
        | refine r_ev tab_ok rfl rfl rfl rfl (by first | exact trivial | exact ⟨by omega, by omega⟩ | omega | exact ⟨by omega, by omega, by omega, by omega⟩ | exact Nat.le_of_ble_eq_true rfl) rfl ?_
        | refine r_pick_t rfl rfl rfl rfl rfl rfl rfl ?_)
      | refine r_g rfl rfl rfl ?_
      | refine r_g rfl rfl (congrArg (fun b => AV.val (.bool b)) (decide_eq_true (by omega))) ?_
      | refine r_g rfl rfl (congrArg (fun b => AV.val (.bool b)) (decide_eq_false (by omega))) ?_
      | refine r_pick_f rfl rfl (congrArg (fun b => AV.val (.bool b)) (decide_eq_false (by omega))) rfl rfl rfl rfl ?_)
    refine r_call awake_ok call8 rfl rfl trivial rfl rfl rfl rfl ?_
    repeat (first
      | refine thenA_normal ?_
      | refine awp_ret ?_
      | refine r_done ?_
      | (refine r_id ?_; first
        | refine r_ev tab_ok rfl rfl rfl rfl (by first | exact trivial | exact ⟨by omega, by omega⟩ | omega | exact ⟨by omega, by omega, by omega, by omega⟩ | exact Nat.le_of_ble_eq_true rfl) rfl ?_)
      | refine ret1 (by first | exact .inl rfl | exact .inr rfl) rfl rfl rfl ?_
      | refine r_pick_t rfl rfl (congrArg (fun b => AV.val (.bool b)) (decide_eq_true (by omega))) rfl rfl rfl rfl ?_)
    exact Sub.refl _
end Go.Proofs.Ytogjmafjoliimaa
