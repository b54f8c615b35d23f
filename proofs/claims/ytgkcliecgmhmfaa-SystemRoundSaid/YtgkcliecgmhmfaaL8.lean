/- Counter styles: additive. Numbers of law9's seat. -/
import Derived.Test.YtgkcliecgmhmfaaL6
import Derived.Test.YtgkcliecgmhmfaaL7
namespace Go.Proofs.Ytgkcliecgmhmfaa
open Go Go.RowKit

/-- One weight, as often as it goes. -/
def inGo (w i : Nat) (n : Nat) (pl : List Nat) : Nat × List Nat := if h : w ≤ n ∧ pl.length ≤ 60 then inGo w i (n - w) (pl ++ [i]) else (n, pl)
termination_by 61 - pl.length
decreasing_by simp; omega
theorem inGo_yes {w i n : Nat} {pl : List Nat} (h : w ≤ n ∧ pl.length ≤ 60) : inGo w i n pl = inGo w i (n - w) (pl ++ [i]) := by rw [inGo, dif_pos h]
theorem inGo_no {w i n : Nat} {pl : List Nat} (h : ¬ (w ≤ n ∧ pl.length ≤ 60)) : inGo w i n pl = (n, pl) := by rw [inGo, dif_neg h]
def addGo (n : Nat) (pl : List Nat) (i : Nat) : List Int → Nat × List Nat
  | [] => (n, pl)
  | w :: r => if w = 0 then addGo n pl (i + 1) r else addGo (inGo w.toNat i n pl).1 (inGo w.toNat i n pl).2 (i + 1) r
def addTB (d : Df) (n : Nat) : ByteArray × Bool :=
  if n = 0 then (if idxF d.ws 0 < d.ws.length then (d.syms.getD (idxF d.ws 0) ⟨#[]⟩, true) else (⟨#[]⟩, false))
  else if 0 < (addGo n [] 0 d.ws).1 ∨ 60 < (addGo n [] 0 d.ws).2.length then (⟨#[]⟩, false)
  else (ustr (((addGo n [] 0 d.ws).2.map (fun p : Nat => symB d p)).flatten), true)
def tbA (x : ByteArray × Bool) : AV := .tup [.val (.string x.1), .val (.bool x.2)]
theorem fall_nonneg : ∀ {l : List Int}, fallF l = true → ∀ w ∈ l, 0 ≤ w
  | [], _, w, h => by cases h
  | [a], hf, w, h => by
    simp [fallF] at hf
    simp at h
    omega
  | a :: b :: r, hf, w, h => by
    simp only [fallF, Bool.and_eq_true, decide_eq_true_eq] at hf
    rcases List.mem_cons.1 h with rfl | h
    · exact hf.1.1
    · exact fall_nonneg hf.2 w h
structure AddS (d : Df) (n0 : Nat) where
  n : Nat
  pl : List Nat
  j : Nat
  hn : n ≤ n0
  hj : j ≤ d.ws.length
  len : pl.length ≤ 61
  lt : ∀ p ∈ pl, p < d.ws.length
  eq : addGo n pl j (d.ws.drop j) = addGo n0 [] 0 d.ws
structure InS (d : Df) (n0 w j n : Nat) (pl : List Nat) where
  m : Nat
  ql : List Nat
  hn : m ≤ n
  len : ql.length ≤ 61
  lt : ∀ p ∈ ql, p < d.ws.length
  eq : inGo w j m ql = inGo w j n pl
set_option maxHeartbeats 4000000 in
theorem additive_ok (d : Df) (n : Nat) (hn : n ≤ 2147483648) (h1 : d.syms.length = d.ws.length) (h2 : d.ws.length ≤ 65536) (hf : fallF d.ws = true) (hs : ∀ s ∈ d.syms, s.size ≤ 1000) : PCalls Try.prog 21 [dfA d, .val (.int .i64 n)] (tbA (addTB d n)) := by
  refine p_start Try.func21 Try.ntmps21 rfl rfl rfl fun S w => ?_
  repeat (first
    | refine awp_seq ?_
    | refine thenA_normal ?_
    | refine a_region ?_
    | refine r_done ?_
    | (refine r_id ?_; first
      | refine r_ev tab_ok rfl rfl rfl rfl (by first | exact trivial | exact ⟨by omega, by omega⟩ | omega | exact ⟨by omega, by omega, by omega, by omega⟩ | exact Nat.le_of_ble_eq_true rfl) rfl ?_
      | refine r_wr tab_ok rfl rfl rfl rfl rfl ?_))
  refine awp_cond_p rfl (fun h => ?_) (fun h => ?_)
  · have h0 : n = 0 := by omega
    repeat (first
      | refine awp_seq ?_
      | refine a_region ?_
      | (refine r_id ?_; first
        | refine r_ev tab_ok rfl rfl rfl rfl (by first | exact trivial | exact ⟨by omega, by omega⟩ | omega | exact ⟨by omega, by omega, by omega, by omega⟩ | exact Nat.le_of_ble_eq_true rfl) rfl ?_
        | refine r_ld tab_ok rfl rfl rfl rfl rfl ?_))
    refine r_call (index_ok d.ws 0 (by omega)) call35 rfl rfl ⟨Sub.refl _, Sub.refl _, trivial⟩ rfl rfl rfl rfl ?_
    repeat (first
      | refine awp_seq ?_
      | refine thenA_normal ?_
      | refine a_region ?_
      | refine r_done ?_
      | (refine r_id ?_; first
        | refine r_ev tab_ok rfl rfl rfl rfl (by first | exact trivial | exact ⟨by omega, by omega⟩ | omega | exact ⟨by omega, by omega, by omega, by omega⟩ | exact Nat.le_of_ble_eq_true rfl) rfl ?_))
    refine awp_cond_p rfl (fun h => ?_) (fun h => ?_)
    · have e : addTB d n = (⟨#[]⟩, false) := by
        rw [addTB, if_pos h0, if_neg]
        intro hc
        rw [indexR, if_pos hc] at h
        omega
      rw [e]
      repeat (first
        | refine awp_seq ?_
        | refine thenA_normal ?_
        | refine a_region ?_
        | refine awp_ret ?_
        | refine thenA_ret ?_
        | refine r_done ?_
        | (refine r_id ?_; first
          | refine r_ev tab_ok rfl rfl rfl rfl (by first | exact trivial | exact ⟨by omega, by omega⟩ | omega | exact ⟨by omega, by omega, by omega, by omega⟩ | exact Nat.le_of_ble_eq_true rfl) rfl ?_)
        | refine ret2 (by first | exact .inl rfl | exact .inr rfl) rfl rfl rfl rfl ?_ ?_)
      · exact Sub.refl _
      · exact Sub.refl _
    · have hc : idxF d.ws 0 < d.ws.length := by
        rcases Nat.lt_or_ge (idxF d.ws 0) d.ws.length with h3 | h3
        · exact h3
        · rw [indexR, if_neg (by omega)] at h
          omega
      have ei : indexR d.ws 0 = (idxF d.ws 0 : Int) := by rw [indexR, if_pos hc]
      have e : addTB d n = (d.syms[(indexR d.ws 0).toNat]'(by omega), true) := by
        rw [addTB, if_pos h0, if_pos hc, List.getD_eq_getElem?_getD, List.getElem?_eq_getElem (by omega)]
        simp [ei]
      rw [e]
      repeat (first
        | refine awp_seq ?_
        | refine thenA_normal ?_
        | refine a_region ?_
        | refine awp_ret ?_
        | refine thenA_ret ?_
        | refine awp_skip ?_
        | refine r_done ?_
        | (refine r_id ?_; first
          | refine r_ev tab_ok rfl rfl rfl rfl (by first | exact trivial | exact ⟨by omega, by omega⟩ | omega | exact ⟨by omega, by omega, by omega, by omega⟩ | exact Nat.le_of_ble_eq_true rfl) rfl ?_
          | refine r_ld tab_ok rfl rfl rfl rfl rfl ?_
          | refine r_idx tab_ok rfl rfl rfl rfl rfl rfl rfl (by first | exact ⟨by omega, by omega⟩ | (simp; omega)) rfl rfl ?_)
        | refine ret2 (by first | exact .inl rfl | exact .inr rfl) rfl rfl rfl rfl ?_ ?_)
      · exact Sub.refl _
      · exact Sub.refl _
  · have h0 : n ≠ 0 := by omega
    repeat (first
      | refine awp_seq ?_
      | refine thenA_normal ?_
      | refine awp_block ?_
      | refine a_region ?_
      | refine awp_skip ?_
      | refine r_done ?_
      | (refine r_id ?_; first
        | refine r_len tab_ok rfl rfl rfl rfl rfl rfl rfl ?_
        | refine r_ev tab_ok rfl rfl rfl rfl (by first | exact trivial | exact ⟨by omega, by omega⟩ | omega | exact ⟨by omega, by omega, by omega, by omega⟩ | exact Nat.le_of_ble_eq_true rfl) rfl ?_
        | refine r_ld tab_ok rfl rfl rfl rfl rfl ?_))
    refine a_loop (σ := AddS d n) (fun x => [.box 28 (dfC d), .row 0 3 1 (x.pl.map nD)]) (fun x => [(1, .val (.int .i64 x.n)), (2, .ptr 0 0), (6, .row 1 0), (25, .sl 1 (d.ws.map iD)), (26, .val (.int .i64 d.ws.length)), (27, .val (.int .i64 x.j))]) (fun x => d.ws.length - x.j)
      ⟨n, [], 0, Nat.le_refl _, Nat.zero_le _, by simp, by simp, rfl⟩ (fits_conv (by repeat' first | exact trivial | exact rfl | (rw [List.map_append]; first | done | rfl) | exact c_sub rfl (Sub.refl _) rfl | exact c_nil rfl rfl | exact c_thaw rfl rfl rfl | exact c_row rfl rfl rfl | exact c_row rfl rfl (by rw [List.map_append]; first | done | rfl) | exact c_ptr rfl rfl rfl rfl | exact Or.inl ⟨c_sub rfl (Sub.refl _) rfl, c_ptr rfl rfl rfl rfl⟩ | exact c_alt rfl rfl rfl rfl | exact c_ro rfl rfl | exact c_eo rfl rfl | exact c_sub rfl (Sub.altl _ _) rfl | refine ⟨_, _, rfl, ?_, ?_⟩ | apply And.intro) (by repeat' first | exact trivial | exact rfl | (rw [List.map_append]; first | done | rfl) | exact c_sub rfl (Sub.refl _) rfl | exact c_nil rfl rfl | exact c_thaw rfl rfl rfl | exact c_row rfl rfl rfl | exact c_row rfl rfl (by rw [List.map_append]; first | done | rfl) | exact c_ptr rfl rfl rfl rfl | exact Or.inl ⟨c_sub rfl (Sub.refl _) rfl, c_ptr rfl rfl rfl rfl⟩ | exact c_alt rfl rfl rfl rfl | exact c_ro rfl rfl | exact c_eo rfl rfl | exact c_sub rfl (Sub.altl _ _) rfl | refine ⟨_, _, rfl, ?_, ?_⟩ | apply And.intro)) ?_
    rintro ⟨m, pl, j, hm, hj, hlen, hlt, heq⟩
    dsimp only at hm hj hlen hlt heq ⊢
    repeat (first
      | refine awp_seq ?_
      | refine a_region ?_
      | refine r_done ?_
      | (refine r_id ?_; first
        | refine r_ev tab_ok rfl rfl rfl rfl (by first | exact trivial | exact ⟨by omega, by omega⟩ | omega | exact ⟨by omega, by omega, by omega, by omega⟩ | exact Nat.le_of_ble_eq_true rfl) rfl ?_))
    refine awp_cond_p rfl (fun hc => ?_) (fun hc => ?_)
    · have hj' : j < d.ws.length := by omega
      have hdr : d.ws.drop j = d.ws[j] :: d.ws.drop (j + 1) := (List.drop_eq_getElem_cons hj')
      have hw0 : 0 ≤ d.ws[j] := fall_nonneg hf _ (List.getElem_mem _)
      repeat (first
        | refine awp_seq ?_
        | refine thenA_normal ?_
        | refine awp_block ?_
        | refine a_region ?_
        | refine awp_skip ?_
        | refine r_done ?_
        | (refine r_id ?_; first
          | refine r_ev tab_ok rfl rfl rfl rfl (by first | exact trivial | exact ⟨by omega, by omega⟩ | omega | exact ⟨by omega, by omega, by omega, by omega⟩ | exact Nat.le_of_ble_eq_true rfl) rfl ?_
          | refine r_idx tab_ok rfl rfl rfl rfl rfl rfl rfl (by first | exact ⟨by omega, by omega⟩ | (simp; omega)) rfl rfl ?_))
      simp only [Int.toNat_natCast]
      refine awp_cond_p rfl (fun hz => ?_) (fun hz => ?_)
      · repeat (first
          | refine thenA_normal ?_
          | refine a_region ?_
          | refine awp_exit ?_
          | refine r_done ?_
          | (refine r_id ?_; first
            | refine r_ev tab_ok rfl rfl rfl rfl (by first | exact trivial | exact ⟨by omega, by omega⟩ | omega | exact ⟨by omega, by omega, by omega, by omega⟩ | exact Nat.le_of_ble_eq_true rfl) rfl ?_))
        exact ⟨⟨m, pl, j + 1, hm, hj', hlen, hlt, by rw [← heq, hdr, addGo, if_pos hz]⟩, by dsimp only; omega, fits_conv (by repeat' first | exact trivial | exact rfl | (rw [List.map_append]; first | done | rfl) | exact c_sub rfl (Sub.refl _) rfl | exact c_nil rfl rfl | exact c_thaw rfl rfl rfl | exact c_row rfl rfl rfl | exact c_row rfl rfl (by rw [List.map_append]; first | done | rfl) | exact c_ptr rfl rfl rfl rfl | exact Or.inl ⟨c_sub rfl (Sub.refl _) rfl, c_ptr rfl rfl rfl rfl⟩ | exact c_alt rfl rfl rfl rfl | exact c_ro rfl rfl | exact c_eo rfl rfl | exact c_sub rfl (Sub.altl _ _) rfl | refine ⟨_, _, rfl, ?_, ?_⟩ | apply And.intro) (by repeat' first | exact trivial | exact rfl | (rw [List.map_append]; first | done | rfl) | exact c_sub rfl (Sub.refl _) rfl | exact c_nil rfl rfl | exact c_thaw rfl rfl rfl | exact c_row rfl rfl rfl | exact c_row rfl rfl (by rw [List.map_append]; first | done | rfl) | exact c_ptr rfl rfl rfl rfl | exact Or.inl ⟨c_sub rfl (Sub.refl _) rfl, c_ptr rfl rfl rfl rfl⟩ | exact c_alt rfl rfl rfl rfl | exact c_ro rfl rfl | exact c_eo rfl rfl | exact c_sub rfl (Sub.altl _ _) rfl | refine ⟨_, _, rfl, ?_, ?_⟩ | apply And.intro)⟩
      · obtain ⟨wn, hwn⟩ : ∃ wn : Nat, d.ws[j] = wn := ⟨d.ws[j].toNat, by omega⟩
        rw [hwn] at hz hw0 hdr
        repeat (first
          | refine thenA_normal ?_
          | refine awp_block ?_
          | refine awp_skip ?_)
        refine a_loop (σ := InS d n wn j m pl) (fun x => [.box 28 (dfC d), .row 0 3 1 (x.ql.map nD)]) (fun x => [(1, .val (.int .i64 x.m)), (2, .ptr 0 0), (6, .row 1 0), (8, .val (.int .i64 j)), (9, .val (.int .i64 wn)), (25, .sl 1 (d.ws.map iD)), (26, .val (.int .i64 d.ws.length)), (27, .val (.int .i64 j))]) (fun x => 61 - x.ql.length)
          ⟨m, pl, Nat.le_refl _, hlen, hlt, rfl⟩ (fits_conv (by repeat' first | exact trivial | exact rfl | (rw [List.map_append]; first | done | rfl) | exact c_sub rfl (Sub.refl _) rfl | exact c_nil rfl rfl | exact c_thaw rfl rfl rfl | exact c_row rfl rfl rfl | exact c_row rfl rfl (by rw [List.map_append]; first | done | rfl) | exact c_ptr rfl rfl rfl rfl | exact Or.inl ⟨c_sub rfl (Sub.refl _) rfl, c_ptr rfl rfl rfl rfl⟩ | exact c_alt rfl rfl rfl rfl | exact c_ro rfl rfl | exact c_eo rfl rfl | exact c_sub rfl (Sub.altl _ _) rfl | refine ⟨_, _, rfl, ?_, ?_⟩ | apply And.intro) ⟨c_sub rfl (Sub.refl _) rfl, c_ptr rfl rfl rfl rfl, c_row rfl rfl rfl, c_sub rfl (Sub.refl _) rfl, c_sub rfl (Sub.of_eq (by show AV.val (.int .i64 d.ws[j]) = _; rw [hwn])) rfl, c_sub rfl (Sub.refl _) rfl, c_sub rfl (Sub.refl _) rfl, c_sub rfl (Sub.refl _) rfl, trivial⟩) ?_
        rintro ⟨m', ql, hm', hlen', hlt', heq'⟩
        dsimp only at hm' hlen' hlt' heq' ⊢
        have hlm : (ql.map nD).length = ql.length := List.length_map _
        repeat (first
          | refine awp_seq ?_
          | refine thenA_normal ?_
          | refine a_region ?_
          | refine r_done ?_
          | (refine r_id ?_; first
            | refine r_ev tab_ok rfl rfl rfl rfl (by first | exact trivial | exact ⟨by omega, by omega⟩ | omega | exact ⟨by omega, by omega, by omega, by omega⟩ | exact Nat.le_of_ble_eq_true rfl) rfl ?_
            | refine r_ev_cnd tab_ok rfl rfl rfl rfl rfl rfl (by first | exact fun _ => rfl | exact cs1 | exact cs2 | exact cs3) (by first | exact fun _ => trivial | (intro h; simp at h; first | exact ⟨by omega, by omega⟩ | omega)) rfl ?_
            | refine r_ld_cnd tab_ok rfl rfl rfl rfl rfl rfl (by first | exact fun _ => rfl | exact cs1 | exact cs2 | exact cs3) rfl ?_
            | refine r_and rfl rfl rfl rfl rfl rfl rfl rfl ?_))
        refine awp_cond rfl (fun hb => ?_) (fun hb => ?_)
        · simp only [Bool.and_eq_true, decide_eq_true_eq] at hb
          have hy : wn ≤ m' ∧ ql.length ≤ 60 := by omega
          repeat (first
            | refine awp_seq ?_
            | refine thenA_normal ?_
            | refine awp_block ?_
            | refine a_region ?_
            | refine awp_skip ?_
            | refine r_done ?_
            | (refine r_id ?_; first
              | refine r_ev tab_ok rfl rfl rfl rfl (by first | exact trivial | exact ⟨by omega, by omega⟩ | omega | exact ⟨by omega, by omega, by omega, by omega⟩ | exact Nat.le_of_ble_eq_true rfl) rfl ?_
              | refine r_built tab_ok rfl rfl rfl rfl rfl rfl rfl rfl rfl ?_
              | refine r_append tab_ok rfl rfl rfl rfl rfl rfl rfl rfl rfl (by first | omega | (simp; omega)) rfl ?_))
          exact ⟨⟨m' - wn, ql ++ [j], by omega, by simp; omega, by
              intro p hp
              rcases List.mem_append.1 hp with hp | hp
              · exact hlt' p hp
              · simp at hp; omega, by rw [← heq', inGo_yes hy]⟩, by simp; omega,
            fits_conv (by repeat' first | exact trivial | exact rfl | (rw [List.map_append]; first | done | rfl) | exact c_sub rfl (Sub.refl _) rfl | exact c_nil rfl rfl | exact c_thaw rfl rfl rfl | exact c_row rfl rfl rfl | exact c_row rfl rfl (by rw [List.map_append]; first | done | rfl) | exact c_ptr rfl rfl rfl rfl | exact Or.inl ⟨c_sub rfl (Sub.refl _) rfl, c_ptr rfl rfl rfl rfl⟩ | exact c_alt rfl rfl rfl rfl | exact c_ro rfl rfl | exact c_eo rfl rfl | exact c_sub rfl (Sub.altl _ _) rfl | refine ⟨_, _, rfl, ?_, ?_⟩ | apply And.intro) ⟨c_sub rfl (Sub.of_eq (by
              show AV.val (.int .i64 ((m' : Int) - wn)) = AV.val (.int .i64 ((m' - wn : Nat) : Int))
              congr 2
              omega)) rfl, c_ptr rfl rfl rfl rfl, c_row rfl rfl (by rw [List.map_append]; rfl), c_sub rfl (Sub.refl _) rfl, c_sub rfl (Sub.refl _) rfl, c_sub rfl (Sub.refl _) rfl, c_sub rfl (Sub.refl _) rfl, c_sub rfl (Sub.refl _) rfl, trivial⟩⟩
        · have hy : ¬ (wn ≤ m' ∧ ql.length ≤ 60) := by
            rintro ⟨k1, k2⟩
            simp only [Bool.and_eq_false_iff, decide_eq_false_iff_not] at hb
            omega
          rw [inGo_no hy] at heq'
          repeat (first
            | refine thenA_normal ?_
            | refine a_region ?_
            | refine awp_exit ?_
            | refine r_done ?_
            | (refine r_id ?_; first
              | refine r_ev tab_ok rfl rfl rfl rfl (by first | exact trivial | exact ⟨by omega, by omega⟩ | omega | exact ⟨by omega, by omega, by omega, by omega⟩ | exact Nat.le_of_ble_eq_true rfl) rfl ?_))
          exact ⟨⟨m', ql, j + 1, by omega, hj', hlen', hlt', by
            rw [← heq, hdr, addGo, if_neg hz, Int.toNat_natCast, ← heq']⟩, by dsimp only; omega, fits_conv (by repeat' first | exact trivial | exact rfl | (rw [List.map_append]; first | done | rfl) | exact c_sub rfl (Sub.refl _) rfl | exact c_nil rfl rfl | exact c_thaw rfl rfl rfl | exact c_row rfl rfl rfl | exact c_row rfl rfl (by rw [List.map_append]; first | done | rfl) | exact c_ptr rfl rfl rfl rfl | exact Or.inl ⟨c_sub rfl (Sub.refl _) rfl, c_ptr rfl rfl rfl rfl⟩ | exact c_alt rfl rfl rfl rfl | exact c_ro rfl rfl | exact c_eo rfl rfl | exact c_sub rfl (Sub.altl _ _) rfl | refine ⟨_, _, rfl, ?_, ?_⟩ | apply And.intro) (by repeat' first | exact trivial | exact rfl | (rw [List.map_append]; first | done | rfl) | exact c_sub rfl (Sub.refl _) rfl | exact c_nil rfl rfl | exact c_thaw rfl rfl rfl | exact c_row rfl rfl rfl | exact c_row rfl rfl (by rw [List.map_append]; first | done | rfl) | exact c_ptr rfl rfl rfl rfl | exact Or.inl ⟨c_sub rfl (Sub.refl _) rfl, c_ptr rfl rfl rfl rfl⟩ | exact c_alt rfl rfl rfl rfl | exact c_ro rfl rfl | exact c_eo rfl rfl | exact c_sub rfl (Sub.altl _ _) rfl | refine ⟨_, _, rfl, ?_, ?_⟩ | apply And.intro)⟩
    · have hje : j = d.ws.length := by omega
      subst hje
      rw [List.drop_length, addGo] at heq
      have e1 : (addGo n [] 0 d.ws).1 = m := by rw [← heq]
      have e2 : (addGo n [] 0 d.ws).2 = pl := by rw [← heq]
      have hz : ∀ z ∈ pl.reverse.map (Nat.cast : Nat → Int), 0 ≤ z ∧ z < (d.syms.length : Int) := by
        intro z hz
        obtain ⟨p, hp, rfl⟩ := List.mem_map.1 hz
        have := hlt p (by simpa using hp)
        omega
      repeat (first
        | refine awp_seq ?_
        | refine a_region ?_
        | refine awp_exit ?_
        | (refine r_id ?_; first
          | refine r_ev tab_ok rfl rfl rfl rfl (by first | exact trivial | exact ⟨by omega, by omega⟩ | omega | exact ⟨by omega, by omega, by omega, by omega⟩ | exact Nat.le_of_ble_eq_true rfl) rfl ?_))
      refine r_mcall [1] (reverse_ok pl (by omega)) call36 rfl rfl ⟨rfl, trivial⟩ (by decide) ⟨Sub.refl _, trivial⟩ rfl rfl rfl rfl rfl rfl rfl ?_
      repeat (first
        | refine awp_seq ?_
        | refine r_done ?_)
      refine awp_fits (fits_conv (M' := [.box 28 (dfC d), .gone]) (F' := [(1, .val (.int .i64 m)), (2, .ptr 0 0), (6, .sl 1 ((pl.reverse.map (Nat.cast : Nat → Int)).map iD))]) (by repeat' first | exact trivial | exact rfl | (rw [List.map_append]; first | done | rfl) | exact c_sub rfl (Sub.refl _) rfl | exact c_nil rfl rfl | exact c_thaw rfl rfl rfl | exact c_row rfl rfl rfl | exact c_row rfl rfl (by rw [List.map_append]; first | done | rfl) | exact c_ptr rfl rfl rfl rfl | exact Or.inl ⟨c_sub rfl (Sub.refl _) rfl, c_ptr rfl rfl rfl rfl⟩ | exact c_alt rfl rfl rfl rfl | exact c_ro rfl rfl | exact c_eo rfl rfl | exact c_sub rfl (Sub.altl _ _) rfl | refine ⟨_, _, rfl, ?_, ?_⟩ | apply And.intro) ⟨c_sub rfl (Sub.refl _) rfl, c_ptr rfl rfl rfl rfl, c_thaw rfl rfl (map_nD _), trivial⟩) ?_
      repeat (first
        | refine a_region ?_
        | (refine r_id ?_; first
          | refine r_ev tab_ok rfl rfl rfl rfl (by first | exact trivial | exact ⟨by omega, by omega⟩ | omega | exact ⟨by omega, by omega, by omega, by omega⟩ | exact Nat.le_of_ble_eq_true rfl) rfl ?_
          | refine r_ld tab_ok rfl rfl rfl rfl rfl ?_))
      refine r_call (chosen_ok d (pl.reverse.map (Nat.cast : Nat → Int)) (by simp; omega) hz hs) call19 rfl rfl ⟨Sub.agg (by repeat' first | exact trivial | exact Sub.refl _ | exact Sub.nil _ | refine Sub.agg ?_ | apply And.intro), Sub.refl _, trivial⟩ rfl rfl rfl rfl ?_
      repeat (first
        | refine awp_seq ?_
        | refine thenA_normal ?_
        | refine a_region ?_
        | refine r_done ?_
        | (refine r_id ?_; first
          | refine r_ev tab_ok rfl rfl rfl rfl (by first | exact trivial | exact ⟨by omega, by omega⟩ | omega | exact ⟨by omega, by omega, by omega, by omega⟩ | exact Nat.le_of_ble_eq_true rfl) rfl ?_
          | refine r_ev_cnd tab_ok rfl rfl rfl rfl rfl rfl (by first | exact fun _ => rfl | exact cs1 | exact cs2 | exact cs3) (by first | exact fun _ => trivial | (intro h; simp at h; first | exact ⟨by omega, by omega⟩ | omega)) rfl ?_
          | refine r_or rfl rfl rfl rfl rfl rfl rfl rfl ?_))
      have hlc : (pl.reverse.map (Nat.cast : Nat → Int)).length = pl.length := by simp
      refine awp_cond rfl (fun hb => ?_) (fun hb => ?_)
      · have e : addTB d n = (⟨#[]⟩, false) := by
          rw [addTB, if_neg h0, e1, e2, if_pos]
          rw [hlc] at hb
          simp only [Bool.not_not, Bool.or_eq_true, decide_eq_true_eq] at hb
          omega
        rw [e]
        repeat (first
          | refine awp_seq ?_
          | refine thenA_normal ?_
          | refine a_region ?_
          | refine awp_ret ?_
          | refine thenA_ret ?_
          | refine r_done ?_
          | (refine r_id ?_; first
            | refine r_ev tab_ok rfl rfl rfl rfl (by first | exact trivial | exact ⟨by omega, by omega⟩ | omega | exact ⟨by omega, by omega, by omega, by omega⟩ | exact Nat.le_of_ble_eq_true rfl) rfl ?_)
          | refine ret2 (by first | exact .inl rfl | exact .inr rfl) rfl rfl rfl rfl ?_ ?_)
        · exact Sub.refl _
        · exact Sub.refl _
      · have hb' : ¬ (0 < m ∨ 60 < pl.length) := by
          rw [hlc] at hb
          simp only [Bool.not_not, Bool.or_eq_false_iff, decide_eq_false_iff_not] at hb
          omega
        have e : addTB d n = (ustr ((pl.map (fun p : Nat => symB d p)).flatten), true) := by
          rw [addTB, if_neg h0, e1, e2, if_neg hb']
        rw [e]
        repeat (first
          | refine awp_seq ?_
          | refine thenA_normal ?_
          | refine a_region ?_
          | refine awp_ret ?_
          | refine awp_skip ?_
          | refine r_done ?_
          | (refine r_id ?_; first
            | refine r_ev tab_ok rfl rfl rfl rfl (by first | exact trivial | exact ⟨by omega, by omega⟩ | omega | exact ⟨by omega, by omega, by omega, by omega⟩ | exact Nat.le_of_ble_eq_true rfl) rfl ?_)
          | refine ret2 (by first | exact .inl rfl | exact .inr rfl) rfl rfl rfl rfl ?_ ?_)
        · exact Sub.of_eq (by
            rw [if_neg (by omega), chosenB, ← List.map_reverse, List.reverse_reverse, List.map_map]
            rfl)
        · exact Sub.refl _
end Go.Proofs.Ytgkcliecgmhmfaa
