/- The law DomAttrs. -/
import Derived.Test.YtklodolkgdmhoaaWp
import Derived.Lib.Strings
namespace Go.Proofs.Ytklodolkgdmhoaa
open Go Go.RowKit

def clU : ByteArray := ⟨#[67, 76, 65, 83, 83]⟩
def attrAt (values : List ByteArray) (upper : List Bool) (j : Nat) : At := ⟨if upper.getD j false then clU else clsS, values.getD j emS⟩
def attrsL (values : List ByteArray) (upper : List Bool) (i : Nat) : List At := (List.range i).map (attrAt values upper)
def blDx (b : Bool) : D := .val (.bool b)
theorem attrsL_succ (values : List ByteArray) (upper : List Bool) (i : Nat) : attrsL values upper (i + 1) = attrsL values upper i ++ [attrAt values upper i] := by rw [attrsL, List.range_succ, List.map_append]; rfl
theorem lower_nm (values : List ByteArray) (upper : List Bool) (j : Nat) : lowS (attrAt values upper j).name = clsS := by
  rw [attrAt]
  dsimp only
  split <;> kernel_rfl
theorem lowA_one {acc : List At} {a : At} (h : a ∈ acc) (hn : a.name = clsS) : ∀ (l : List At), (∀ x ∈ l, lowS x.name = clsS) → lowA false acc l = acc
  | [], _ => rfl
  | x :: r, hl => by
    have hx := hl x List.mem_cons_self
    rw [lowA, hx, if_pos]
    · exact lowA_one h hn r fun y hy => hl y (List.mem_cons_of_mem _ hy)
    · rw [Bool.or_false, List.any_eq_true]
      exact ⟨a, h, by rw [hn]; exact decide_eq_true rfl⟩
theorem attrs_low (values : List ByteArray) (upper : List Bool) (n : Nat) (hn : 0 < n) : lowA false [] (attrsL values upper n) = [⟨clsS, values.getD 0 emS⟩] := by
  obtain ⟨m, rfl⟩ : ∃ m, n = m + 1 := ⟨n - 1, by omega⟩
  have e : attrsL values upper (m + 1) = attrAt values upper 0 :: (List.range m).map (fun j => attrAt values upper (j + 1)) := by
    rw [attrsL, List.range_succ_eq_map, List.map_cons, List.map_map]; rfl
  rw [e, lowA, lower_nm]
  simp only [List.any_nil, Bool.false_or, Bool.false_eq_true, if_false, List.nil_append]
  exact lowA_one List.mem_cons_self rfl _ fun x hx => by
    obtain ⟨j, _, rfl⟩ := List.mem_map.1 hx
    exact lower_nm values upper (j + 1)
def rowA (values : List ByteArray) (upper : List Bool) : Rw := ⟨-1, aS', emS, attrsL values upper values.length⟩
  where aS' : ByteArray := ⟨#[97]⟩
def gsA (values : List ByteArray) : List Nt := [⟨⟨-1, ⟨#[97]⟩, emS, if values.length = 0 then [] else [⟨clsS, values.getD 0 emS⟩]⟩, [], 1⟩]
theorem newA (values : List ByteArray) (upper : List Bool) : newF [rowA values upper] = some (gsA values) := by
  have h1 : okL [rowA values upper] = true := by
    rw [okL]
    have : ¬ (rowA.aS' : ByteArray) = emS := by decide
    simp [rowA, this]
  have h2 : lowR (rowA values upper) = ⟨-1, ⟨#[97]⟩, emS, if values.length = 0 then [] else [⟨clsS, values.getD 0 emS⟩]⟩ := by
    rw [lowR]
    have h3 : lowS (rowA values upper).tag = ⟨#[97]⟩ := by kernel_rfl
    have h4 : decide (lowS (rowA values upper).tag = emS) = false := by rw [h3]; decide
    rw [h4, h3]
    have h5 : lowA false [] (rowA values upper).attrs = if values.length = 0 then [] else [⟨clsS, values.getD 0 emS⟩] := by
      rcases Nat.eq_zero_or_pos values.length with h | h
      · rw [if_pos h, rowA]; dsimp only; rw [h]; rfl
      · rw [if_neg (by omega)]; exact attrs_low values upper _ h
    rw [h5]; rfl
  rw [newF, if_pos h1]
  simp only [newG, List.length_nil, if_true]
  rw [h2]
  rfl
theorem inA (values : List ByteArray) : inB (gsA values) 0 = true := rfl
theorem attrA0 {values : List ByteArray} (h : values.length = 0) (n : ByteArray) : attrF (gsA values) 0 n = (emS, false) := by
  rw [attrF, inA, if_pos rfl]
  show attrL (if values.length = 0 then [] else [⟨clsS, values.getD 0 emS⟩]) n = _
  rw [if_pos h]; rfl
theorem attrA1 {values : List ByteArray} (h : values.length ≠ 0) : attrF (gsA values) 0 clsS = (values.getD 0 emS, true) := by
  rw [attrF, inA, if_pos rfl]
  show attrL (if values.length = 0 then [] else [⟨clsS, values.getD 0 emS⟩]) clsS = _
  rw [if_neg h, attrL, if_pos rfl]
theorem attrAU {values : List ByteArray} : attrF (gsA values) 0 clU = (emS, false) := by
  rw [attrF, inA, if_pos rfl]
  show attrL (if values.length = 0 then [] else [⟨clsS, values.getD 0 emS⟩]) clU = _
  split
  · rfl
  · rw [attrL, if_neg (by show ¬ clsS = clU; decide), attrL]
def clean (v : ByteArray) : ByteArray := ⟨#[32]⟩ ++ v ++ ⟨#[10]⟩
def spc (b : UInt8) : Bool := decide (b.toNat = 32) || decide (b.toNat = 9) || decide (b.toNat = 10)
/-- Does the word stand at i, between White? -/
def condW (s w : ByteArray) (i : Nat) : Bool := decide (0 < i) && decide (s.extract i (i + w.size) = w) && spc (byteAt s (i - 1)) && spc (byteAt s (i + w.size))
theorem condW_go (s w : ByteArray) (i : Nat) : (decide (0 < (i : Int)) && decide (s.extract (i : Int).toNat ((i : Int) + w.size).toNat = w) &&
        (decide (((s.data.toList.getD ((i : Int) - 1).toNat 0).toNat : Int) = 32) || decide (((s.data.toList.getD ((i : Int) - 1).toNat 0).toNat : Int) = 9) || decide (((s.data.toList.getD ((i : Int) - 1).toNat 0).toNat : Int) = 10)) &&
      (decide (((s.data.toList.getD ((i : Int) + w.size).toNat 0).toNat : Int) = 32) || decide (((s.data.toList.getD ((i : Int) + w.size).toNat 0).toNat : Int) = 9) || decide (((s.data.toList.getD ((i : Int) + w.size).toNat 0).toNat : Int) = 10))) = condW s w i := by
  have h1 : ((i : Int) - 1).toNat = i - 1 := by omega
  have h2 : ((i : Int) + w.size).toNat = i + w.size := by omega
  have d32 : ∀ x : Nat, decide ((x : Int) = 32) = decide (x = 32) := fun x => decide_eq_decide.2 (by omega)
  have d9 : ∀ x : Nat, decide ((x : Int) = 9) = decide (x = 9) := fun x => decide_eq_decide.2 (by omega)
  have d10 : ∀ x : Nat, decide ((x : Int) = 10) = decide (x = 10) := fun x => decide_eq_decide.2 (by omega)
  have d0 : decide (0 < (i : Int)) = decide (0 < i) := decide_eq_decide.2 (by omega)
  rw [h1, h2, Int.toNat_natCast, d0, condW, spc, spc, byteAt, byteAt]
  simp only [d32, d9, d10]
theorem clean_data (v : ByteArray) : (clean v).data.toList = 32 :: (v.data.toList ++ [10]) := by
  rw [clean, ByteArray.data_append, ByteArray.data_append, Array.toList_append, Array.toList_append]
  rfl
theorem clean_cut {v : ByteArray} {a b : Nat} (hab : a ≤ b) (hb : b ≤ v.size) : (clean v).extract (a + 1) (b + 1) = v.extract a b := by
  have hl := str_size v
  have h : ((clean v).extract (a + 1) (b + 1)).data.toList = (v.extract a b).data.toList := by
    rw [Lib.extract_data, Lib.extract_data, clean_data, List.drop_succ_cons, List.drop_append_of_le_length (by omega), List.take_append_of_le_length (by rw [List.length_drop]; omega)]
    congr 1
    omega
  have h2 : ((clean v).extract (a + 1) (b + 1)).data = (v.extract a b).data := Array.toList_inj.1 h
  show (⟨((clean v).extract (a + 1) (b + 1)).data⟩ : ByteArray) = _
  rw [h2]
theorem clean_at (v : ByteArray) (k : Nat) : byteAt (clean v) k = if k = 0 then 32 else if k ≤ v.size then byteAt v (k - 1) else if k = v.size + 1 then 10 else 0 := by
  have hl := str_size v
  rw [byteAt, clean_data]
  cases k with
  | zero => rfl
  | succ k =>
    rw [if_neg (by omega), List.getD_cons_succ, List.getD_eq_getElem?_getD]
    split
    · rw [List.getElem?_append_left (by omega), byteAt, List.getD_eq_getElem?_getD]; rfl
    · rw [List.getElem?_append_right (by omega)]
      split
      · rw [show k - v.data.toList.length = 0 by omega]; rfl
      · rw [List.getElem?_eq_none (by simp; omega)]; rfl
theorem spc_wh (b : UInt8) : spc b = whB b := by
  rw [spc, whB]
  cases decide (b.toNat = 32) <;> cases decide (b.toNat = 9) <;> cases decide (b.toNat = 10) <;> rfl
theorem ext_size {v : ByteArray} {a b : Nat} (hb : b ≤ v.size) : (v.extract a b).size = b - a := by
  have hl := str_size v
  rw [← str_size, Lib.extract_data, List.length_take, List.length_drop]
  omega
theorem ext_at {v : ByteArray} {a b j : Nat} (_ : b ≤ v.size) (hj : j < b - a) : byteAt (v.extract a b) j = byteAt v (a + j) := by
  rw [byteAt, byteAt, Lib.extract_data, List.getD_eq_getElem?_getD, List.getD_eq_getElem?_getD, List.getElem?_take, if_pos hj, List.getElem?_drop]
/-- A word without White is one of a text's words just if it stands in it between White. -/
theorem has_clean (v w : ByteArray) (h1 : 1 ≤ w.size) (hb : ∀ k, k < w.size → 32 < (byteAt w k).toNat) : ((wordsF v).any fun x => decide (w = x)) = (List.range (v.size + 2 - w.size)).any (condW (clean v) w) := by
  have hl := str_size v
  rw [Bool.eq_iff_iff, List.any_eq_true, List.any_eq_true]
  constructor
  · rintro ⟨x, hx, hw⟩
    have hw := of_decide_eq_true hw
    obtain ⟨⟨a, b⟩, hp, rfl⟩ := List.mem_map.1 hx
    have W := (mem_sp0 a b).1 hp
    dsimp only at hw
    have hab := W.lt
    have hbl : b ≤ v.size := by have := W.le; omega
    have hsz : w.size = b - a := by rw [hw, ext_size hbl]
    refine ⟨a + 1, List.mem_range.2 (by omega), ?_⟩
    have e1 : a + 1 + w.size = b + 1 := by omega
    rw [condW, e1, clean_cut (by omega) hbl, spc_wh, spc_wh, clean_at, clean_at]
    simp only [Bool.and_eq_true, decide_eq_true_eq]
    refine ⟨⟨⟨by omega, hw.symm⟩, ?_⟩, ?_⟩
    · rw [Nat.add_sub_cancel]
      rcases W.be with h | h
      · rw [if_pos h]; rfl
      · by_cases h0 : a = 0
        · rw [if_pos h0]; rfl
        · rw [if_neg h0, if_pos (by omega)]; exact h
    · rw [if_neg (by omega)]
      rcases W.en with h | h
      · rw [if_neg (by omega), if_pos (by omega)]; rfl
      · by_cases h0 : b = v.size
        · rw [if_neg (by omega), if_pos (by omega)]; rfl
        · rw [if_pos (by omega), Nat.add_sub_cancel]; exact h
  · rintro ⟨i, hi, hc⟩
    have hi := List.mem_range.1 hi
    rw [condW, spc_wh, spc_wh] at hc
    simp only [Bool.and_eq_true, decide_eq_true_eq] at hc
    obtain ⟨⟨⟨c1, c2⟩, c3⟩, c4⟩ := hc
    obtain ⟨a, rfl⟩ : ∃ a, i = a + 1 := ⟨i - 1, by omega⟩
    have hbl : a + w.size ≤ v.size := by omega
    rw [show a + 1 + w.size = (a + w.size) + 1 by omega, clean_cut (by omega) hbl] at c2
    rw [Nat.add_sub_cancel, clean_at] at c3
    rw [show a + 1 + w.size = (a + w.size) + 1 by omega, clean_at, if_neg (by omega)] at c4
    refine ⟨v.extract a (a + w.size), List.mem_map.2 ⟨(a, a + w.size), (mem_sp0 a (a + w.size)).2 ⟨by omega, by omega, fun k k1 k2 => ?_, ?_, ?_⟩, rfl⟩, decide_eq_true c2.symm⟩
    · have h2 := hb (k - a) (by omega)
      rw [← c2, ext_at hbl (by omega), show a + (k - a) = k by omega] at h2
      show whB (byteAt v k) = false
      rw [whB, decide_eq_false (by omega), decide_eq_false (by omega), decide_eq_false (by omega)]
      rfl
    · by_cases h0 : a = 0
      · exact .inl h0
      · rw [if_neg h0, if_pos (by omega)] at c3
        exact .inr c3
    · by_cases h0 : a + w.size = v.size
      · exact .inl (by omega)
      · rw [if_pos (by omega), Nat.add_sub_cancel] at c4
        exact .inr c4
set_option maxHeartbeats 8000000 in
theorem lawAttrs (values : List ByteArray) (upper : List Bool) (w : ByteArray) (hvl : values.length ≤ 9223372036854775807) (hul : upper.length ≤ 9223372036854775807) (_ : ∀ s ∈ values, s.size ≤ 9223372036854775807) (hw : w.size ≤ 9223372036854775807) :
    PCalls Try.prog 5 [.sl 1 (values.map sD), .sl 1 (upper.map blDx), .val (.string w)] (.val (.bool true)) := by
  refine p_start Try.func5 Try.ntmps5 rfl rfl rfl fun S w0 => ?_
  have hvm : (values.map sD).length = values.length := List.length_map _
  have hum : (upper.map blDx).length = upper.length := List.length_map _
  repeat (first
    | refine awp_seq ?_
    | refine thenA_normal ?_
    | refine a_region ?_
    | refine r_done ?_
    | (refine r_id ?_; first
      | refine r_len tab_ok rfl rfl rfl rfl rfl rfl rfl ?_
      | refine r_ev tab_ok rfl rfl rfl rfl (by first | exact trivial | exact ⟨by omega, by omega⟩ | omega | exact ⟨by omega, by omega, by omega, by omega⟩ | exact Nat.le_of_ble_eq_true rfl) rfl ?_
      | refine r_len_cnd tab_ok rfl rfl rfl rfl rfl rfl (by first | exact fun _ => rfl | exact cs1) rfl rfl rfl ?_
      | refine r_ev_cnd tab_ok rfl rfl rfl rfl rfl rfl (by first | exact fun _ => rfl | exact cs1 | exact cs2 | exact cs3) (by first | exact fun _ => trivial | (intro h; simp at h; first | exact ⟨by omega, by omega⟩ | omega)) rfl ?_
      | refine r_or rfl rfl rfl rfl rfl rfl rfl rfl ?_))
  refine awp_cond rfl (fun hc => ?_) (fun hc => ?_)
  · repeat (first
      | refine awp_seq ?_
      | refine a_region ?_)
    refine r_call awake_ok call8 rfl rfl trivial rfl rfl rfl rfl ?_
    repeat (first
      | refine thenA_normal ?_
      | refine awp_ret ?_
      | refine thenA_ret ?_
      | refine r_done ?_
      | (refine r_id ?_; first
        | refine r_ev tab_ok rfl rfl rfl rfl (by first | exact trivial | exact ⟨by omega, by omega⟩ | omega | exact ⟨by omega, by omega, by omega, by omega⟩ | exact Nat.le_of_ble_eq_true rfl) rfl ?_)
      | refine ret1 (by first | exact .inl rfl | exact .inr rfl) rfl rfl rfl ?_)
    exact Sub.refl _
  · simp only [Bool.or_eq_false_iff, decide_eq_false_iff_not] at hc
    have h8 : values.length ≤ 8 := by omega
    have huv : values.length ≤ upper.length := by omega
    have hw1 : 1 ≤ w.size ∧ w.size ≤ 20 := by omega
    have hwz := str_size w
    repeat (first
      | refine awp_seq ?_
      | refine thenA_normal ?_
      | refine awp_block ?_
      | refine a_region ?_
      | refine awp_skip ?_
      | refine r_done ?_
      | (refine r_id ?_; first
        | refine r_ev tab_ok rfl rfl rfl rfl (by first | exact trivial | exact ⟨by omega, by omega⟩ | omega | exact ⟨by omega, by omega, by omega, by omega⟩ | exact Nat.le_of_ble_eq_true rfl) rfl ?_))
    refine a_loop (σ := {i : Nat // i ≤ w.size ∧ ∀ k, k < i → 32 < (byteAt w k).toNat}) (fun _ => []) (fun x => [(0, .sl 1 (values.map sD)), (1, .sl 1 (upper.map blDx)), (2, .val (.string w)), (7, .val (.int .i64 x.1))]) (fun x => w.size - x.1) ⟨0, Nat.zero_le _, fun k h => absurd h (Nat.not_lt_zero _)⟩ (fits_of rfl (by repeat' first | exact trivial | exact Sub.refl _ | exact rfl | apply And.intro)) ?_
    rintro ⟨i, hi, hbig⟩
    dsimp only
    repeat (first
      | refine awp_seq ?_
      | refine thenA_normal ?_
      | refine a_region ?_
      | refine r_done ?_
      | (refine r_id ?_; first
        | refine r_ev tab_ok rfl rfl rfl rfl (by first | exact trivial | exact ⟨by omega, by omega⟩ | omega | exact ⟨by omega, by omega, by omega, by omega⟩ | exact Nat.le_of_ble_eq_true rfl) rfl ?_))
    refine awp_cond_p rfl (fun hlt => ?_) (fun hge => ?_)
    · have hlt : i < w.size := by omega
      repeat (first
        | refine awp_seq ?_
        | refine thenA_normal ?_
        | refine awp_block ?_
        | refine a_region ?_
        | refine awp_skip ?_
        | refine r_done ?_
        | (refine r_id ?_; first
          | refine r_ev tab_ok rfl rfl rfl rfl (by first | exact trivial | exact ⟨by omega, by omega⟩ | omega | exact ⟨by omega, by omega, by omega, by omega⟩ | exact Nat.le_of_ble_eq_true rfl) rfl ?_))
      refine awp_cond_p rfl (fun hb => ?_) (fun hb => ?_)
      · repeat (first
          | refine awp_seq ?_
          | refine a_region ?_)
        refine r_call awake_ok call8 rfl rfl trivial rfl rfl rfl rfl ?_
        repeat (first
          | refine thenA_normal ?_
          | refine awp_ret ?_
          | refine thenA_ret ?_
          | refine blockA_ret ?_
          | refine r_done ?_
          | (refine r_id ?_; first
            | refine r_ev tab_ok rfl rfl rfl rfl (by first | exact trivial | exact ⟨by omega, by omega⟩ | omega | exact ⟨by omega, by omega, by omega, by omega⟩ | exact Nat.le_of_ble_eq_true rfl) rfl ?_)
          | refine ret1 (by first | exact .inl rfl | exact .inr rfl) rfl rfl rfl ?_)
        exact Sub.refl _
      · repeat (first
          | refine thenA_normal ?_
          | refine a_region ?_
          | refine awp_skip ?_
          | refine r_done ?_
          | (refine r_id ?_; first
            | refine r_ev tab_ok rfl rfl rfl rfl (by first | exact trivial | exact ⟨by omega, by omega⟩ | omega | exact ⟨by omega, by omega, by omega, by omega⟩ | exact Nat.le_of_ble_eq_true rfl) rfl ?_))
        refine ⟨⟨i + 1, hlt, fun k hk => ?_⟩, by dsimp only; omega, fits_of rfl (by repeat' first | exact trivial | exact Sub.refl _ | exact rfl | apply And.intro)⟩
        rcases Nat.lt_or_eq_of_le (Nat.le_of_lt_succ hk) with h | h
        · exact hbig k h
        · subst h
          simp only [Int.toNat_natCast] at hb
          rw [byteAt]
          omega
    · have hiw : i = w.size := by omega
      subst hiw
      repeat (first
        | refine awp_seq ?_
        | refine thenA_normal ?_
        | refine awp_block ?_
        | refine a_region ?_
        | refine awp_exit ?_
        | refine r_done ?_
        | (refine r_id ?_; first
          | refine r_ev tab_ok rfl rfl rfl rfl (by first | exact trivial | exact ⟨by omega, by omega⟩ | omega | exact ⟨by omega, by omega, by omega, by omega⟩ | exact Nat.le_of_ble_eq_true rfl) rfl ?_
          | refine r_wr tab_ok rfl rfl rfl rfl rfl ?_
          | refine r_st tab_ok rfl rfl rfl rfl ?_
          | refine r_build tab_ok rfl rfl rfl rfl rfl rfl ?_))
      refine a_loop (σ := {i : Nat // i ≤ values.length ∧ ∀ k, k < i → (values.getD k emS).size ≤ 200}) (fun x => [.box 26 [.val (.int .i64 (-1)), .val (.string ⟨#[97]⟩), .val (.string ⟨#[]⟩), .row 1 0], .row 0 42 2 ((attrsL values upper x.1).map atD)])
        (fun x => [(0, .sl 1 (values.map sD)), (1, .sl 1 (upper.map blDx)), (2, .val (.string w)), (8, .ptr 0 0), (9, .val (.int .i64 x.1))]) (fun x => values.length - x.1) ⟨0, Nat.zero_le _, fun k h => absurd h (Nat.not_lt_zero _)⟩ (fits_conv (by repeat' first | exact trivial | exact rfl | (rw [List.map_append]; first | done | rfl) | exact c_sub rfl (Sub.refl _) rfl | exact c_nil rfl rfl | exact c_thaw rfl rfl rfl | exact c_row rfl rfl rfl | exact c_row rfl rfl (by rw [List.map_append]; first | done | rfl) | exact c_ptr rfl rfl rfl rfl | exact Or.inl ⟨c_sub rfl (Sub.refl _) rfl, c_ptr rfl rfl rfl rfl⟩ | exact c_alt rfl rfl rfl rfl | exact c_ro rfl rfl | exact c_eo rfl rfl | exact c_sub rfl (Sub.altl _ _) rfl | exact c_sub rfl (Sub.nil _) rfl | refine ⟨_, _, rfl, ?_, ?_⟩ | apply And.intro) (by repeat' first | exact trivial | exact rfl | (rw [List.map_append]; first | done | rfl) | exact c_sub rfl (Sub.refl _) rfl | exact c_nil rfl rfl | exact c_thaw rfl rfl rfl | exact c_row rfl rfl rfl | exact c_row rfl rfl (by rw [List.map_append]; first | done | rfl) | exact c_ptr rfl rfl rfl rfl | exact Or.inl ⟨c_sub rfl (Sub.refl _) rfl, c_ptr rfl rfl rfl rfl⟩ | exact c_alt rfl rfl rfl rfl | exact c_ro rfl rfl | exact c_eo rfl rfl | exact c_sub rfl (Sub.altl _ _) rfl | exact c_sub rfl (Sub.nil _) rfl | refine ⟨_, _, rfl, ?_, ?_⟩ | apply And.intro)) ?_
      rintro ⟨i, hi2, hsz⟩
      dsimp only
      have hal : ((attrsL values upper i).map atD).length = i := by simp [attrsL]
      have hal2 : (attrsL values upper i).length = i := by simp [attrsL]
      repeat (first
        | refine awp_seq ?_
        | refine thenA_normal ?_
        | refine a_region ?_
        | refine r_done ?_
        | (refine r_id ?_; first
          | refine r_len tab_ok rfl rfl rfl rfl rfl rfl rfl ?_
          | refine r_ev tab_ok rfl rfl rfl rfl (by first | exact trivial | exact ⟨by omega, by omega⟩ | omega | exact ⟨by omega, by omega, by omega, by omega⟩ | exact Nat.le_of_ble_eq_true rfl) rfl ?_))
      refine awp_cond_p rfl (fun hlt => ?_) (fun hge => ?_)
      · have hlt : i < values.length := by omega
        have hgv : values[i] = values.getD i emS := by rw [List.getD_eq_getElem?_getD, List.getElem?_eq_getElem hlt]; rfl
        have hgu : upper[i]'(by omega) = upper.getD i false := by rw [List.getD_eq_getElem?_getD, List.getElem?_eq_getElem (by omega)]; rfl
        repeat (first
          | refine awp_seq ?_
          | refine thenA_normal ?_
          | refine awp_block ?_
          | refine a_region ?_
          | refine awp_skip ?_
          | refine r_done ?_
          | (refine r_id ?_; first
            | refine r_ev tab_ok rfl rfl rfl rfl (by first | exact trivial | exact ⟨by omega, by omega⟩ | omega | exact ⟨by omega, by omega, by omega, by omega⟩ | exact Nat.le_of_ble_eq_true rfl) rfl ?_
            | refine r_idx tab_ok rfl rfl rfl rfl rfl rfl rfl (by first | exact ⟨by omega, by omega⟩ | (simp; omega)) rfl rfl ?_))
        simp only [Int.toNat_natCast]
        refine awp_cond_p rfl (fun hb => ?_) (fun hb => ?_)
        · repeat (first
            | refine awp_seq ?_
            | refine a_region ?_)
          refine r_call awake_ok call8 rfl rfl trivial rfl rfl rfl rfl ?_
          repeat (first
            | refine thenA_normal ?_
            | refine awp_ret ?_
            | refine thenA_ret ?_
            | refine blockA_ret ?_
            | refine r_done ?_
            | (refine r_id ?_; first
              | refine r_ev tab_ok rfl rfl rfl rfl (by first | exact trivial | exact ⟨by omega, by omega⟩ | omega | exact ⟨by omega, by omega, by omega, by omega⟩ | exact Nat.le_of_ble_eq_true rfl) rfl ?_)
            | refine ret1 (by first | exact .inl rfl | exact .inr rfl) rfl rfl rfl ?_)
          exact Sub.refl _
        · have hnx : ∀ k, k < i + 1 → (values.getD k emS).size ≤ 200 := fun k hk => by
            rcases Nat.lt_or_eq_of_le (Nat.le_of_lt_succ hk) with h | h
            · exact hsz k h
            · subst h; rw [← hgv]; omega
          repeat (first
            | refine awp_seq ?_
            | refine thenA_normal ?_
            | refine a_region ?_
            | refine awp_skip ?_
            | refine r_done ?_
            | (refine r_id ?_; first
              | refine r_ev tab_ok rfl rfl rfl rfl (by first | exact trivial | exact ⟨by omega, by omega⟩ | omega | exact ⟨by omega, by omega, by omega, by omega⟩ | exact Nat.le_of_ble_eq_true rfl) rfl ?_
              | refine r_idx tab_ok rfl rfl rfl rfl rfl rfl rfl (by first | exact ⟨by omega, by omega⟩ | (simp; omega)) rfl rfl ?_))
          refine awp_cond rfl (fun hu => ?_) (fun hu => ?_)
          · have hu : upper.getD i false = true := by rw [← hgu]; exact hu
            repeat (first
              | refine thenA_normal ?_
              | refine a_region ?_
              | refine r_done ?_
              | (refine r_id ?_; first
                | refine r_ev tab_ok rfl rfl rfl rfl (by first | exact trivial | exact ⟨by omega, by omega⟩ | omega | exact ⟨by omega, by omega, by omega, by omega⟩ | exact Nat.le_of_ble_eq_true rfl) rfl ?_))
            refine a_draw mixed_ok [0, 1, 0, 0, 0, 0, 1, 0, 1, 2, 0, 2] (by kernel_rfl) ?_
            repeat (first
              | refine thenA_normal ?_
              | refine a_region ?_
              | refine r_done ?_
              | refine r_done' ?_
              | (refine r_id ?_; first
                | refine r_ev tab_ok rfl rfl rfl rfl (by first | exact trivial | exact ⟨by omega, by omega⟩ | omega | exact ⟨by omega, by omega, by omega, by omega⟩ | exact Nat.le_of_ble_eq_true rfl) rfl ?_
                | refine r_ld tab_ok rfl rfl rfl rfl rfl ?_
                | refine r_idx tab_ok rfl rfl rfl rfl rfl rfl rfl (by first | exact ⟨by omega, by omega⟩ | (simp; omega)) rfl rfl ?_
                | refine r_st tab_ok rfl rfl rfl rfl ?_
                | refine r_build tab_ok rfl rfl rfl rfl rfl rfl ?_
                | refine r_built tab_ok rfl rfl rfl rfl rfl rfl rfl rfl rfl ?_
                | refine r_append tab_ok rfl rfl rfl rfl rfl rfl rfl rfl rfl (by first | omega | (simp; omega)) rfl ?_))
            refine ⟨⟨i + 1, by omega, hnx⟩, by dsimp only; omega, ?_⟩
            dsimp only
            rw [attrsL_succ, List.map_append, attrAt, hu, ← hgv]
            exact fits_conv (by repeat' first | exact trivial | exact rfl | (rw [List.map_append]; first | done | rfl) | exact c_sub rfl (Sub.refl _) rfl | exact c_nil rfl rfl | exact c_thaw rfl rfl rfl | exact c_row rfl rfl rfl | exact c_row rfl rfl (by rw [List.map_append]; first | done | rfl) | exact c_ptr rfl rfl rfl rfl | exact Or.inl ⟨c_sub rfl (Sub.refl _) rfl, c_ptr rfl rfl rfl rfl⟩ | exact c_alt rfl rfl rfl rfl | exact c_ro rfl rfl | exact c_eo rfl rfl | exact c_sub rfl (Sub.altl _ _) rfl | exact c_sub rfl (Sub.nil _) rfl | refine ⟨_, _, rfl, ?_, ?_⟩ | apply And.intro) (by repeat' first | exact trivial | exact rfl | (rw [List.map_append]; first | done | rfl) | exact c_sub rfl (Sub.refl _) rfl | exact c_nil rfl rfl | exact c_thaw rfl rfl rfl | exact c_row rfl rfl rfl | exact c_row rfl rfl (by rw [List.map_append]; first | done | rfl) | exact c_ptr rfl rfl rfl rfl | exact Or.inl ⟨c_sub rfl (Sub.refl _) rfl, c_ptr rfl rfl rfl rfl⟩ | exact c_alt rfl rfl rfl rfl | exact c_ro rfl rfl | exact c_eo rfl rfl | exact c_sub rfl (Sub.altl _ _) rfl | exact c_sub rfl (Sub.nil _) rfl | refine ⟨_, _, rfl, ?_, ?_⟩ | apply And.intro)
          · have hu : upper.getD i false = false := by rw [← hgu]; exact hu
            repeat (first
              | refine thenA_normal ?_
              | refine awp_skip ?_)
            refine a_draw mixed_ok [0, 1, 0, 0, 0, 0, 1, 0, 1, 2, 0, 2] (by kernel_rfl) ?_
            repeat (first
              | refine thenA_normal ?_
              | refine a_region ?_
              | refine r_done ?_
              | refine r_done' ?_
              | (refine r_id ?_; first
                | refine r_ev tab_ok rfl rfl rfl rfl (by first | exact trivial | exact ⟨by omega, by omega⟩ | omega | exact ⟨by omega, by omega, by omega, by omega⟩ | exact Nat.le_of_ble_eq_true rfl) rfl ?_
                | refine r_ld tab_ok rfl rfl rfl rfl rfl ?_
                | refine r_idx tab_ok rfl rfl rfl rfl rfl rfl rfl (by first | exact ⟨by omega, by omega⟩ | (simp; omega)) rfl rfl ?_
                | refine r_st tab_ok rfl rfl rfl rfl ?_
                | refine r_build tab_ok rfl rfl rfl rfl rfl rfl ?_
                | refine r_built tab_ok rfl rfl rfl rfl rfl rfl rfl rfl rfl ?_
                | refine r_append tab_ok rfl rfl rfl rfl rfl rfl rfl rfl rfl (by first | omega | (simp; omega)) rfl ?_))
            refine ⟨⟨i + 1, by omega, hnx⟩, by dsimp only; omega, ?_⟩
            dsimp only
            rw [attrsL_succ, List.map_append, attrAt, hu, ← hgv]
            exact fits_conv (by repeat' first | exact trivial | exact rfl | (rw [List.map_append]; first | done | rfl) | exact c_sub rfl (Sub.refl _) rfl | exact c_nil rfl rfl | exact c_thaw rfl rfl rfl | exact c_row rfl rfl rfl | exact c_row rfl rfl (by rw [List.map_append]; first | done | rfl) | exact c_ptr rfl rfl rfl rfl | exact Or.inl ⟨c_sub rfl (Sub.refl _) rfl, c_ptr rfl rfl rfl rfl⟩ | exact c_alt rfl rfl rfl rfl | exact c_ro rfl rfl | exact c_eo rfl rfl | exact c_sub rfl (Sub.altl _ _) rfl | exact c_sub rfl (Sub.nil _) rfl | refine ⟨_, _, rfl, ?_, ?_⟩ | apply And.intro) (by repeat' first | exact trivial | exact rfl | (rw [List.map_append]; first | done | rfl) | exact c_sub rfl (Sub.refl _) rfl | exact c_nil rfl rfl | exact c_thaw rfl rfl rfl | exact c_row rfl rfl rfl | exact c_row rfl rfl (by rw [List.map_append]; first | done | rfl) | exact c_ptr rfl rfl rfl rfl | exact Or.inl ⟨c_sub rfl (Sub.refl _) rfl, c_ptr rfl rfl rfl rfl⟩ | exact c_alt rfl rfl rfl rfl | exact c_ro rfl rfl | exact c_eo rfl rfl | exact c_sub rfl (Sub.altl _ _) rfl | exact c_sub rfl (Sub.nil _) rfl | refine ⟨_, _, rfl, ?_, ?_⟩ | apply And.intro)
      · have hiv : i = values.length := by omega
        subst hiv
        have hg1 : (gsA values).length ≤ 1099511627776 := by show 1 ≤ 1099511627776; decide
        have ha1 : ∀ n ∈ gsA values, n.r.attrs.length ≤ 1099511627776 := fun n hn => by
          rw [List.mem_singleton.1 hn]
          dsimp only
          split <;> simp
        have hv1 : ∀ n, (attrF (gsA values) 0 n).1.size ≤ 1099511627776 := fun n => attrF_sz (fun m hm a ha => by
          rw [List.mem_singleton.1 hm] at ha
          dsimp only at ha
          split at ha
          · cases ha
          · rw [List.mem_singleton.1 ha]
            have := hsz 0 (by omega)
            dsimp only
            omega) 0 n
        have hN := new_ok [rowA values upper] (by show 1 ≤ 1099511627776; decide) (fun r hr => by
          rw [List.mem_singleton.1 hr]
          refine ⟨by show 1 ≤ 1099511627776; decide, by show (attrsL values upper values.length).length ≤ _; omega, fun a ha => ?_⟩
          obtain ⟨j, hj, rfl⟩ := List.mem_map.1 ha
          refine ⟨by show (if upper.getD j false then clU else clsS).size ≤ _; split <;> decide, ?_⟩
          have := hsz j (List.mem_range.1 hj)
          show (values.getD j emS).size ≤ _
          omega)
        rw [newA] at hN
        have hAc := attr_ok (gsA values) 0 clsS hg1 ha1
        have hAu := attr_ok (gsA values) 0 clU hg1 ha1
        have hNd := node_ok (gsA values) 0 hg1 ha1
        have hHs := hascls_ok (gsA values) 0 w hg1 ha1 hv1
        refine awp_fits (s' := ⟨[.box 26 [.val (.int .i64 (-1)), .val (.string ⟨#[97]⟩), .val (.string ⟨#[]⟩), .sl 2 ((attrsL values upper values.length).map atD)], .gone], [(0, .sl 1 (values.map sD)), (2, .val (.string w)), (8, .ptr 0 0)]⟩) (fits_conv (by repeat' first | exact trivial | exact rfl | (rw [List.map_append]; first | done | rfl) | exact c_sub rfl (Sub.refl _) rfl | exact c_nil rfl rfl | exact c_thaw rfl rfl rfl | exact c_row rfl rfl rfl | exact c_row rfl rfl (by rw [List.map_append]; first | done | rfl) | exact c_ptr rfl rfl rfl rfl | exact Or.inl ⟨c_sub rfl (Sub.refl _) rfl, c_ptr rfl rfl rfl rfl⟩ | exact c_alt rfl rfl rfl rfl | exact c_ro rfl rfl | exact c_eo rfl rfl | exact c_sub rfl (Sub.altl _ _) rfl | exact c_sub rfl (Sub.nil _) rfl | refine ⟨_, _, rfl, ?_, ?_⟩ | apply And.intro) (by repeat' first | exact trivial | exact rfl | (rw [List.map_append]; first | done | rfl) | exact c_sub rfl (Sub.refl _) rfl | exact c_nil rfl rfl | exact c_thaw rfl rfl rfl | exact c_row rfl rfl rfl | exact c_row rfl rfl (by rw [List.map_append]; first | done | rfl) | exact c_ptr rfl rfl rfl rfl | exact Or.inl ⟨c_sub rfl (Sub.refl _) rfl, c_ptr rfl rfl rfl rfl⟩ | exact c_alt rfl rfl rfl rfl | exact c_ro rfl rfl | exact c_eo rfl rfl | exact c_sub rfl (Sub.altl _ _) rfl | exact c_sub rfl (Sub.nil _) rfl | refine ⟨_, _, rfl, ?_, ?_⟩ | apply And.intro)) ?_
        repeat (first
          | refine awp_seq ?_
          | refine a_region ?_
          | refine awp_exit ?_
          | (refine r_id ?_; first
            | refine r_ld tab_ok rfl rfl rfl rfl rfl ?_
            | refine r_built tab_ok rfl rfl rfl rfl rfl rfl rfl rfl rfl ?_))
        refine r_call hN call10 rfl rfl ⟨Sub.refl _, trivial⟩ rfl rfl rfl rfl ?_
        repeat (first
          | refine awp_seq ?_
          | refine thenA_normal ?_
          | refine a_region ?_
          | refine awp_skip ?_
          | refine r_done ?_
          | (refine r_id ?_; first
            | refine r_ev tab_ok rfl rfl rfl rfl (by first | exact trivial | exact ⟨by omega, by omega⟩ | omega | exact ⟨by omega, by omega, by omega, by omega⟩ | exact Nat.le_of_ble_eq_true rfl) rfl ?_
            | refine r_ev_cnd tab_ok rfl rfl rfl rfl rfl rfl (by first | exact fun _ => rfl | exact cs1 | exact cs2 | exact cs3) (by first | exact fun _ => trivial | (intro h; simp at h; first | exact ⟨by omega, by omega⟩ | omega)) rfl ?_
            | refine r_or rfl rfl rfl rfl rfl rfl rfl rfl ?_)
          | refine awp_cond_f rfl ?_
          | refine r_by_cnd (fun _ => astep_eqnil_d underT rfl rfl rfl) rfl rfl rfl (by first | exact fun _ => rfl | exact cs1 | exact cs2 | exact cs3) rfl rfl rfl rfl ?_)
        refine r_call hAc call14 rfl rfl ⟨Sub.refl _, Sub.refl _, Sub.refl _, trivial⟩ rfl rfl rfl rfl ?_
        repeat (first
          | refine awp_seq ?_
          | refine a_region ?_
          | refine r_done ?_
          | (refine r_id ?_; first
            | refine r_ev tab_ok rfl rfl rfl rfl (by first | exact trivial | exact ⟨by omega, by omega⟩ | omega | exact ⟨by omega, by omega, by omega, by omega⟩ | exact Nat.le_of_ble_eq_true rfl) rfl ?_))
        refine r_call hNd call15 rfl rfl ⟨Sub.refl _, Sub.refl _, trivial⟩ rfl rfl rfl rfl ?_
        repeat (first
          | refine awp_seq ?_
          | refine a_region ?_
          | refine r_done ?_
          | (refine r_id ?_; first
            | refine r_ev tab_ok rfl rfl rfl rfl (by first | exact trivial | exact ⟨by omega, by omega⟩ | omega | exact ⟨by omega, by omega, by omega, by omega⟩ | exact Nat.le_of_ble_eq_true rfl) rfl ?_
            | refine r_wr tab_ok rfl rfl rfl rfl rfl ?_
            | refine r_st tab_ok rfl rfl rfl rfl ?_))
        refine r_call hAu call14 rfl rfl ⟨Sub.refl _, Sub.refl _, Sub.refl _, trivial⟩ rfl rfl rfl rfl ?_
        repeat (first
          | refine awp_seq ?_
          | refine thenA_normal ?_
          | refine a_region ?_
          | refine r_done ?_
          | (refine r_id ?_; first
            | refine r_len tab_ok rfl rfl rfl rfl rfl rfl rfl ?_
            | refine r_ev tab_ok rfl rfl rfl rfl (by first | exact trivial | exact ⟨by omega, by omega⟩ | omega | exact ⟨by omega, by omega, by omega, by omega⟩ | exact Nat.le_of_ble_eq_true rfl) rfl ?_))
        refine awp_cond_p rfl (fun h0 => ?_) (fun hne => ?_)
        · have h0 : values.length = 0 := by omega
          have hf : hasF (gsA values) 0 w = false := by
            rw [hasF, attrA0 h0]; rfl
          rw [hf] at hHs
          repeat (first
            | refine awp_seq ?_
            | refine a_region ?_
            | (refine r_id ?_; first
              | refine r_ev tab_ok rfl rfl rfl rfl (by first | exact trivial | exact ⟨by omega, by omega⟩ | omega | exact ⟨by omega, by omega, by omega, by omega⟩ | exact Nat.le_of_ble_eq_true rfl) rfl ?_
              | refine r_ev_cnd tab_ok rfl rfl rfl rfl rfl rfl (by first | exact fun _ => rfl | exact cs1 | exact cs2 | exact cs3) (by first | exact fun _ => trivial | (intro h; simp at h; first | exact ⟨by omega, by omega⟩ | omega)) rfl ?_))
          refine r_call_cnd (fun _ => hHs) call16 rfl rfl rfl rfl (by first | exact fun _ => rfl | exact cs1 | exact cs2 | exact cs3) ⟨Sub.refl _, Sub.refl _, Sub.refl _, trivial⟩ rfl rfl rfl rfl ?_
          repeat (first
            | (refine r_id ?_; first
              | refine r_ev tab_ok rfl rfl rfl rfl (by first | exact trivial | exact ⟨by omega, by omega⟩ | omega | exact ⟨by omega, by omega, by omega, by omega⟩ | exact Nat.le_of_ble_eq_true rfl) rfl ?_
              | refine r_ev_cnd tab_ok rfl rfl rfl rfl rfl rfl (by first | exact fun _ => rfl | exact cs1 | exact cs2 | exact cs3) (by first | exact fun _ => trivial | (intro h; simp at h; first | exact ⟨by omega, by omega⟩ | omega)) rfl ?_
              | refine r_and rfl rfl rfl rfl rfl rfl rfl rfl ?_))
          refine r_call_cnd (fun _ => awake_ok) call8 rfl rfl rfl rfl (by first | exact fun _ => rfl | exact cs1 | exact cs2 | exact cs3) trivial rfl rfl rfl rfl ?_
          repeat (first
            | refine thenA_normal ?_
            | refine awp_ret ?_
            | refine thenA_ret ?_
            | refine r_done ?_
            | (refine r_id ?_; first
              | refine r_ev tab_ok rfl rfl rfl rfl (by first | exact trivial | exact ⟨by omega, by omega⟩ | omega | exact ⟨by omega, by omega, by omega, by omega⟩ | exact Nat.le_of_ble_eq_true rfl) rfl ?_
              | refine r_and rfl rfl rfl rfl rfl rfl rfl rfl ?_)
            | refine ret1 (by first | exact .inl rfl | exact .inr rfl) rfl rfl rfl ?_)
          exact Sub.of_eq (by rw [attrA0 h0]; rfl)
        · have hne : values.length ≠ 0 := by omega
          have hv0 : 0 < values.length := by omega
          have hgv : values[0] = values.getD 0 emS := by rw [List.getD_eq_getElem?_getD, List.getElem?_eq_getElem hv0]; rfl
          have hvsz := hsz 0 hv0
          obtain ⟨v, hv⟩ : ∃ v, v = values.getD 0 emS := ⟨_, rfl⟩
          have hhas : hasF (gsA values) 0 w = (List.range (v.size + 2 - w.size)).any (condW (clean v) w) := by
            rw [hasF, attrA1 hne, ← hv]
            exact has_clean v w hw1.1 hbig
          rw [← hv] at hgv hvsz
          refine awp_fits (s' := ⟨[.box 26 [.val (.int .i64 (-1)), .val (.string ⟨#[97]⟩), .val (.string ⟨#[]⟩), .sl 2 ((attrsL values upper values.length).map atD)], .gone, .box 26 [.val (.int .i64 (-1)), .val (.string ⟨#[97]⟩), .val (.string ⟨#[]⟩), .sl 2 [atD ⟨clsS, v⟩]]],
            [(0, .sl 1 (values.map sD)), (2, .val (.string w)), (11, trA (gsA values)), (13, .val (.string v)), (14, .val (.bool true)), (15, .ptr 2 0), (18, .val (.bool false))]⟩) ?_ ?_
          · have hnd : nodeF (gsA values) 0 = ⟨-1, ⟨#[97]⟩, emS, [⟨clsS, v⟩]⟩ := by
              rw [nodeF, inA, if_pos rfl]
              show (⟨-1, ⟨#[97]⟩, emS, if values.length = 0 then [] else [⟨clsS, values.getD 0 emS⟩]⟩ : Rw) = _
              rw [if_neg hne, ← hv]
            rw [attrA1 hne, attrAU, hnd, ← hv]
            exact fits_of rfl (by repeat' first | exact trivial | exact Sub.refl _ | exact rfl | apply And.intro)
          have hcs : (clean v).size = v.size + 2 := by
            rw [clean, ByteArray.size_append, ByteArray.size_append]
            show 1 + v.size + 1 = _
            omega
          repeat (first
            | refine awp_seq ?_
            | refine a_region ?_
            | refine awp_skip ?_
            | (refine r_id ?_; first
              | refine r_ev tab_ok rfl rfl rfl rfl (by first | exact trivial | exact ⟨by omega, by omega⟩ | omega | exact ⟨by omega, by omega, by omega, by omega⟩ | exact Nat.le_of_ble_eq_true rfl) rfl ?_
              | refine r_idx tab_ok rfl rfl rfl rfl rfl rfl rfl (by first | exact ⟨by omega, by omega⟩ | (simp; omega)) rfl rfl ?_))
          have hgv' : ∀ h, values[Int.toNat 0]'h = v := fun _ => hgv
          rw [hgv']
          refine r_ev tab_ok rfl rfl rfl rfl (by show 1 + v.size ≤ _; omega) rfl ?_
          refine r_ev tab_ok rfl rfl rfl rfl (by show (⟨#[32]⟩ ++ v : ByteArray).size + 1 ≤ _; rw [ByteArray.size_append]; show 1 + v.size + 1 ≤ _; omega) rfl ?_
          repeat (first
            | refine awp_seq ?_
            | refine thenA_normal ?_
            | refine awp_block ?_
            | refine a_region ?_
            | refine r_done ?_
            | (refine r_id ?_; first
              | refine r_ev tab_ok rfl rfl rfl rfl (by first | exact trivial | exact ⟨by omega, by omega⟩ | omega | exact ⟨by omega, by omega, by omega, by omega⟩ | exact Nat.le_of_ble_eq_true rfl) rfl ?_))
          have hcl : (⟨#[32]⟩ ++ v ++ ⟨#[10]⟩ : ByteArray) = clean v := rfl
          rw [hcl]
          generalize clean v = s at hcs hhas ⊢
          have hss := str_size s
          refine a_loop (σ := {i : Nat // i ≤ v.size + 2 - w.size})
            (fun _ => [.box 26 [.val (.int .i64 (-1)), .val (.string ⟨#[97]⟩), .val (.string ⟨#[]⟩), .sl 2 ((attrsL values upper values.length).map atD)], .gone, .box 26 [.val (.int .i64 (-1)), .val (.string ⟨#[97]⟩), .val (.string ⟨#[]⟩), .sl 2 [atD ⟨clsS, v⟩]]])
            (fun x => [(0, .sl 1 (values.map sD)), (2, .val (.string w)), (11, trA (gsA values)), (13, .val (.string v)), (14, .val (.bool true)), (15, .ptr 2 0), (18, .val (.bool false)), (19, .val (.string s)), (20, .val (.bool ((List.range x.1).any (condW s w)))), (21, .val (.int .i64 x.1))])
            (fun x => v.size + 2 - w.size - x.1) ⟨0, Nat.zero_le _⟩ (fits_conv (by repeat' first | exact trivial | exact rfl | (rw [List.map_append]; first | done | rfl) | exact c_sub rfl (Sub.refl _) rfl | exact c_nil rfl rfl | exact c_thaw rfl rfl rfl | exact c_row rfl rfl rfl | exact c_row rfl rfl (by rw [List.map_append]; first | done | rfl) | exact c_ptr rfl rfl rfl rfl | exact Or.inl ⟨c_sub rfl (Sub.refl _) rfl, c_ptr rfl rfl rfl rfl⟩ | exact c_alt rfl rfl rfl rfl | exact c_ro rfl rfl | exact c_eo rfl rfl | exact c_sub rfl (Sub.altl _ _) rfl | exact c_sub rfl (Sub.nil _) rfl | refine ⟨_, _, rfl, ?_, ?_⟩ | apply And.intro) (by repeat' first | exact trivial | exact rfl | (rw [List.map_append]; first | done | rfl) | exact c_sub rfl (Sub.refl _) rfl | exact c_nil rfl rfl | exact c_thaw rfl rfl rfl | exact c_row rfl rfl rfl | exact c_row rfl rfl (by rw [List.map_append]; first | done | rfl) | exact c_ptr rfl rfl rfl rfl | exact Or.inl ⟨c_sub rfl (Sub.refl _) rfl, c_ptr rfl rfl rfl rfl⟩ | exact c_alt rfl rfl rfl rfl | exact c_ro rfl rfl | exact c_eo rfl rfl | exact c_sub rfl (Sub.altl _ _) rfl | exact c_sub rfl (Sub.nil _) rfl | refine ⟨_, _, rfl, ?_, ?_⟩ | apply And.intro)) ?_
          rintro ⟨i, hi⟩
          dsimp only
          repeat (first
            | refine awp_seq ?_
            | refine thenA_normal ?_
            | refine a_region ?_
            | refine r_done ?_
            | (refine r_id ?_; first
              | refine r_ev tab_ok rfl rfl rfl rfl (by first | exact trivial | exact ⟨by omega, by omega⟩ | omega | exact ⟨by omega, by omega, by omega, by omega⟩ | exact Nat.le_of_ble_eq_true rfl) rfl ?_))
          refine awp_cond_p rfl (fun hlt => ?_) (fun hge => ?_)
          · have hlt : i + w.size < v.size + 2 := by omega
            have hrs : (List.range (i + 1)).any (condW s w) = ((List.range i).any (condW s w) || condW s w i) := by
              rw [List.range_succ, List.any_append, List.any_cons, List.any_nil, Bool.or_false]
            repeat (first
              | refine awp_seq ?_
              | refine thenA_normal ?_
              | refine awp_block ?_
              | refine a_region ?_
              | refine awp_skip ?_
              | refine r_done ?_
              | (refine r_id ?_; first
                | refine r_ev tab_ok rfl rfl rfl rfl (by first | exact trivial | exact ⟨by omega, by omega⟩ | omega | exact ⟨by omega, by omega, by omega, by omega⟩ | exact Nat.le_of_ble_eq_true rfl) rfl ?_
                | refine r_ev_cnd tab_ok rfl rfl rfl rfl rfl rfl (by first | exact fun _ => rfl | exact cs1 | exact cs2 | exact cs3) (by first | exact fun _ => trivial | (intro h; simp at h; first | exact ⟨by omega, by omega⟩ | omega)) rfl ?_
                | refine r_or_cnd rfl rfl rfl rfl rfl rfl rfl rfl rfl rfl ?_
                | refine r_and rfl rfl rfl rfl rfl rfl rfl rfl ?_
                | refine r_scut_cnd tab_ok rfl rfl rfl rfl rfl rfl rfl rfl (by first | exact fun _ => rfl | exact cs1 | exact cs2 | exact cs3) rfl rfl (by intro h; simp at h ⊢; omega) rfl ?_))
            refine awp_cond rfl (fun hc => ?_) (fun hc => ?_)
            · have hcw : condW s w i = true := (condW_go s w i).symm.trans hc
              repeat (first
                | refine thenA_normal ?_
                | refine a_region ?_
                | refine r_done ?_
                | (refine r_id ?_; first
                  | refine r_ev tab_ok rfl rfl rfl rfl (by first | exact trivial | exact ⟨by omega, by omega⟩ | omega | exact ⟨by omega, by omega, by omega, by omega⟩ | exact Nat.le_of_ble_eq_true rfl) rfl ?_))
              exact ⟨⟨i + 1, by omega⟩, by dsimp only; omega, fits_of rfl ⟨Sub.refl _, Sub.refl _, Sub.refl _, Sub.refl _, Sub.refl _, Sub.refl _, Sub.refl _, Sub.refl _, Sub.of_eq (by rw [hrs, hcw, Bool.or_true]; rfl), Sub.refl _, trivial⟩⟩
            · have hcw : condW s w i = false := (condW_go s w i).symm.trans hc
              repeat (first
                | refine thenA_normal ?_
                | refine a_region ?_
                | refine awp_skip ?_
                | refine r_done ?_
                | (refine r_id ?_; first
                  | refine r_ev tab_ok rfl rfl rfl rfl (by first | exact trivial | exact ⟨by omega, by omega⟩ | omega | exact ⟨by omega, by omega, by omega, by omega⟩ | exact Nat.le_of_ble_eq_true rfl) rfl ?_))
              exact ⟨⟨i + 1, by omega⟩, by dsimp only; omega, fits_of rfl ⟨Sub.refl _, Sub.refl _, Sub.refl _, Sub.refl _, Sub.refl _, Sub.refl _, Sub.refl _, Sub.refl _, Sub.of_eq (by rw [hrs, hcw, Bool.or_false]; rfl), Sub.refl _, trivial⟩⟩
          · have hie : i = v.size + 2 - w.size := by omega
            subst hie
            rw [← hhas]
            repeat (first
              | refine awp_seq ?_
              | refine a_region ?_
              | refine awp_exit ?_
              | (refine r_id ?_; first
                | refine r_ev tab_ok rfl rfl rfl rfl (by first | exact trivial | exact ⟨by omega, by omega⟩ | omega | exact ⟨by omega, by omega, by omega, by omega⟩ | exact Nat.le_of_ble_eq_true rfl) rfl ?_
                | refine r_ev_cnd tab_ok rfl rfl rfl rfl rfl rfl (by first | exact fun _ => rfl | exact cs1 | exact cs2 | exact cs3) (by first | exact fun _ => trivial | (intro h; simp at h; first | exact ⟨by omega, by omega⟩ | omega)) rfl ?_
                | refine r_ld_cnd tab_ok rfl rfl rfl rfl rfl rfl (by first | exact fun _ => rfl | exact cs1 | exact cs2 | exact cs3) rfl ?_
                | refine r_idx_cnd tab_ok rfl rfl rfl rfl rfl rfl rfl (by first | exact fun _ => rfl | exact cs1 | exact cs2) rfl rfl (by exact ⟨by omega, by omega⟩) rfl rfl ?_
                | refine r_and rfl rfl rfl rfl rfl rfl rfl rfl ?_))
            refine r_call_cnd (fun _ => hHs) call16 rfl rfl rfl rfl (by first | exact fun _ => rfl | exact cs1 | exact cs2 | exact cs3) ⟨Sub.refl _, Sub.refl _, Sub.refl _, trivial⟩ rfl rfl rfl rfl ?_
            repeat (first
              | (refine r_id ?_; first
                | refine r_ev tab_ok rfl rfl rfl rfl (by first | exact trivial | exact ⟨by omega, by omega⟩ | omega | exact ⟨by omega, by omega, by omega, by omega⟩ | exact Nat.le_of_ble_eq_true rfl) rfl ?_
                | refine r_ev_cnd tab_ok rfl rfl rfl rfl rfl rfl (by first | exact fun _ => rfl | exact cs1 | exact cs2 | exact cs3) (by first | exact fun _ => trivial | (intro h; simp at h; first | exact ⟨by omega, by omega⟩ | omega)) rfl ?_
                | refine r_and rfl rfl rfl rfl rfl rfl rfl rfl ?_))
            refine r_call_cnd (fun _ => awake_ok) call8 rfl rfl rfl rfl (by first | exact fun _ => rfl | exact cs1 | exact cs2 | exact cs3) trivial rfl rfl rfl rfl ?_
            repeat (first
              | refine thenA_normal ?_
              | refine awp_ret ?_
              | refine r_done ?_
              | (refine r_id ?_; first
                | refine r_ev tab_ok rfl rfl rfl rfl (by first | exact trivial | exact ⟨by omega, by omega⟩ | omega | exact ⟨by omega, by omega, by omega, by omega⟩ | exact Nat.le_of_ble_eq_true rfl) rfl ?_
                | refine r_and rfl rfl rfl rfl rfl rfl rfl rfl ?_)
              | refine ret1 (by first | exact .inl rfl | exact .inr rfl) rfl rfl rfl ?_)
            exact Sub.of_eq (by rw [hgv']; simp)
end Go.Proofs.Ytklodolkgdmhoaa
