import Derived.Test.YtogjmafjoliimaaK4
/- The reader: whole numbers. -/
namespace Go.Proofs.Ytogjmafjoliimaa
open Go Go.RowKit

def intGo : List UInt8 → Int → Option Int
  | [], n => some n
  | b :: r, n => if b.toNat < 48 ∨ 57 < b.toNat then none else intGo r (min (n * 10 + ((b.toNat : Int) - 48)) 4294967296)
def intK (l : List UInt8) : Nat := if 0 < l.length ∧ ((l.getD 0 0).toNat = 43 ∨ (l.getD 0 0).toNat = 45) then 1 else 0
def intF (s : ByteArray) : Int :=
  if intK s.data.toList = s.data.toList.length then 0
  else match intGo (s.data.toList.drop (intK s.data.toList)) 0 with
    | none => 0
    | some n => if (s.data.toList.getD 0 0).toNat = 45 then max (-n) (-2147483648) else min n 2147483647
structure IS (l : List UInt8) (k : Nat) where
  i : Nat
  n : Int
  hi : i ≤ l.length
  hk : k ≤ i
  h0 : 0 ≤ n
  hn : n ≤ 4294967296
  eq : intGo (l.drop i) n = intGo (l.drop k) 0
theorem drop_byte {l : List UInt8} {i : Nat} (h : i < l.length) : l.drop i = l.getD i 0 :: l.drop (i + 1) := by
  rw [List.drop_eq_getElem_cons h]
  congr 1
  simp [List.getD_eq_getElem?_getD, h]
theorem intK_le (l : List UInt8) : intK l ≤ l.length := by
  unfold intK
  split <;> omega
theorem int_ok (s : ByteArray) (hs : s.size ≤ 8796093022208) : PCalls Try.prog 46 [.val (.string s)] (.val (.int .i64 (intF s))) := by
  refine p_start Try.func46 Try.ntmps46 rfl rfl rfl fun S w => ?_
  have hsz := str_size s
  have hkl := intK_le s.data.toList
  unfold intF
  generalize hK : intK s.data.toList = k at hkl ⊢
  repeat (first
    | refine awp_seq ?_
    | refine thenA_normal ?_
    | refine a_region ?_
    | refine r_done ?_
    | (refine r_id ?_; first
      | refine r_ev tab_ok rfl rfl rfl rfl (by first | exact trivial | exact ⟨by omega, by omega⟩ | omega | exact ⟨by omega, by omega, by omega, by omega⟩ | exact Nat.le_of_ble_eq_true rfl) rfl ?_
      | refine r_ev_cnd tab_ok rfl rfl rfl rfl rfl rfl (by first | exact fun _ => rfl | exact cs1 | exact cs2 | exact cs3) (by first | exact fun _ => trivial | (intro h; simp at h; first | exact ⟨by omega, by omega⟩ | omega)) rfl ?_
      | refine r_or_cnd rfl rfl rfl rfl rfl rfl rfl rfl rfl rfl ?_
      | refine r_and rfl rfl rfl rfl rfl rfl rfl rfl ?_))
  refine awp_cond rfl (fun h => ?_) (fun h => ?_)
  · have e : k = 1 := by
      rw [← hK, intK]
      refine if_pos ?_
      rw [show Int.toNat 0 = 0 from rfl] at h
      simp only [Bool.and_eq_true, Bool.or_eq_true, decide_eq_true_eq] at h
      omega
    refine a_region ?_
    repeat (first
      | refine awp_seq ?_
      | refine r_done ?_
      | (refine r_id ?_; first
        | refine r_ev tab_ok rfl rfl rfl rfl (by first | exact trivial | exact ⟨by omega, by omega⟩ | omega | exact ⟨by omega, by omega, by omega, by omega⟩ | exact Nat.le_of_ble_eq_true rfl) rfl ?_))
    refine awp_fits (s' := ⟨[], [(0, .val (.string s)), (3, .val (.int .i64 k))]⟩) (fits_conv (by repeat' first | exact trivial | exact rfl | (rw [List.map_append]; first | done | rfl) | exact c_sub rfl (Sub.refl _) rfl | exact c_nil rfl rfl | exact c_thaw rfl rfl rfl | exact c_row rfl rfl rfl | exact c_row rfl rfl (by rw [List.map_append]; first | done | rfl) | exact c_ptr rfl rfl rfl rfl | exact Or.inl ⟨c_sub rfl (Sub.refl _) rfl, c_ptr rfl rfl rfl rfl⟩ | exact c_alt rfl rfl rfl rfl | exact c_ro rfl rfl | exact c_eo rfl rfl | exact c_sub rfl (Sub.altl _ _) rfl | exact c_sub rfl (Sub.nil _) rfl | refine ⟨_, _, rfl, ?_, ?_⟩ | apply And.intro) ⟨c_sub rfl (Sub.refl _) rfl, c_sub rfl (Sub.of_eq (by rw [e]; rfl)) rfl, trivial⟩) ?_
    repeat (first
      | refine thenA_normal ?_
      | refine a_region ?_
      | refine r_done ?_
      | (refine r_id ?_; first
        | refine r_ev tab_ok rfl rfl rfl rfl (by first | exact trivial | exact ⟨by omega, by omega⟩ | omega | exact ⟨by omega, by omega, by omega, by omega⟩ | exact Nat.le_of_ble_eq_true rfl) rfl ?_))
    refine awp_cond_p rfl (fun hk => ?_) (fun hk => ?_)
    · rw [if_pos (by omega)]
      repeat (first
        | refine awp_seq ?_
        | refine thenA_normal ?_
        | refine a_region ?_
        | refine awp_ret ?_
        | refine thenA_ret ?_
        | refine r_done ?_
        | (refine r_id ?_; first
          | refine r_ev tab_ok rfl rfl rfl rfl (by first | exact trivial | exact ⟨by omega, by omega⟩ | omega | exact ⟨by omega, by omega, by omega, by omega⟩ | exact Nat.le_of_ble_eq_true rfl) rfl ?_)
        | refine ret1 (by first | exact .inl rfl | exact .inr rfl) rfl rfl rfl ?_)
      exact Sub.refl _
    rw [if_neg (by omega)]
    repeat (first
      | refine awp_seq ?_
      | refine thenA_normal ?_
      | refine awp_block ?_
      | refine a_region ?_
      | refine awp_skip ?_
      | refine r_done ?_
      | (refine r_id ?_; first
        | refine r_ev tab_ok rfl rfl rfl rfl (by first | exact trivial | exact ⟨by omega, by omega⟩ | omega | exact ⟨by omega, by omega, by omega, by omega⟩ | exact Nat.le_of_ble_eq_true rfl) rfl ?_))
    refine a_loop (σ := IS s.data.toList k) (fun _ => []) (fun x => [(0, .val (.string s)), (4, .val (.int .i64 x.n)), (5, .val (.int .i64 x.i))]) (fun x => s.size - x.i) ⟨k, 0, hkl, Nat.le_refl _, by omega, by omega, rfl⟩ (fits_conv (by repeat' first | exact trivial | exact rfl | (rw [List.map_append]; first | done | rfl) | exact c_sub rfl (Sub.refl _) rfl | exact c_nil rfl rfl | exact c_thaw rfl rfl rfl | exact c_row rfl rfl rfl | exact c_row rfl rfl (by rw [List.map_append]; first | done | rfl) | exact c_ptr rfl rfl rfl rfl | exact Or.inl ⟨c_sub rfl (Sub.refl _) rfl, c_ptr rfl rfl rfl rfl⟩ | exact c_alt rfl rfl rfl rfl | exact c_ro rfl rfl | exact c_eo rfl rfl | exact c_sub rfl (Sub.altl _ _) rfl | exact c_sub rfl (Sub.nil _) rfl | refine ⟨_, _, rfl, ?_, ?_⟩ | apply And.intro) (by repeat' first | exact trivial | exact rfl | (rw [List.map_append]; first | done | rfl) | exact c_sub rfl (Sub.refl _) rfl | exact c_nil rfl rfl | exact c_thaw rfl rfl rfl | exact c_row rfl rfl rfl | exact c_row rfl rfl (by rw [List.map_append]; first | done | rfl) | exact c_ptr rfl rfl rfl rfl | exact Or.inl ⟨c_sub rfl (Sub.refl _) rfl, c_ptr rfl rfl rfl rfl⟩ | exact c_alt rfl rfl rfl rfl | exact c_ro rfl rfl | exact c_eo rfl rfl | exact c_sub rfl (Sub.altl _ _) rfl | exact c_sub rfl (Sub.nil _) rfl | refine ⟨_, _, rfl, ?_, ?_⟩ | apply And.intro)) ?_
    rintro ⟨i, n, hi, hki, h0, hn, heq⟩
    dsimp only
    repeat (first
      | refine awp_seq ?_
      | refine thenA_normal ?_
      | refine a_region ?_
      | refine r_done ?_
      | (refine r_id ?_; first
        | refine r_ev tab_ok rfl rfl rfl rfl (by first | exact trivial | exact ⟨by omega, by omega⟩ | omega | exact ⟨by omega, by omega, by omega, by omega⟩ | exact Nat.le_of_ble_eq_true rfl) rfl ?_))
    refine awp_cond_p rfl (fun hlt => ?_) (fun hge => ?_)
    · have hlt' : i < s.data.toList.length := by omega
      rw [drop_byte hlt', intGo] at heq
      repeat (first
        | refine awp_seq ?_
        | refine thenA_normal ?_
        | refine awp_block ?_
        | refine a_region ?_
        | refine awp_skip ?_
        | refine r_done ?_
        | (refine r_id ?_; first
          | refine r_ev tab_ok rfl rfl rfl rfl (by first | exact trivial | exact ⟨by omega, by omega⟩ | omega | exact ⟨by omega, by omega, by omega, by omega⟩ | exact Nat.le_of_ble_eq_true rfl) rfl ?_
          | refine r_ev_cnd tab_ok rfl rfl rfl rfl rfl rfl (by first | exact fun _ => rfl | exact cs1 | exact cs2 | exact cs3) (by first | exact fun _ => trivial | (intro h; simp at h; first | exact ⟨by omega, by omega⟩ | omega)) rfl ?_
          | refine r_or rfl rfl rfl rfl rfl rfl rfl rfl ?_))
      simp only [Int.toNat_natCast]
      refine awp_cond rfl (fun hd => ?_) (fun hd => ?_)
      · have hd' : (s.data.toList.getD i 0).toNat < 48 ∨ 57 < (s.data.toList.getD i 0).toNat := by
          simp only [Bool.or_eq_true, decide_eq_true_eq] at hd
          omega
        rw [if_pos hd'] at heq
        rw [← heq]
        repeat (first
          | refine awp_seq ?_
          | refine thenA_normal ?_
          | refine a_region ?_
          | refine awp_ret ?_
          | refine thenA_ret ?_
          | refine blockA_ret ?_
          | refine r_done ?_
          | (refine r_id ?_; first
            | refine r_ev tab_ok rfl rfl rfl rfl (by first | exact trivial | exact ⟨by omega, by omega⟩ | omega | exact ⟨by omega, by omega, by omega, by omega⟩ | exact Nat.le_of_ble_eq_true rfl) rfl ?_)
          | refine ret1 (by first | exact .inl rfl | exact .inr rfl) rfl rfl rfl ?_)
        exact Sub.refl _
      · have hd' : ¬ ((s.data.toList.getD i 0).toNat < 48 ∨ 57 < (s.data.toList.getD i 0).toNat) := by
          simp only [Bool.or_eq_false_iff, decide_eq_false_iff_not] at hd
          omega
        rw [if_neg hd'] at heq
        have hb : 48 ≤ ((s.data.toList.getD (i : Int).toNat 0).toNat : Int) ∧ ((s.data.toList.getD (i : Int).toNat 0).toNat : Int) ≤ 57 := by simp only [Int.toNat_natCast]; omega
        repeat (first
          | refine thenA_normal ?_
          | refine a_region ?_
          | refine awp_skip ?_
          | refine r_done ?_
          | (refine r_id ?_; first
            | refine r_ev tab_ok rfl rfl rfl rfl (by first | exact trivial | exact ⟨by omega, by omega⟩ | omega | exact ⟨by omega, by omega, by omega, by omega⟩ | exact Nat.le_of_ble_eq_true rfl) rfl ?_))
        exact ⟨⟨i + 1, _, hlt', by omega, by omega, by omega, heq⟩, by dsimp only; omega, fits_conv (by repeat' first | exact trivial | exact rfl | (rw [List.map_append]; first | done | rfl) | exact c_sub rfl (Sub.refl _) rfl | exact c_nil rfl rfl | exact c_thaw rfl rfl rfl | exact c_row rfl rfl rfl | exact c_row rfl rfl (by rw [List.map_append]; first | done | rfl) | exact c_ptr rfl rfl rfl rfl | exact Or.inl ⟨c_sub rfl (Sub.refl _) rfl, c_ptr rfl rfl rfl rfl⟩ | exact c_alt rfl rfl rfl rfl | exact c_ro rfl rfl | exact c_eo rfl rfl | exact c_sub rfl (Sub.altl _ _) rfl | exact c_sub rfl (Sub.nil _) rfl | refine ⟨_, _, rfl, ?_, ?_⟩ | apply And.intro) (by repeat' first | exact trivial | exact rfl | (rw [List.map_append]; first | done | rfl) | exact c_sub rfl (Sub.refl _) rfl | exact c_nil rfl rfl | exact c_thaw rfl rfl rfl | exact c_row rfl rfl rfl | exact c_row rfl rfl (by rw [List.map_append]; first | done | rfl) | exact c_ptr rfl rfl rfl rfl | exact Or.inl ⟨c_sub rfl (Sub.refl _) rfl, c_ptr rfl rfl rfl rfl⟩ | exact c_alt rfl rfl rfl rfl | exact c_ro rfl rfl | exact c_eo rfl rfl | exact c_sub rfl (Sub.altl _ _) rfl | exact c_sub rfl (Sub.nil _) rfl | refine ⟨_, _, rfl, ?_, ?_⟩ | apply And.intro)⟩
    · have ei : i = s.data.toList.length := by omega
      rw [ei, List.drop_length, intGo] at heq
      rw [← heq]
      have hpos : 0 < s.data.toList.length := by omega
      repeat (first
        | refine awp_seq ?_
        | refine thenA_normal ?_
        | refine a_region ?_
        | refine awp_exit ?_
        | refine r_done ?_
        | (refine r_id ?_; first
          | refine r_ev tab_ok rfl rfl rfl rfl (by first | exact trivial | exact ⟨by omega, by omega⟩ | omega | exact ⟨by omega, by omega, by omega, by omega⟩ | exact Nat.le_of_ble_eq_true rfl) rfl ?_))
      refine awp_cond_p rfl (fun hm => ?_) (fun hm => ?_)
      · rw [show Int.toNat 0 = 0 from rfl] at hm
        dsimp only
        rw [if_pos (by omega)]
        repeat (first
          | refine awp_seq ?_
          | refine thenA_normal ?_
          | refine a_region ?_
          | refine awp_ret ?_
          | refine thenA_ret ?_
          | refine r_done ?_
          | (refine r_id ?_; first
            | refine r_ev tab_ok rfl rfl rfl rfl (by first | exact trivial | exact ⟨by omega, by omega⟩ | omega | exact ⟨by omega, by omega, by omega, by omega⟩ | exact Nat.le_of_ble_eq_true rfl) rfl ?_)
          | refine ret1 (by first | exact .inl rfl | exact .inr rfl) rfl rfl rfl ?_)
        exact Sub.of_eq (by congr 2)
      · rw [show Int.toNat 0 = 0 from rfl] at hm
        dsimp only
        rw [if_neg (by omega)]
        repeat (first
          | refine awp_seq ?_
          | refine thenA_normal ?_
          | refine a_region ?_
          | refine awp_ret ?_
          | refine awp_skip ?_
          | refine r_done ?_
          | (refine r_id ?_; first
            | refine r_ev tab_ok rfl rfl rfl rfl (by first | exact trivial | exact ⟨by omega, by omega⟩ | omega | exact ⟨by omega, by omega, by omega, by omega⟩ | exact Nat.le_of_ble_eq_true rfl) rfl ?_)
          | refine ret1 (by first | exact .inl rfl | exact .inr rfl) rfl rfl rfl ?_)
        exact Sub.of_eq (by congr 2)
  · have e : k = 0 := by
      rw [← hK, intK]
      refine if_neg ?_
      rw [show Int.toNat 0 = 0 from rfl] at h
      simp only [Bool.and_eq_false_iff, Bool.or_eq_false_iff, decide_eq_false_iff_not] at h
      omega
    repeat (first
      | refine awp_seq ?_
      | refine awp_skip ?_)
    refine awp_fits (s' := ⟨[], [(0, .val (.string s)), (3, .val (.int .i64 k))]⟩) (fits_conv (by repeat' first | exact trivial | exact rfl | (rw [List.map_append]; first | done | rfl) | exact c_sub rfl (Sub.refl _) rfl | exact c_nil rfl rfl | exact c_thaw rfl rfl rfl | exact c_row rfl rfl rfl | exact c_row rfl rfl (by rw [List.map_append]; first | done | rfl) | exact c_ptr rfl rfl rfl rfl | exact Or.inl ⟨c_sub rfl (Sub.refl _) rfl, c_ptr rfl rfl rfl rfl⟩ | exact c_alt rfl rfl rfl rfl | exact c_ro rfl rfl | exact c_eo rfl rfl | exact c_sub rfl (Sub.altl _ _) rfl | exact c_sub rfl (Sub.nil _) rfl | refine ⟨_, _, rfl, ?_, ?_⟩ | apply And.intro) ⟨c_sub rfl (Sub.refl _) rfl, c_sub rfl (Sub.of_eq (by rw [e]; rfl)) rfl, trivial⟩) ?_
    repeat (first
      | refine thenA_normal ?_
      | refine a_region ?_
      | refine r_done ?_
      | (refine r_id ?_; first
        | refine r_ev tab_ok rfl rfl rfl rfl (by first | exact trivial | exact ⟨by omega, by omega⟩ | omega | exact ⟨by omega, by omega, by omega, by omega⟩ | exact Nat.le_of_ble_eq_true rfl) rfl ?_))
    refine awp_cond_p rfl (fun hk => ?_) (fun hk => ?_)
    · rw [if_pos (by omega)]
      repeat (first
        | refine awp_seq ?_
        | refine thenA_normal ?_
        | refine a_region ?_
        | refine awp_ret ?_
        | refine thenA_ret ?_
        | refine r_done ?_
        | (refine r_id ?_; first
          | refine r_ev tab_ok rfl rfl rfl rfl (by first | exact trivial | exact ⟨by omega, by omega⟩ | omega | exact ⟨by omega, by omega, by omega, by omega⟩ | exact Nat.le_of_ble_eq_true rfl) rfl ?_)
        | refine ret1 (by first | exact .inl rfl | exact .inr rfl) rfl rfl rfl ?_)
      exact Sub.refl _
    rw [if_neg (by omega)]
    repeat (first
      | refine awp_seq ?_
      | refine thenA_normal ?_
      | refine awp_block ?_
      | refine a_region ?_
      | refine awp_skip ?_
      | refine r_done ?_
      | (refine r_id ?_; first
        | refine r_ev tab_ok rfl rfl rfl rfl (by first | exact trivial | exact ⟨by omega, by omega⟩ | omega | exact ⟨by omega, by omega, by omega, by omega⟩ | exact Nat.le_of_ble_eq_true rfl) rfl ?_))
    refine a_loop (σ := IS s.data.toList k) (fun _ => []) (fun x => [(0, .val (.string s)), (4, .val (.int .i64 x.n)), (5, .val (.int .i64 x.i))]) (fun x => s.size - x.i) ⟨k, 0, hkl, Nat.le_refl _, by omega, by omega, rfl⟩ (fits_conv (by repeat' first | exact trivial | exact rfl | (rw [List.map_append]; first | done | rfl) | exact c_sub rfl (Sub.refl _) rfl | exact c_nil rfl rfl | exact c_thaw rfl rfl rfl | exact c_row rfl rfl rfl | exact c_row rfl rfl (by rw [List.map_append]; first | done | rfl) | exact c_ptr rfl rfl rfl rfl | exact Or.inl ⟨c_sub rfl (Sub.refl _) rfl, c_ptr rfl rfl rfl rfl⟩ | exact c_alt rfl rfl rfl rfl | exact c_ro rfl rfl | exact c_eo rfl rfl | exact c_sub rfl (Sub.altl _ _) rfl | exact c_sub rfl (Sub.nil _) rfl | refine ⟨_, _, rfl, ?_, ?_⟩ | apply And.intro) (by repeat' first | exact trivial | exact rfl | (rw [List.map_append]; first | done | rfl) | exact c_sub rfl (Sub.refl _) rfl | exact c_nil rfl rfl | exact c_thaw rfl rfl rfl | exact c_row rfl rfl rfl | exact c_row rfl rfl (by rw [List.map_append]; first | done | rfl) | exact c_ptr rfl rfl rfl rfl | exact Or.inl ⟨c_sub rfl (Sub.refl _) rfl, c_ptr rfl rfl rfl rfl⟩ | exact c_alt rfl rfl rfl rfl | exact c_ro rfl rfl | exact c_eo rfl rfl | exact c_sub rfl (Sub.altl _ _) rfl | exact c_sub rfl (Sub.nil _) rfl | refine ⟨_, _, rfl, ?_, ?_⟩ | apply And.intro)) ?_
    rintro ⟨i, n, hi, hki, h0, hn, heq⟩
    dsimp only
    repeat (first
      | refine awp_seq ?_
      | refine thenA_normal ?_
      | refine a_region ?_
      | refine r_done ?_
      | (refine r_id ?_; first
        | refine r_ev tab_ok rfl rfl rfl rfl (by first | exact trivial | exact ⟨by omega, by omega⟩ | omega | exact ⟨by omega, by omega, by omega, by omega⟩ | exact Nat.le_of_ble_eq_true rfl) rfl ?_))
    refine awp_cond_p rfl (fun hlt => ?_) (fun hge => ?_)
    · have hlt' : i < s.data.toList.length := by omega
      rw [drop_byte hlt', intGo] at heq
      repeat (first
        | refine awp_seq ?_
        | refine thenA_normal ?_
        | refine awp_block ?_
        | refine a_region ?_
        | refine awp_skip ?_
        | refine r_done ?_
        | (refine r_id ?_; first
          | refine r_ev tab_ok rfl rfl rfl rfl (by first | exact trivial | exact ⟨by omega, by omega⟩ | omega | exact ⟨by omega, by omega, by omega, by omega⟩ | exact Nat.le_of_ble_eq_true rfl) rfl ?_
          | refine r_ev_cnd tab_ok rfl rfl rfl rfl rfl rfl (by first | exact fun _ => rfl | exact cs1 | exact cs2 | exact cs3) (by first | exact fun _ => trivial | (intro h; simp at h; first | exact ⟨by omega, by omega⟩ | omega)) rfl ?_
          | refine r_or rfl rfl rfl rfl rfl rfl rfl rfl ?_))
      simp only [Int.toNat_natCast]
      refine awp_cond rfl (fun hd => ?_) (fun hd => ?_)
      · have hd' : (s.data.toList.getD i 0).toNat < 48 ∨ 57 < (s.data.toList.getD i 0).toNat := by
          simp only [Bool.or_eq_true, decide_eq_true_eq] at hd
          omega
        rw [if_pos hd'] at heq
        rw [← heq]
        repeat (first
          | refine awp_seq ?_
          | refine thenA_normal ?_
          | refine a_region ?_
          | refine awp_ret ?_
          | refine thenA_ret ?_
          | refine blockA_ret ?_
          | refine r_done ?_
          | (refine r_id ?_; first
            | refine r_ev tab_ok rfl rfl rfl rfl (by first | exact trivial | exact ⟨by omega, by omega⟩ | omega | exact ⟨by omega, by omega, by omega, by omega⟩ | exact Nat.le_of_ble_eq_true rfl) rfl ?_)
          | refine ret1 (by first | exact .inl rfl | exact .inr rfl) rfl rfl rfl ?_)
        exact Sub.refl _
      · have hd' : ¬ ((s.data.toList.getD i 0).toNat < 48 ∨ 57 < (s.data.toList.getD i 0).toNat) := by
          simp only [Bool.or_eq_false_iff, decide_eq_false_iff_not] at hd
          omega
        rw [if_neg hd'] at heq
        have hb : 48 ≤ ((s.data.toList.getD (i : Int).toNat 0).toNat : Int) ∧ ((s.data.toList.getD (i : Int).toNat 0).toNat : Int) ≤ 57 := by simp only [Int.toNat_natCast]; omega
        repeat (first
          | refine thenA_normal ?_
          | refine a_region ?_
          | refine awp_skip ?_
          | refine r_done ?_
          | (refine r_id ?_; first
            | refine r_ev tab_ok rfl rfl rfl rfl (by first | exact trivial | exact ⟨by omega, by omega⟩ | omega | exact ⟨by omega, by omega, by omega, by omega⟩ | exact Nat.le_of_ble_eq_true rfl) rfl ?_))
        exact ⟨⟨i + 1, _, hlt', by omega, by omega, by omega, heq⟩, by dsimp only; omega, fits_conv (by repeat' first | exact trivial | exact rfl | (rw [List.map_append]; first | done | rfl) | exact c_sub rfl (Sub.refl _) rfl | exact c_nil rfl rfl | exact c_thaw rfl rfl rfl | exact c_row rfl rfl rfl | exact c_row rfl rfl (by rw [List.map_append]; first | done | rfl) | exact c_ptr rfl rfl rfl rfl | exact Or.inl ⟨c_sub rfl (Sub.refl _) rfl, c_ptr rfl rfl rfl rfl⟩ | exact c_alt rfl rfl rfl rfl | exact c_ro rfl rfl | exact c_eo rfl rfl | exact c_sub rfl (Sub.altl _ _) rfl | exact c_sub rfl (Sub.nil _) rfl | refine ⟨_, _, rfl, ?_, ?_⟩ | apply And.intro) (by repeat' first | exact trivial | exact rfl | (rw [List.map_append]; first | done | rfl) | exact c_sub rfl (Sub.refl _) rfl | exact c_nil rfl rfl | exact c_thaw rfl rfl rfl | exact c_row rfl rfl rfl | exact c_row rfl rfl (by rw [List.map_append]; first | done | rfl) | exact c_ptr rfl rfl rfl rfl | exact Or.inl ⟨c_sub rfl (Sub.refl _) rfl, c_ptr rfl rfl rfl rfl⟩ | exact c_alt rfl rfl rfl rfl | exact c_ro rfl rfl | exact c_eo rfl rfl | exact c_sub rfl (Sub.altl _ _) rfl | exact c_sub rfl (Sub.nil _) rfl | refine ⟨_, _, rfl, ?_, ?_⟩ | apply And.intro)⟩
    · have ei : i = s.data.toList.length := by omega
      rw [ei, List.drop_length, intGo] at heq
      rw [← heq]
      have hpos : 0 < s.data.toList.length := by omega
      repeat (first
        | refine awp_seq ?_
        | refine thenA_normal ?_
        | refine a_region ?_
        | refine awp_exit ?_
        | refine r_done ?_
        | (refine r_id ?_; first
          | refine r_ev tab_ok rfl rfl rfl rfl (by first | exact trivial | exact ⟨by omega, by omega⟩ | omega | exact ⟨by omega, by omega, by omega, by omega⟩ | exact Nat.le_of_ble_eq_true rfl) rfl ?_))
      refine awp_cond_p rfl (fun hm => ?_) (fun hm => ?_)
      · rw [show Int.toNat 0 = 0 from rfl] at hm
        dsimp only
        rw [if_pos (by omega)]
        repeat (first
          | refine awp_seq ?_
          | refine thenA_normal ?_
          | refine a_region ?_
          | refine awp_ret ?_
          | refine thenA_ret ?_
          | refine r_done ?_
          | (refine r_id ?_; first
            | refine r_ev tab_ok rfl rfl rfl rfl (by first | exact trivial | exact ⟨by omega, by omega⟩ | omega | exact ⟨by omega, by omega, by omega, by omega⟩ | exact Nat.le_of_ble_eq_true rfl) rfl ?_)
          | refine ret1 (by first | exact .inl rfl | exact .inr rfl) rfl rfl rfl ?_)
        exact Sub.of_eq (by congr 2)
      · rw [show Int.toNat 0 = 0 from rfl] at hm
        dsimp only
        rw [if_neg (by omega)]
        repeat (first
          | refine awp_seq ?_
          | refine thenA_normal ?_
          | refine a_region ?_
          | refine awp_ret ?_
          | refine awp_skip ?_
          | refine r_done ?_
          | (refine r_id ?_; first
            | refine r_ev tab_ok rfl rfl rfl rfl (by first | exact trivial | exact ⟨by omega, by omega⟩ | omega | exact ⟨by omega, by omega, by omega, by omega⟩ | exact Nat.le_of_ble_eq_true rfl) rfl ?_)
          | refine ret1 (by first | exact .inl rfl | exact .inr rfl) rfl rfl rfl ?_)
        exact Sub.of_eq (by congr 2)
end Go.Proofs.Ytogjmafjoliimaa

/- The reader: numbers. -/
namespace Go.Proofs.Ytogjmafjoliimaa
open Go Go.RowKit

section
variable {cx : Cx} {s : AS} {Q : Exit → AS → Prop}
/-- A part that ends, whichever way it goes, in one state. -/
theorem awp_cut (s' : AS) {c b : Code} (h1 : AWp cx c s (fun e s'' => e = .normal ∧ Fits cx s'' s')) (h2 : AWp cx b s' Q) : AWp cx c s (thenA (fun s'' => AWp cx b s'' Q) Q) :=
  awp_mono h1 fun e s'' h => by
    obtain ⟨rfl, h⟩ := h
    exact thenA_normal (awp_fits h h2)
end
structure Tk where
  kind : Int
  text : ByteArray
  int : Int
  whole : Bool
  sign : Bool
  id : Bool
def tcl (t : Tk) : List AV := [.val (.int .i64 t.kind), .val (.string t.text), .val (.int .i64 t.int), .val (.bool t.whole), .val (.bool t.sign), .val (.bool t.id)]
def tA (t : Tk) : AV := .agg (tcl t)
def tD (t : Tk) : D := .ag [.val (.int .i64 t.kind), .val (.string t.text), .val (.int .i64 t.int), .val (.bool t.whole), .val (.bool t.sign), .val (.bool t.id)]
def tB (t : Tk) : AB := .box 34 (tcl t)
def tk0 : Tk := ⟨0, ⟨#[]⟩, 0, false, false, false⟩

theorem digEnd_le (L : List Int) {i : Nat} (h : i ≤ L.length) : i ≤ digEnd L i ∧ digEnd L i ≤ L.length := by
  obtain ⟨r, j, h1, h2, h3, h4, _⟩ := goAt_end (digStep_goes L) L.length i h (by omega)
  have : r = j := by
    unfold digStep at h4
    split at h4
    · cases h4
    · cases h4; rfl
  rw [digEnd, h1, this]
  exact ⟨h2, h3⟩
theorem digAt_len (L : List Int) {i : Nat} (h : i ≤ L.length) : (digAt L i).length ≤ L.length := by
  obtain ⟨r, j, h1, h2, h3, h4, h5⟩ := goAt_end (digStep_goes L) L.length i h (by omega)
  rw [digAt]
  omega
theorem nameEnd_le (L : List Int) {i : Nat} (h : i ≤ L.length) : i ≤ nameEnd L i ∧ nameEnd L i ≤ L.length := by
  obtain ⟨r, j, h1, h2, h3, h4, _⟩ := goAt_end (nameStep_goes L) L.length i h (by omega)
  have : r = j := by
    unfold nameStep at h4
    split at h4
    · cases h4
    · split at h4
      · cases h4
      · cases h4; rfl
  rw [nameEnd, h1, this]
  exact ⟨h2, h3⟩
theorem nameAt_len (L : List Int) {i : Nat} (h : i ≤ L.length) : (nameAt L i).length ≤ L.length := by
  obtain ⟨r, j, h1, h2, h3, h4, h5⟩ := goAt_end (nameStep_goes L) L.length i h (by omega)
  rw [nameAt]
  omega

def nS (L : List Int) (i : Nat) : Bool := decide (sg L i = 43) || decide (sg L i = 45)
def n1 (L : List Int) (i : Nat) : Nat := if nS L i = true then i + 1 else i
def nT1 (L : List Int) (i : Nat) : List Int := if nS L i = true then [sg L i] else []
def nT (L : List Int) (i : Nat) : List Int := nT1 L i ++ digAt L (n1 L i)
def n2 (L : List Int) (i : Nat) : Nat := digEnd L (n1 L i)
def nDot (L : List Int) (j : Nat) : Bool := decide (sg L j = 46) && digF (sg L (j + 1))
def n3 (L : List Int) (j : Nat) : Nat := if nDot L j = true then digEnd L (j + 1) else j
def nE (L : List Int) (j : Nat) : Bool := decide (sg L j = 101) || decide (sg L j = 69)
def nEs (L : List Int) (j : Nat) : Bool := decide (sg L (j + 1) = 43) || decide (sg L (j + 1) = 45)
def nK (L : List Int) (j : Nat) : Nat := if nEs L j = true then 2 else 1
def nEx (L : List Int) (j : Nat) : Bool := nE L j && digF (sg L (j + nK L j))
def n4 (L : List Int) (j : Nat) : Nat := if nEx L j = true then digEnd L (j + nK L j) else j
theorem dig_in {L : List Int} {i : Nat} (h : digF (sg L i) = true) : i < L.length := sg_in (by intro h'; rw [h'] at h; cases h)
theorem n1_le (L : List Int) {i : Nat} (h : i ≤ L.length) : i ≤ n1 L i ∧ n1 L i ≤ L.length := by
  unfold n1
  split
  · rename_i hs
    have : i < L.length := sg_in (by intro h'; rw [nS, h'] at hs; cases hs)
    omega
  · omega
theorem n2_le (L : List Int) {i : Nat} (h : i ≤ L.length) : i ≤ n2 L i ∧ n2 L i ≤ L.length := by
  have h1 := n1_le L h
  have := digEnd_le L h1.2
  unfold n2
  omega
theorem nDot_in {L : List Int} {j : Nat} (h : nDot L j = true) : j + 1 < L.length := by
  rw [nDot, Bool.and_eq_true] at h
  exact dig_in (i := j + 1) h.2
theorem n3_le (L : List Int) {j : Nat} (h : j ≤ L.length) : j ≤ n3 L j ∧ n3 L j ≤ L.length := by
  unfold n3
  split
  · rename_i hs
    have h1 := nDot_in hs
    have := digEnd_le L (i := j + 1) (by omega)
    omega
  · omega
theorem nEx_in {L : List Int} {j : Nat} (h : digF (sg L (j + nK L j)) = true) : j + nK L j < L.length := dig_in (i := j + nK L j) h
theorem n4_le (L : List Int) {j : Nat} (h : j ≤ L.length) : j ≤ n4 L j ∧ n4 L j ≤ L.length := by
  unfold n4
  split
  · rename_i hs
    rw [nEx, Bool.and_eq_true] at hs
    have h1 := nEx_in hs.2
    have := digEnd_le L (i := j + nK L j) (by omega)
    omega
  · omega
def nW (L : List Int) (i : Nat) : Bool := !nDot L (n2 L i) && !nEx L (n3 L (n2 L i))
def nP (L : List Int) (i : Nat) : Nat := n4 L (n3 L (n2 L i))
def nTk (L : List Int) (i : Nat) : Tk := ⟨10, ⟨#[]⟩, if nW L i = true then intF (runesBytes (nT L i)) else 0, nW L i, nS L i, false⟩
def numF (L : List Int) (i : Nat) : Tk × Nat :=
  if namesF L (nP L i) = true then ({ nTk L i with kind := 12, text := runesBytes (nameAt L (nP L i)) }, nameEnd L (nP L i))
  else if sg L (nP L i) = 37 then ({ nTk L i with kind := 11 }, nP L i + 1) else (nTk L i, nP L i)
set_option maxHeartbeats 4000000 in
theorem number_ok (L : List Int) (i : Nat) (hL : L.length ≤ 1099511627776) (hi : i ≤ L.length) : MCalls Try.prog 40 [rdB L i] [.ptr 0 0] [rdB L (numF L i).2] (tA (numF L i).1) := by
  refine m_start Try.func40 Try.ntmps40 rfl rfl rfl fun S w β => ?_
  have h1 := n1_le L hi
  have h2 := n2_le L hi
  have h3 := n3_le L h2.2
  have h4 := n4_le L h3.2
  have h2' := digEnd_le L h1.2
  have hz1 := runesBytes_size_le (nT1 L i)
  have hz1' : (nT1 L i).length ≤ 1 := by unfold nT1; split <;> simp
  have hz2 := runesBytes_size_le (digAt L (n1 L i))
  have hz2' := digAt_len L h1.2
  repeat (first
    | refine awp_seq ?_
    | refine thenA_normal ?_
    | refine a_region ?_
    | refine r_done ?_
    | (refine r_id ?_; first
      | refine r_ev tab_ok rfl rfl rfl rfl (by first | exact trivial | exact ⟨by omega, by omega⟩ | omega | exact ⟨by omega, by omega, by omega, by omega⟩ | exact Nat.le_of_ble_eq_true rfl) rfl ?_
      | refine r_wr tab_ok rfl rfl rfl rfl rfl ?_
      | refine r_ev_cnd tab_ok rfl rfl rfl rfl rfl rfl (by first | exact fun _ => rfl | exact cs1 | exact cs2 | exact cs3) (by first | exact fun _ => trivial | (intro h; simp at h; first | exact ⟨by omega, by omega⟩ | omega)) rfl ?_
      | refine r_or rfl rfl rfl rfl rfl rfl rfl rfl ?_)
    | refine r_mro [0] (sign_ok _ _ _ hL (by omega) (by omega)) call28 rfl rfl ⟨rfl, trivial⟩ (by decide) ⟨Sub.refl _, Sub.refl _, trivial⟩ rfl rfl rfl rfl rfl rfl ?_
    | refine r_mro_cnd [0] (fun _ => sign_ok _ _ _ hL (by omega) (by omega)) call28 rfl rfl rfl rfl (by first | exact fun _ => rfl | exact cs1 | exact cs2 | exact cs3) ⟨rfl, trivial⟩ (by decide) ⟨Sub.refl _, Sub.refl _, trivial⟩ rfl rfl rfl rfl rfl rfl ?_)
  rw [Int.add_zero]
  refine awp_cut ⟨[rdB L (n1 L i), tB tk0], [(0, .ptr 0 0), (2, .ptr 1 0), (3, .val (.string (runesBytes (nT1 L i)))), (4, .val (.bool (nS L i)))]⟩ ?_ ?_
  · refine awp_cond rfl (fun h => ?_) (fun h => ?_)
    · have hs : nS L i = true := h
      rw [n1, nT1, if_pos hs, if_pos hs]
      repeat (first
        | refine awp_seq ?_
        | refine thenA_normal ?_
        | refine a_region ?_
        | refine r_done ?_
        | (refine r_id ?_; first
          | refine r_ev tab_ok rfl rfl rfl rfl (by first | exact trivial | exact ⟨by omega, by omega⟩ | omega | exact ⟨by omega, by omega, by omega, by omega⟩ | exact Nat.le_of_ble_eq_true rfl) rfl ?_
          | refine r_ld tab_ok rfl rfl rfl rfl rfl ?_
          | refine r_st tab_ok rfl rfl rfl rfl ?_
          | refine r_nilck rfl rfl rfl rfl rfl rfl rfl ?_)
        | refine r_mro [0] (sign_ok _ _ _ hL (by omega) (by omega)) call28 rfl rfl ⟨rfl, trivial⟩ (by decide) ⟨Sub.refl _, Sub.refl _, trivial⟩ rfl rfl rfl rfl rfl rfl ?_
        | refine r_call (refPut _) call31 rfl rfl ⟨Sub.refl _, trivial⟩ rfl rfl rfl rfl ?_)
      rw [Int.add_zero]
      exact ⟨rfl, fits_convM (by repeat' first | exact trivial | exact rfl | (rw [List.map_append]; first | done | rfl) | exact c_sub rfl (Sub.refl _) rfl | exact c_nil rfl rfl | exact c_thaw rfl rfl rfl | exact c_row rfl rfl rfl | exact c_row rfl rfl (by rw [List.map_append]; first | done | rfl) | exact c_ptr rfl rfl rfl rfl | exact Or.inl ⟨c_sub rfl (Sub.refl _) rfl, c_ptr rfl rfl rfl rfl⟩ | exact c_alt rfl rfl rfl rfl | exact c_ro rfl rfl | exact c_eo rfl rfl | exact c_sub rfl (Sub.altl _ _) rfl | exact c_sub rfl (Sub.nil _) rfl | refine ⟨_, _, rfl, ?_, ?_⟩ | apply And.intro) (by repeat' first | exact trivial | exact rfl | (rw [List.map_append]; first | done | rfl) | exact c_sub rfl (Sub.refl _) rfl | exact c_nil rfl rfl | exact c_thaw rfl rfl rfl | exact c_row rfl rfl rfl | exact c_row rfl rfl (by rw [List.map_append]; first | done | rfl) | exact c_ptr rfl rfl rfl rfl | exact Or.inl ⟨c_sub rfl (Sub.refl _) rfl, c_ptr rfl rfl rfl rfl⟩ | exact c_alt rfl rfl rfl rfl | exact c_ro rfl rfl | exact c_eo rfl rfl | exact c_sub rfl (Sub.altl _ _) rfl | exact c_sub rfl (Sub.nil _) rfl | refine ⟨_, _, rfl, ?_, ?_⟩ | apply And.intro) ⟨trivial, trivial⟩⟩
    · have hs : ¬ nS L i = true := by rw [show nS L i = false from h]; decide
      rw [n1, nT1, if_neg hs, if_neg hs]
      repeat (first
        | refine awp_skip ?_)
      exact ⟨rfl, fits_convM (by repeat' first | exact trivial | exact rfl | (rw [List.map_append]; first | done | rfl) | exact c_sub rfl (Sub.refl _) rfl | exact c_nil rfl rfl | exact c_thaw rfl rfl rfl | exact c_row rfl rfl rfl | exact c_row rfl rfl (by rw [List.map_append]; first | done | rfl) | exact c_ptr rfl rfl rfl rfl | exact Or.inl ⟨c_sub rfl (Sub.refl _) rfl, c_ptr rfl rfl rfl rfl⟩ | exact c_alt rfl rfl rfl rfl | exact c_ro rfl rfl | exact c_eo rfl rfl | exact c_sub rfl (Sub.altl _ _) rfl | exact c_sub rfl (Sub.nil _) rfl | refine ⟨_, _, rfl, ?_, ?_⟩ | apply And.intro) (by repeat' first | exact trivial | exact rfl | (rw [List.map_append]; first | done | rfl) | exact c_sub rfl (Sub.refl _) rfl | exact c_nil rfl rfl | exact c_thaw rfl rfl rfl | exact c_row rfl rfl rfl | exact c_row rfl rfl (by rw [List.map_append]; first | done | rfl) | exact c_ptr rfl rfl rfl rfl | exact Or.inl ⟨c_sub rfl (Sub.refl _) rfl, c_ptr rfl rfl rfl rfl⟩ | exact c_alt rfl rfl rfl rfl | exact c_ro rfl rfl | exact c_eo rfl rfl | exact c_sub rfl (Sub.altl _ _) rfl | exact c_sub rfl (Sub.nil _) rfl | refine ⟨_, _, rfl, ?_, ?_⟩ | apply And.intro) ⟨trivial, trivial⟩⟩
  repeat (first
    | refine awp_seq ?_
    | refine a_region ?_
    | (refine r_id ?_; first
      | refine r_ev tab_ok rfl rfl rfl rfl (by first | exact trivial | exact ⟨by omega, by omega⟩ | omega | exact ⟨by omega, by omega, by omega, by omega⟩ | exact Nat.le_of_ble_eq_true rfl) rfl ?_))
  refine r_mcall [0] (digits_ok L (n1 L i) hL h1.2) call45 rfl rfl ⟨rfl, trivial⟩ (by decide) ⟨Sub.refl _, trivial⟩ rfl rfl rfl rfl rfl rfl rfl ?_
  repeat (first
    | refine awp_seq ?_
    | refine thenA_normal ?_
    | refine a_region ?_
    | refine r_done ?_
    | (refine r_id ?_; first
      | refine r_ev tab_ok rfl rfl rfl rfl (by first | exact trivial | exact ⟨by omega, by omega⟩ | omega | exact ⟨by omega, by omega, by omega, by omega⟩ | exact Nat.le_of_ble_eq_true rfl) rfl ?_
      | refine r_ev_cnd tab_ok rfl rfl rfl rfl rfl rfl (by first | exact fun _ => rfl | exact cs1 | exact cs2 | exact cs3) (by first | exact fun _ => trivial | (intro h; simp at h; first | exact ⟨by omega, by omega⟩ | omega)) rfl ?_
      | refine r_and rfl rfl rfl rfl rfl rfl rfl rfl ?_)
    | refine r_mro [0] (sign_ok _ _ _ hL (by omega) (by omega)) call28 rfl rfl ⟨rfl, trivial⟩ (by decide) ⟨Sub.refl _, Sub.refl _, trivial⟩ rfl rfl rfl rfl rfl rfl ?_
    | refine r_mro_cnd [0] (fun _ => sign_ok _ _ _ hL (by omega) (by omega)) call28 rfl rfl rfl rfl (by first | exact fun _ => rfl | exact cs1 | exact cs2 | exact cs3) ⟨rfl, trivial⟩ (by decide) ⟨Sub.refl _, Sub.refl _, trivial⟩ rfl rfl rfl rfl rfl rfl ?_
    | refine r_call_cnd (fun _ => refDigit _) call38 rfl rfl rfl rfl (by first | exact fun _ => rfl | exact cs1 | exact cs2 | exact cs3) ⟨Sub.refl _, trivial⟩ rfl rfl rfl rfl ?_)
  have hnt : runesBytes (nT L i) = runesBytes (nT1 L i) ++ runesBytes (digAt L (n1 L i)) := by rw [nT, runes_append]
  rw [Int.add_zero]
  generalize hj2 : n2 L i = j2 at h2 h3 h4
  refine awp_cut ⟨[rdB L (n3 L j2), tB tk0], [(0, .ptr 0 0), (2, .ptr 1 0), (3, .val (.string (runesBytes (nT L i)))), (4, .val (.bool (nS L i))), (5, .val (.bool (!nDot L j2)))]⟩ ?_ ?_
  · rw [show digEnd L (n1 L i) = j2 from hj2, ← hnt]
    refine awp_cond rfl (fun h => ?_) (fun h => ?_)
    · have hd : nDot L j2 = true := h
      have hin := nDot_in hd
      rw [n3, if_pos hd, hd]
      repeat (first
        | refine awp_seq ?_
        | refine thenA_normal ?_
        | refine a_region ?_
        | refine r_done ?_
        | (refine r_id ?_; first
          | refine r_ev tab_ok rfl rfl rfl rfl (by first | exact trivial | exact ⟨by omega, by omega⟩ | omega | exact ⟨by omega, by omega, by omega, by omega⟩ | exact Nat.le_of_ble_eq_true rfl) rfl ?_
          | refine r_ld tab_ok rfl rfl rfl rfl rfl ?_
          | refine r_st tab_ok rfl rfl rfl rfl ?_
          | refine r_nilck rfl rfl rfl rfl rfl rfl rfl ?_))
      refine r_mcall [0] (digits_ok L (j2 + 1) hL (by omega)) call45 rfl rfl ⟨rfl, trivial⟩ (by decide) ⟨Sub.refl _, trivial⟩ rfl rfl rfl rfl rfl rfl rfl ?_
      repeat (first
        | refine r_done ?_)
      exact ⟨rfl, fits_convM (by repeat' first | exact trivial | exact rfl | (rw [List.map_append]; first | done | rfl) | exact c_sub rfl (Sub.refl _) rfl | exact c_nil rfl rfl | exact c_thaw rfl rfl rfl | exact c_row rfl rfl rfl | exact c_row rfl rfl (by rw [List.map_append]; first | done | rfl) | exact c_ptr rfl rfl rfl rfl | exact Or.inl ⟨c_sub rfl (Sub.refl _) rfl, c_ptr rfl rfl rfl rfl⟩ | exact c_alt rfl rfl rfl rfl | exact c_ro rfl rfl | exact c_eo rfl rfl | exact c_sub rfl (Sub.altl _ _) rfl | exact c_sub rfl (Sub.nil _) rfl | refine ⟨_, _, rfl, ?_, ?_⟩ | apply And.intro) (by repeat' first | exact trivial | exact rfl | (rw [List.map_append]; first | done | rfl) | exact c_sub rfl (Sub.refl _) rfl | exact c_nil rfl rfl | exact c_thaw rfl rfl rfl | exact c_row rfl rfl rfl | exact c_row rfl rfl (by rw [List.map_append]; first | done | rfl) | exact c_ptr rfl rfl rfl rfl | exact Or.inl ⟨c_sub rfl (Sub.refl _) rfl, c_ptr rfl rfl rfl rfl⟩ | exact c_alt rfl rfl rfl rfl | exact c_ro rfl rfl | exact c_eo rfl rfl | exact c_sub rfl (Sub.altl _ _) rfl | exact c_sub rfl (Sub.nil _) rfl | refine ⟨_, _, rfl, ?_, ?_⟩ | apply And.intro) ⟨trivial, trivial⟩⟩
    · have hd : nDot L j2 = false := h
      rw [n3, hd, if_neg (by decide)]
      repeat (first
        | refine awp_skip ?_)
      exact ⟨rfl, fits_convM (by repeat' first | exact trivial | exact rfl | (rw [List.map_append]; first | done | rfl) | exact c_sub rfl (Sub.refl _) rfl | exact c_nil rfl rfl | exact c_thaw rfl rfl rfl | exact c_row rfl rfl rfl | exact c_row rfl rfl (by rw [List.map_append]; first | done | rfl) | exact c_ptr rfl rfl rfl rfl | exact Or.inl ⟨c_sub rfl (Sub.refl _) rfl, c_ptr rfl rfl rfl rfl⟩ | exact c_alt rfl rfl rfl rfl | exact c_ro rfl rfl | exact c_eo rfl rfl | exact c_sub rfl (Sub.altl _ _) rfl | exact c_sub rfl (Sub.nil _) rfl | refine ⟨_, _, rfl, ?_, ?_⟩ | apply And.intro) (by repeat' first | exact trivial | exact rfl | (rw [List.map_append]; first | done | rfl) | exact c_sub rfl (Sub.refl _) rfl | exact c_nil rfl rfl | exact c_thaw rfl rfl rfl | exact c_row rfl rfl rfl | exact c_row rfl rfl (by rw [List.map_append]; first | done | rfl) | exact c_ptr rfl rfl rfl rfl | exact Or.inl ⟨c_sub rfl (Sub.refl _) rfl, c_ptr rfl rfl rfl rfl⟩ | exact c_alt rfl rfl rfl rfl | exact c_ro rfl rfl | exact c_eo rfl rfl | exact c_sub rfl (Sub.altl _ _) rfl | exact c_sub rfl (Sub.nil _) rfl | refine ⟨_, _, rfl, ?_, ?_⟩ | apply And.intro) ⟨trivial, trivial⟩⟩
  generalize hj3 : n3 L j2 = j3 at h3 h4
  repeat (first
    | refine awp_seq ?_
    | refine thenA_normal ?_
    | refine a_region ?_
    | refine r_done ?_
    | (refine r_id ?_; first
      | refine r_ev tab_ok rfl rfl rfl rfl (by first | exact trivial | exact ⟨by omega, by omega⟩ | omega | exact ⟨by omega, by omega, by omega, by omega⟩ | exact Nat.le_of_ble_eq_true rfl) rfl ?_
      | refine r_ev_cnd tab_ok rfl rfl rfl rfl rfl rfl (by first | exact fun _ => rfl | exact cs1 | exact cs2 | exact cs3) (by first | exact fun _ => trivial | (intro h; simp at h; first | exact ⟨by omega, by omega⟩ | omega)) rfl ?_
      | refine r_or rfl rfl rfl rfl rfl rfl rfl rfl ?_)
    | refine r_mro [0] (sign_ok _ _ _ hL (by omega) (by omega)) call28 rfl rfl ⟨rfl, trivial⟩ (by decide) ⟨Sub.refl _, Sub.refl _, trivial⟩ rfl rfl rfl rfl rfl rfl ?_
    | refine r_mro_cnd [0] (fun _ => sign_ok _ _ _ hL (by omega) (by omega)) call28 rfl rfl rfl rfl (by first | exact fun _ => rfl | exact cs1 | exact cs2 | exact cs3) ⟨rfl, trivial⟩ (by decide) ⟨Sub.refl _, Sub.refl _, trivial⟩ rfl rfl rfl rfl rfl rfl ?_)
  rw [Int.add_zero]
  refine awp_cut ⟨[rdB L (n4 L j3), tB tk0], [(0, .ptr 0 0), (2, .ptr 1 0), (3, .val (.string (runesBytes (nT L i)))), (4, .val (.bool (nS L i))), (5, .val (.bool (!nDot L j2 && !nEx L j3)))]⟩ ?_ ?_
  · refine awp_cond rfl (fun h => ?_) (fun h => ?_)
    · have hE : nE L j3 = true := h
      have hj : j3 < L.length := by
        refine sg_in fun h' => ?_
        rw [nE, h'] at hE
        cases hE
      repeat (first
        | refine awp_seq ?_
        | refine thenA_normal ?_
        | refine a_region ?_
        | refine r_done ?_
        | (refine r_id ?_; first
          | refine r_ev tab_ok rfl rfl rfl rfl (by first | exact trivial | exact ⟨by omega, by omega⟩ | omega | exact ⟨by omega, by omega, by omega, by omega⟩ | exact Nat.le_of_ble_eq_true rfl) rfl ?_
          | refine r_ev_cnd tab_ok rfl rfl rfl rfl rfl rfl (by first | exact fun _ => rfl | exact cs1 | exact cs2 | exact cs3) (by first | exact fun _ => trivial | (intro h; simp at h; first | exact ⟨by omega, by omega⟩ | omega)) rfl ?_
          | refine r_or rfl rfl rfl rfl rfl rfl rfl rfl ?_)
        | refine r_mro [0] (sign_ok _ _ _ hL (by omega) (by omega)) call28 rfl rfl ⟨rfl, trivial⟩ (by decide) ⟨Sub.refl _, Sub.refl _, trivial⟩ rfl rfl rfl rfl rfl rfl ?_
        | refine r_mro_cnd [0] (fun _ => sign_ok _ _ _ hL (by omega) (by omega)) call28 rfl rfl rfl rfl (by first | exact fun _ => rfl | exact cs1 | exact cs2 | exact cs3) ⟨rfl, trivial⟩ (by decide) ⟨Sub.refl _, Sub.refl _, trivial⟩ rfl rfl rfl rfl rfl rfl ?_)
      refine awp_cut ⟨[rdB L j3, tB tk0], [(0, .ptr 0 0), (2, .ptr 1 0), (3, .val (.string (runesBytes (nT L i)))), (4, .val (.bool (nS L i))), (5, .val (.bool (!nDot L j2))), (6, .val (.int .i64 (nK L j3)))]⟩ ?_ ?_
      · refine awp_cond rfl (fun h => ?_) (fun h => ?_)
        · rw [nK, if_pos (show nEs L j3 = true from h)]
          repeat (first
            | refine a_region ?_
            | refine r_done ?_
            | (refine r_id ?_; first
              | refine r_ev tab_ok rfl rfl rfl rfl (by first | exact trivial | exact ⟨by omega, by omega⟩ | omega | exact ⟨by omega, by omega, by omega, by omega⟩ | exact Nat.le_of_ble_eq_true rfl) rfl ?_))
          exact ⟨rfl, fits_convM (by repeat' first | exact trivial | exact rfl | (rw [List.map_append]; first | done | rfl) | exact c_sub rfl (Sub.refl _) rfl | exact c_nil rfl rfl | exact c_thaw rfl rfl rfl | exact c_row rfl rfl rfl | exact c_row rfl rfl (by rw [List.map_append]; first | done | rfl) | exact c_ptr rfl rfl rfl rfl | exact Or.inl ⟨c_sub rfl (Sub.refl _) rfl, c_ptr rfl rfl rfl rfl⟩ | exact c_alt rfl rfl rfl rfl | exact c_ro rfl rfl | exact c_eo rfl rfl | exact c_sub rfl (Sub.altl _ _) rfl | exact c_sub rfl (Sub.nil _) rfl | refine ⟨_, _, rfl, ?_, ?_⟩ | apply And.intro) (by repeat' first | exact trivial | exact rfl | (rw [List.map_append]; first | done | rfl) | exact c_sub rfl (Sub.refl _) rfl | exact c_nil rfl rfl | exact c_thaw rfl rfl rfl | exact c_row rfl rfl rfl | exact c_row rfl rfl (by rw [List.map_append]; first | done | rfl) | exact c_ptr rfl rfl rfl rfl | exact Or.inl ⟨c_sub rfl (Sub.refl _) rfl, c_ptr rfl rfl rfl rfl⟩ | exact c_alt rfl rfl rfl rfl | exact c_ro rfl rfl | exact c_eo rfl rfl | exact c_sub rfl (Sub.altl _ _) rfl | exact c_sub rfl (Sub.nil _) rfl | refine ⟨_, _, rfl, ?_, ?_⟩ | apply And.intro) ⟨trivial, trivial⟩⟩
        · rw [nK, if_neg (by rw [show nEs L j3 = false from h]; decide)]
          repeat (first
            | refine awp_skip ?_)
          exact ⟨rfl, fits_convM (by repeat' first | exact trivial | exact rfl | (rw [List.map_append]; first | done | rfl) | exact c_sub rfl (Sub.refl _) rfl | exact c_nil rfl rfl | exact c_thaw rfl rfl rfl | exact c_row rfl rfl rfl | exact c_row rfl rfl (by rw [List.map_append]; first | done | rfl) | exact c_ptr rfl rfl rfl rfl | exact Or.inl ⟨c_sub rfl (Sub.refl _) rfl, c_ptr rfl rfl rfl rfl⟩ | exact c_alt rfl rfl rfl rfl | exact c_ro rfl rfl | exact c_eo rfl rfl | exact c_sub rfl (Sub.altl _ _) rfl | exact c_sub rfl (Sub.nil _) rfl | refine ⟨_, _, rfl, ?_, ?_⟩ | apply And.intro) (by repeat' first | exact trivial | exact rfl | (rw [List.map_append]; first | done | rfl) | exact c_sub rfl (Sub.refl _) rfl | exact c_nil rfl rfl | exact c_thaw rfl rfl rfl | exact c_row rfl rfl rfl | exact c_row rfl rfl (by rw [List.map_append]; first | done | rfl) | exact c_ptr rfl rfl rfl rfl | exact Or.inl ⟨c_sub rfl (Sub.refl _) rfl, c_ptr rfl rfl rfl rfl⟩ | exact c_alt rfl rfl rfl rfl | exact c_ro rfl rfl | exact c_eo rfl rfl | exact c_sub rfl (Sub.altl _ _) rfl | exact c_sub rfl (Sub.nil _) rfl | refine ⟨_, _, rfl, ?_, ?_⟩ | apply And.intro) ⟨trivial, trivial⟩⟩
      have hk : nK L j3 ≤ 2 := by unfold nK; split <;> omega
      repeat (first
        | refine awp_seq ?_
        | refine thenA_normal ?_
        | refine a_region ?_
        | refine r_done ?_
        | (refine r_id ?_; first
          | refine r_ev tab_ok rfl rfl rfl rfl (by first | exact trivial | exact ⟨by omega, by omega⟩ | omega | exact ⟨by omega, by omega, by omega, by omega⟩ | exact Nat.le_of_ble_eq_true rfl) rfl ?_)
        | refine r_mro [0] (sign_ok _ _ _ hL (by omega) (by omega)) call28 rfl rfl ⟨rfl, trivial⟩ (by decide) ⟨Sub.refl _, Sub.refl _, trivial⟩ rfl rfl rfl rfl rfl rfl ?_
        | refine r_call (refDigit _) call38 rfl rfl ⟨Sub.refl _, trivial⟩ rfl rfl rfl rfl ?_)
      refine awp_cond rfl (fun h => ?_) (fun h => ?_)
      · have hin := nEx_in h
        have hx : nEx L j3 = true := by rw [nEx, hE]; exact h
        rw [n4, hx, if_pos rfl, Bool.not_true, Bool.and_false]
        repeat (first
          | refine awp_seq ?_
          | refine thenA_normal ?_
          | refine a_region ?_
          | refine r_done ?_
          | (refine r_id ?_; first
            | refine r_ev tab_ok rfl rfl rfl rfl (by first | exact trivial | exact ⟨by omega, by omega⟩ | omega | exact ⟨by omega, by omega, by omega, by omega⟩ | exact Nat.le_of_ble_eq_true rfl) rfl ?_
            | refine r_ld tab_ok rfl rfl rfl rfl rfl ?_
            | refine r_st tab_ok rfl rfl rfl rfl ?_
            | refine r_nilck rfl rfl rfl rfl rfl rfl rfl ?_))
        refine r_mcall [0] (digits_ok L (j3 + nK L j3) hL (by omega)) call45 rfl rfl ⟨rfl, trivial⟩ (by decide) ⟨Sub.refl _, trivial⟩ rfl rfl rfl rfl rfl rfl rfl ?_
        repeat (first
          | refine r_done ?_)
        exact ⟨rfl, fits_convM (by repeat' first | exact trivial | exact rfl | (rw [List.map_append]; first | done | rfl) | exact c_sub rfl (Sub.refl _) rfl | exact c_nil rfl rfl | exact c_thaw rfl rfl rfl | exact c_row rfl rfl rfl | exact c_row rfl rfl (by rw [List.map_append]; first | done | rfl) | exact c_ptr rfl rfl rfl rfl | exact Or.inl ⟨c_sub rfl (Sub.refl _) rfl, c_ptr rfl rfl rfl rfl⟩ | exact c_alt rfl rfl rfl rfl | exact c_ro rfl rfl | exact c_eo rfl rfl | exact c_sub rfl (Sub.altl _ _) rfl | exact c_sub rfl (Sub.nil _) rfl | refine ⟨_, _, rfl, ?_, ?_⟩ | apply And.intro) (by repeat' first | exact trivial | exact rfl | (rw [List.map_append]; first | done | rfl) | exact c_sub rfl (Sub.refl _) rfl | exact c_nil rfl rfl | exact c_thaw rfl rfl rfl | exact c_row rfl rfl rfl | exact c_row rfl rfl (by rw [List.map_append]; first | done | rfl) | exact c_ptr rfl rfl rfl rfl | exact Or.inl ⟨c_sub rfl (Sub.refl _) rfl, c_ptr rfl rfl rfl rfl⟩ | exact c_alt rfl rfl rfl rfl | exact c_ro rfl rfl | exact c_eo rfl rfl | exact c_sub rfl (Sub.altl _ _) rfl | exact c_sub rfl (Sub.nil _) rfl | refine ⟨_, _, rfl, ?_, ?_⟩ | apply And.intro) ⟨trivial, trivial⟩⟩
      · have hx : nEx L j3 = false := by rw [nEx, hE]; exact h
        rw [n4, hx, if_neg (by decide), Bool.not_false, Bool.and_true]
        repeat (first
          | refine awp_skip ?_)
        exact ⟨rfl, fits_convM (by repeat' first | exact trivial | exact rfl | (rw [List.map_append]; first | done | rfl) | exact c_sub rfl (Sub.refl _) rfl | exact c_nil rfl rfl | exact c_thaw rfl rfl rfl | exact c_row rfl rfl rfl | exact c_row rfl rfl (by rw [List.map_append]; first | done | rfl) | exact c_ptr rfl rfl rfl rfl | exact Or.inl ⟨c_sub rfl (Sub.refl _) rfl, c_ptr rfl rfl rfl rfl⟩ | exact c_alt rfl rfl rfl rfl | exact c_ro rfl rfl | exact c_eo rfl rfl | exact c_sub rfl (Sub.altl _ _) rfl | exact c_sub rfl (Sub.nil _) rfl | refine ⟨_, _, rfl, ?_, ?_⟩ | apply And.intro) (by repeat' first | exact trivial | exact rfl | (rw [List.map_append]; first | done | rfl) | exact c_sub rfl (Sub.refl _) rfl | exact c_nil rfl rfl | exact c_thaw rfl rfl rfl | exact c_row rfl rfl rfl | exact c_row rfl rfl (by rw [List.map_append]; first | done | rfl) | exact c_ptr rfl rfl rfl rfl | exact Or.inl ⟨c_sub rfl (Sub.refl _) rfl, c_ptr rfl rfl rfl rfl⟩ | exact c_alt rfl rfl rfl rfl | exact c_ro rfl rfl | exact c_eo rfl rfl | exact c_sub rfl (Sub.altl _ _) rfl | exact c_sub rfl (Sub.nil _) rfl | refine ⟨_, _, rfl, ?_, ?_⟩ | apply And.intro) ⟨trivial, trivial⟩⟩
    · have hx : nEx L j3 = false := by rw [nEx, show nE L j3 = false from h]; rfl
      rw [n4, hx, if_neg (by decide), Bool.not_false, Bool.and_true]
      repeat (first
        | refine awp_skip ?_)
      exact ⟨rfl, fits_convM (by repeat' first | exact trivial | exact rfl | (rw [List.map_append]; first | done | rfl) | exact c_sub rfl (Sub.refl _) rfl | exact c_nil rfl rfl | exact c_thaw rfl rfl rfl | exact c_row rfl rfl rfl | exact c_row rfl rfl (by rw [List.map_append]; first | done | rfl) | exact c_ptr rfl rfl rfl rfl | exact Or.inl ⟨c_sub rfl (Sub.refl _) rfl, c_ptr rfl rfl rfl rfl⟩ | exact c_alt rfl rfl rfl rfl | exact c_ro rfl rfl | exact c_eo rfl rfl | exact c_sub rfl (Sub.altl _ _) rfl | exact c_sub rfl (Sub.nil _) rfl | refine ⟨_, _, rfl, ?_, ?_⟩ | apply And.intro) (by repeat' first | exact trivial | exact rfl | (rw [List.map_append]; first | done | rfl) | exact c_sub rfl (Sub.refl _) rfl | exact c_nil rfl rfl | exact c_thaw rfl rfl rfl | exact c_row rfl rfl rfl | exact c_row rfl rfl (by rw [List.map_append]; first | done | rfl) | exact c_ptr rfl rfl rfl rfl | exact Or.inl ⟨c_sub rfl (Sub.refl _) rfl, c_ptr rfl rfl rfl rfl⟩ | exact c_alt rfl rfl rfl rfl | exact c_ro rfl rfl | exact c_eo rfl rfl | exact c_sub rfl (Sub.altl _ _) rfl | exact c_sub rfl (Sub.nil _) rfl | refine ⟨_, _, rfl, ?_, ?_⟩ | apply And.intro) ⟨trivial, trivial⟩⟩
  repeat (first
    | refine awp_seq ?_
    | refine thenA_normal ?_
    | refine a_region ?_
    | refine r_done ?_
    | (refine r_id ?_; first
      | refine r_ev tab_ok rfl rfl rfl rfl (by first | exact trivial | exact ⟨by omega, by omega⟩ | omega | exact ⟨by omega, by omega, by omega, by omega⟩ | exact Nat.le_of_ble_eq_true rfl) rfl ?_
      | refine r_wr tab_ok rfl rfl rfl rfl rfl ?_
      | refine r_st tab_ok rfl rfl rfl rfl ?_
      | refine r_build tab_ok rfl rfl rfl rfl rfl rfl ?_))
  have hW : nW L i = (!nDot L j2 && !nEx L j3) := by rw [nW, hj2, hj3]
  have hP : nP L i = n4 L j3 := by rw [nP, hj2, hj3]
  rw [numF, hP]
  generalize hj4 : n4 L j3 = j4 at h4
  generalize hw : (!nDot L j2 && !nEx L j3) = wh at hW
  have hz3 := runesBytes_size_le (nT L i)
  have hz3' : (nT L i).length ≤ L.length + 1 := by rw [nT, List.length_append]; omega
  refine awp_cut ⟨[rdB L j4, tB tk0, tB (nTk L i)], [(0, .ptr 0 0), (2, .ptr 1 0), (7, .ptr 2 0)]⟩ ?_ ?_
  · refine awp_cond rfl (fun h => ?_) (fun h => ?_)
    · subst h
      rw [nTk, hW, if_pos rfl]
      repeat (first
        | refine a_region ?_
        | (refine r_id ?_; first
          | refine r_ev tab_ok rfl rfl rfl rfl (by first | exact trivial | exact ⟨by omega, by omega⟩ | omega | exact ⟨by omega, by omega, by omega, by omega⟩ | exact Nat.le_of_ble_eq_true rfl) rfl ?_))
      refine r_call (int_ok (runesBytes (nT L i)) (by omega)) call46 rfl rfl ⟨Sub.refl _, trivial⟩ rfl rfl rfl rfl ?_
      repeat (first
        | refine r_done ?_
        | (refine r_id ?_; first
          | refine r_ev tab_ok rfl rfl rfl rfl (by first | exact trivial | exact ⟨by omega, by omega⟩ | omega | exact ⟨by omega, by omega, by omega, by omega⟩ | exact Nat.le_of_ble_eq_true rfl) rfl ?_
          | refine r_st tab_ok rfl rfl rfl rfl ?_))
      exact ⟨rfl, fits_convM (by repeat' first | exact trivial | exact rfl | (rw [List.map_append]; first | done | rfl) | exact c_sub rfl (Sub.refl _) rfl | exact c_nil rfl rfl | exact c_thaw rfl rfl rfl | exact c_row rfl rfl rfl | exact c_row rfl rfl (by rw [List.map_append]; first | done | rfl) | exact c_ptr rfl rfl rfl rfl | exact Or.inl ⟨c_sub rfl (Sub.refl _) rfl, c_ptr rfl rfl rfl rfl⟩ | exact c_alt rfl rfl rfl rfl | exact c_ro rfl rfl | exact c_eo rfl rfl | exact c_sub rfl (Sub.altl _ _) rfl | exact c_sub rfl (Sub.nil _) rfl | refine ⟨_, _, rfl, ?_, ?_⟩ | apply And.intro) (by repeat' first | exact trivial | exact rfl | (rw [List.map_append]; first | done | rfl) | exact c_sub rfl (Sub.refl _) rfl | exact c_nil rfl rfl | exact c_thaw rfl rfl rfl | exact c_row rfl rfl rfl | exact c_row rfl rfl (by rw [List.map_append]; first | done | rfl) | exact c_ptr rfl rfl rfl rfl | exact Or.inl ⟨c_sub rfl (Sub.refl _) rfl, c_ptr rfl rfl rfl rfl⟩ | exact c_alt rfl rfl rfl rfl | exact c_ro rfl rfl | exact c_eo rfl rfl | exact c_sub rfl (Sub.altl _ _) rfl | exact c_sub rfl (Sub.nil _) rfl | refine ⟨_, _, rfl, ?_, ?_⟩ | apply And.intro) ⟨trivial, trivial⟩⟩
    · subst h
      rw [nTk, hW, if_neg (by decide)]
      repeat (first
        | refine awp_skip ?_)
      exact ⟨rfl, fits_convM (by repeat' first | exact trivial | exact rfl | (rw [List.map_append]; first | done | rfl) | exact c_sub rfl (Sub.refl _) rfl | exact c_nil rfl rfl | exact c_thaw rfl rfl rfl | exact c_row rfl rfl rfl | exact c_row rfl rfl (by rw [List.map_append]; first | done | rfl) | exact c_ptr rfl rfl rfl rfl | exact Or.inl ⟨c_sub rfl (Sub.refl _) rfl, c_ptr rfl rfl rfl rfl⟩ | exact c_alt rfl rfl rfl rfl | exact c_ro rfl rfl | exact c_eo rfl rfl | exact c_sub rfl (Sub.altl _ _) rfl | exact c_sub rfl (Sub.nil _) rfl | refine ⟨_, _, rfl, ?_, ?_⟩ | apply And.intro) (by repeat' first | exact trivial | exact rfl | (rw [List.map_append]; first | done | rfl) | exact c_sub rfl (Sub.refl _) rfl | exact c_nil rfl rfl | exact c_thaw rfl rfl rfl | exact c_row rfl rfl rfl | exact c_row rfl rfl (by rw [List.map_append]; first | done | rfl) | exact c_ptr rfl rfl rfl rfl | exact Or.inl ⟨c_sub rfl (Sub.refl _) rfl, c_ptr rfl rfl rfl rfl⟩ | exact c_alt rfl rfl rfl rfl | exact c_ro rfl rfl | exact c_eo rfl rfl | exact c_sub rfl (Sub.altl _ _) rfl | exact c_sub rfl (Sub.nil _) rfl | refine ⟨_, _, rfl, ?_, ?_⟩ | apply And.intro) ⟨trivial, trivial⟩⟩
  generalize nTk L i = t
  repeat (first
    | refine awp_seq ?_
    | refine thenA_normal ?_
    | refine awp_block ?_
    | refine a_region ?_
    | refine r_done ?_
    | (refine r_id ?_; first
      | refine r_ev tab_ok rfl rfl rfl rfl (by first | exact trivial | exact ⟨by omega, by omega⟩ | omega | exact ⟨by omega, by omega, by omega, by omega⟩ | exact Nat.le_of_ble_eq_true rfl) rfl ?_)
    | refine r_mro [0] (names_ok _ _ _ hL (by omega) (by omega)) call36 rfl rfl ⟨rfl, trivial⟩ (by decide) ⟨Sub.refl _, Sub.refl _, trivial⟩ rfl rfl rfl rfl rfl rfl ?_)
  rw [Int.add_zero]
  refine awp_cond rfl (fun h => ?_) (fun h => ?_)
  · rw [if_pos h]
    repeat (first
      | refine awp_seq ?_
      | refine thenA_normal ?_
      | refine a_region ?_
      | refine r_done ?_
      | (refine r_id ?_; first
        | refine r_ev tab_ok rfl rfl rfl rfl (by first | exact trivial | exact ⟨by omega, by omega⟩ | omega | exact ⟨by omega, by omega, by omega, by omega⟩ | exact Nat.le_of_ble_eq_true rfl) rfl ?_
        | refine r_st tab_ok rfl rfl rfl rfl ?_))
    refine r_mcall [0] (name_ok L j4 hL h4.2) call37 rfl rfl ⟨rfl, trivial⟩ (by decide) ⟨Sub.refl _, trivial⟩ rfl rfl rfl rfl rfl rfl rfl ?_
    repeat (first
      | refine awp_seq ?_
      | refine thenA_normal ?_
      | refine a_region ?_
      | refine awp_ret ?_
      | refine r_done ?_
      | (refine r_id ?_; first
        | refine r_ev tab_ok rfl rfl rfl rfl (by first | exact trivial | exact ⟨by omega, by omega⟩ | omega | exact ⟨by omega, by omega, by omega, by omega⟩ | exact Nat.le_of_ble_eq_true rfl) rfl ?_
        | refine r_ld tab_ok rfl rfl rfl rfl rfl ?_
        | refine r_st tab_ok rfl rfl rfl rfl ?_))
    exact retM1c tab_ok (by first | exact .inl rfl | exact .inr rfl) rfl rfl rfl rfl rfl rfl rfl rfl (Sub.refl _)
  · rw [if_neg (by rw [h]; decide)]
    repeat (first
      | refine awp_seq ?_
      | refine thenA_normal ?_
      | refine a_region ?_
      | refine r_done ?_
      | (refine r_id ?_; first
        | refine r_ev tab_ok rfl rfl rfl rfl (by first | exact trivial | exact ⟨by omega, by omega⟩ | omega | exact ⟨by omega, by omega, by omega, by omega⟩ | exact Nat.le_of_ble_eq_true rfl) rfl ?_)
      | refine r_mro [0] (sign_ok _ _ _ hL (by omega) (by omega)) call28 rfl rfl ⟨rfl, trivial⟩ (by decide) ⟨Sub.refl _, Sub.refl _, trivial⟩ rfl rfl rfl rfl rfl rfl ?_)
    rw [Int.add_zero]
    refine awp_cond_p rfl (fun h5 => ?_) (fun h5 => ?_)
    · rw [if_pos h5]
      have hin : j4 < L.length := sg_in (by rw [h5]; decide)
      repeat (first
        | refine awp_seq ?_
        | refine thenA_normal ?_
        | refine a_region ?_
        | refine awp_ret ?_
        | refine r_done ?_
        | (refine r_id ?_; first
          | refine r_ev tab_ok rfl rfl rfl rfl (by first | exact trivial | exact ⟨by omega, by omega⟩ | omega | exact ⟨by omega, by omega, by omega, by omega⟩ | exact Nat.le_of_ble_eq_true rfl) rfl ?_
          | refine r_ld tab_ok rfl rfl rfl rfl rfl ?_
          | refine r_st tab_ok rfl rfl rfl rfl ?_
          | refine r_nilck rfl rfl rfl rfl rfl rfl rfl ?_))
      exact retM1c tab_ok (by first | exact .inl rfl | exact .inr rfl) rfl rfl rfl rfl rfl rfl rfl rfl (Sub.refl _)
    · rw [if_neg h5]
      repeat (first
        | refine awp_seq ?_
        | refine thenA_normal ?_
        | refine a_region ?_
        | refine awp_ret ?_
        | refine awp_skip ?_
        | refine r_done ?_
        | (refine r_id ?_; first
          | refine r_ld tab_ok rfl rfl rfl rfl rfl ?_
          | refine r_st tab_ok rfl rfl rfl rfl ?_))
      exact retM1c tab_ok (by first | exact .inl rfl | exact .inr rfl) rfl rfl rfl rfl rfl rfl rfl rfl (Sub.refl _)
end Go.Proofs.Ytogjmafjoliimaa

/- The reader: strings and urls. -/
namespace Go.Proofs.Ytogjmafjoliimaa
open Go Go.RowKit

theorem sg_ge {L : List Int} {i : Nat} (h : 0 ≤ sg L i) : i < L.length := sg_in (by omega)
def wStep (L : List Int) (i : Nat) : (List Int × Nat) ⊕ Nat := if whiteF (sg L i) = true then .inl ([], i + 1) else .inr i
theorem wStep_goes (L : List Int) : Goes2 L.length (wStep L) := by
  intro i o j hi h
  unfold wStep at h
  split at h
  · rename_i hw
    cases h
    exact ⟨by omega, white_in hw, by simp⟩
  · cases h
def wEnd (L : List Int) (i : Nat) : Nat := ((goAt L.length (wStep L) i).2).getD 0
theorem wEnd_le (L : List Int) {i : Nat} (h : i ≤ L.length) : i ≤ wEnd L i ∧ wEnd L i ≤ L.length ∧ whiteF (sg L (wEnd L i)) = false := by
  obtain ⟨r, j, h1, h2, h3, h4, _⟩ := goAt_end (wStep_goes L) L.length i h (by omega)
  have : r = j ∧ whiteF (sg L j) = false := by
    unfold wStep at h4
    split at h4
    · cases h4
    · rename_i hw; cases h4; exact ⟨rfl, by simpa using hw⟩
  rw [wEnd, h1, this.1]
  exact ⟨h2, h3, this.2⟩
theorem wEnd_gt (L : List Int) {i : Nat} (h : i ≤ L.length) (hw : whiteF (sg L i) = true) : i < wEnd L i := by
  have h1 := wEnd_le L h
  rcases Nat.lt_or_ge i (wEnd L i) with h2 | h2
  · exact h2
  · have : wEnd L i = i := by omega
    rw [this, hw] at h1
    cases h1.2.2
def bStep (L : List Int) (i : Nat) : (List Int × Nat) ⊕ Nat := if 0 ≤ sg L i ∧ sg L i ≠ 41 then (if escF L i = true then .inl ([], (escE L (i + 1)).2) else .inl ([], i + 1)) else .inr i
theorem bStep_goes (L : List Int) : Goes2 L.length (bStep L) := by
  intro i o j hi h
  unfold bStep at h
  split at h
  · rename_i hb
    have hin := sg_ge hb.1
    split at h
    · cases h
      have := escE_le L (i + 1) hin
      exact ⟨by omega, this.2, by simp; omega⟩
    · cases h
      exact ⟨by omega, hin, by simp⟩
  · cases h
def bEnd0 (L : List Int) (i : Nat) : Nat := ((goAt L.length (bStep L) i).2).getD 0
def bEnd (L : List Int) (i : Nat) : Nat := if sg L (bEnd0 L i) = 41 then bEnd0 L i + 1 else bEnd0 L i
theorem bEnd0_le (L : List Int) {i : Nat} (h : i ≤ L.length) : i ≤ bEnd0 L i ∧ bEnd0 L i ≤ L.length := by
  obtain ⟨r, j, h1, h2, h3, h4, _⟩ := goAt_end (bStep_goes L) L.length i h (by omega)
  have : r = j := by
    unfold bStep at h4
    split at h4
    · split at h4 <;> cases h4
    · cases h4; rfl
  rw [bEnd0, h1, this]
  exact ⟨h2, h3⟩
theorem bEnd_le (L : List Int) {i : Nat} (h : i ≤ L.length) : i ≤ bEnd L i ∧ bEnd L i ≤ L.length := by
  have h1 := bEnd0_le L h
  unfold bEnd
  split
  · rename_i hs
    have := sg_ge (L := L) (i := bEnd0 L i) (by omega)
    omega
  · exact h1
def tkK (k : Int) (s : ByteArray) : Tk := ⟨k, s, 0, false, false, false⟩
theorem badURL_ok (L : List Int) (i : Nat) (hL : L.length ≤ 1099511627776) (hi : i ≤ L.length) : MCalls Try.prog 50 [rdB L i] [.ptr 0 0] [rdB L (bEnd L i)] (tA (tkK 8 ⟨#[]⟩)) := by
  refine m_start Try.func50 Try.ntmps50 rfl rfl rfl fun S w β => ?_
  repeat (first
    | refine awp_seq ?_
    | refine awp_block ?_
    | refine a_region ?_
    | refine r_done ?_
    | (refine r_id ?_; first
      | refine r_wr tab_ok rfl rfl rfl rfl rfl ?_))
  refine a_loop (σ := GS L.length (bStep L) i) (fun x => [rdB L x.i, tB tk0]) (fun x => [(0, .ptr 0 0), (2, .ptr 1 0)]) (fun x => L.length - x.i) (GS.start hi) (fits_convM (by repeat' first | exact trivial | exact rfl | (rw [List.map_append]; first | done | rfl) | exact c_sub rfl (Sub.refl _) rfl | exact c_nil rfl rfl | exact c_thaw rfl rfl rfl | exact c_row rfl rfl rfl | exact c_row rfl rfl (by rw [List.map_append]; first | done | rfl) | exact c_ptr rfl rfl rfl rfl | exact Or.inl ⟨c_sub rfl (Sub.refl _) rfl, c_ptr rfl rfl rfl rfl⟩ | exact c_alt rfl rfl rfl rfl | exact c_ro rfl rfl | exact c_eo rfl rfl | exact c_sub rfl (Sub.altl _ _) rfl | exact c_sub rfl (Sub.nil _) rfl | refine ⟨_, _, rfl, ?_, ?_⟩ | apply And.intro) (by repeat' first | exact trivial | exact rfl | (rw [List.map_append]; first | done | rfl) | exact c_sub rfl (Sub.refl _) rfl | exact c_nil rfl rfl | exact c_thaw rfl rfl rfl | exact c_row rfl rfl rfl | exact c_row rfl rfl (by rw [List.map_append]; first | done | rfl) | exact c_ptr rfl rfl rfl rfl | exact Or.inl ⟨c_sub rfl (Sub.refl _) rfl, c_ptr rfl rfl rfl rfl⟩ | exact c_alt rfl rfl rfl rfl | exact c_ro rfl rfl | exact c_eo rfl rfl | exact c_sub rfl (Sub.altl _ _) rfl | exact c_sub rfl (Sub.nil _) rfl | refine ⟨_, _, rfl, ?_, ?_⟩ | apply And.intro) ⟨trivial, trivial⟩) ?_
  intro x
  have hle := x.le
  repeat (first
    | refine awp_seq ?_
    | refine thenA_normal ?_
    | refine a_region ?_
    | refine r_done ?_
    | (refine r_id ?_; first
      | refine r_ev tab_ok rfl rfl rfl rfl (by first | exact trivial | exact ⟨by omega, by omega⟩ | omega | exact ⟨by omega, by omega, by omega, by omega⟩ | exact Nat.le_of_ble_eq_true rfl) rfl ?_
      | refine r_ev_cnd tab_ok rfl rfl rfl rfl rfl rfl (by first | exact fun _ => rfl | exact cs1 | exact cs2 | exact cs3) (by first | exact fun _ => trivial | (intro h; simp at h; first | exact ⟨by omega, by omega⟩ | omega)) rfl ?_
      | refine r_and rfl rfl rfl rfl rfl rfl rfl rfl ?_)
    | refine r_mro [0] (sign_ok _ _ _ hL (by omega) (by omega)) call28 rfl rfl ⟨rfl, trivial⟩ (by decide) ⟨Sub.refl _, Sub.refl _, trivial⟩ rfl rfl rfl rfl rfl rfl ?_
    | refine r_mro_cnd [0] (fun _ => sign_ok _ _ _ hL (by omega) (by omega)) call28 rfl rfl rfl rfl (by first | exact fun _ => rfl | exact cs1 | exact cs2 | exact cs3) ⟨rfl, trivial⟩ (by decide) ⟨Sub.refl _, Sub.refl _, trivial⟩ rfl rfl rfl rfl rfl rfl ?_)
  rw [Int.add_zero]
  refine awp_cond rfl (fun h => ?_) (fun h => ?_)
  · have hb : 0 ≤ sg L x.i ∧ sg L x.i ≠ 41 := by simpa using h
    have hin := sg_ge hb.1
    repeat (first
      | refine awp_seq ?_
      | refine thenA_normal ?_
      | refine awp_block ?_
      | refine a_region ?_
      | refine awp_skip ?_
      | refine r_done ?_
      | (refine r_id ?_; first
        | refine r_ev tab_ok rfl rfl rfl rfl (by first | exact trivial | exact ⟨by omega, by omega⟩ | omega | exact ⟨by omega, by omega, by omega, by omega⟩ | exact Nat.le_of_ble_eq_true rfl) rfl ?_)
      | refine r_mro [0] (escape_ok _ _ _ hL (by omega) (by omega)) call35 rfl rfl ⟨rfl, trivial⟩ (by decide) ⟨Sub.refl _, Sub.refl _, trivial⟩ rfl rfl rfl rfl rfl rfl ?_)
    rw [Int.add_zero]
    refine awp_cond rfl (fun h2 => ?_) (fun h2 => ?_)
    · have hst : bStep L x.i = .inl ([], (escE L (x.i + 1)).2) := by rw [bStep, if_pos hb, if_pos h2]
      have hg := bStep_goes L _ _ _ hle hst
      repeat (first
        | refine awp_seq ?_
        | refine thenA_normal ?_
        | refine a_region ?_
        | refine r_done ?_
        | (refine r_id ?_; first
          | refine r_ev tab_ok rfl rfl rfl rfl (by first | exact trivial | exact ⟨by omega, by omega⟩ | omega | exact ⟨by omega, by omega, by omega, by omega⟩ | exact Nat.le_of_ble_eq_true rfl) rfl ?_
          | refine r_ld tab_ok rfl rfl rfl rfl rfl ?_
          | refine r_st tab_ok rfl rfl rfl rfl ?_
          | refine r_nilck rfl rfl rfl rfl rfl rfl rfl ?_))
      refine r_mcall [0] (escaped_ok L (x.i + 1) hL (by omega)) call43 rfl rfl ⟨rfl, trivial⟩ (by decide) ⟨Sub.refl _, trivial⟩ rfl rfl rfl rfl rfl rfl rfl ?_
      repeat (first
        | refine thenA_normal ?_
        | refine blockA_normal ?_
        | refine r_done ?_)
      exact ⟨x.next (bStep_goes L) hst, by dsimp only [GS.next]; omega, fits_convM (by repeat' first | exact trivial | exact rfl | (rw [List.map_append]; first | done | rfl) | exact c_sub rfl (Sub.refl _) rfl | exact c_nil rfl rfl | exact c_thaw rfl rfl rfl | exact c_row rfl rfl rfl | exact c_row rfl rfl (by rw [List.map_append]; first | done | rfl) | exact c_ptr rfl rfl rfl rfl | exact Or.inl ⟨c_sub rfl (Sub.refl _) rfl, c_ptr rfl rfl rfl rfl⟩ | exact c_alt rfl rfl rfl rfl | exact c_ro rfl rfl | exact c_eo rfl rfl | exact c_sub rfl (Sub.altl _ _) rfl | exact c_sub rfl (Sub.nil _) rfl | refine ⟨_, _, rfl, ?_, ?_⟩ | apply And.intro) (by repeat' first | exact trivial | exact rfl | (rw [List.map_append]; first | done | rfl) | exact c_sub rfl (Sub.refl _) rfl | exact c_nil rfl rfl | exact c_thaw rfl rfl rfl | exact c_row rfl rfl rfl | exact c_row rfl rfl (by rw [List.map_append]; first | done | rfl) | exact c_ptr rfl rfl rfl rfl | exact Or.inl ⟨c_sub rfl (Sub.refl _) rfl, c_ptr rfl rfl rfl rfl⟩ | exact c_alt rfl rfl rfl rfl | exact c_ro rfl rfl | exact c_eo rfl rfl | exact c_sub rfl (Sub.altl _ _) rfl | exact c_sub rfl (Sub.nil _) rfl | refine ⟨_, _, rfl, ?_, ?_⟩ | apply And.intro) ⟨trivial, trivial⟩⟩
    · have hst : bStep L x.i = .inl ([], x.i + 1) := by rw [bStep, if_pos hb, if_neg (by rw [h2]; decide)]
      have hg := bStep_goes L _ _ _ hle hst
      repeat (first
        | refine thenA_normal ?_
        | refine a_region ?_
        | refine blockA_normal ?_
        | refine r_done ?_
        | (refine r_id ?_; first
          | refine r_ev tab_ok rfl rfl rfl rfl (by first | exact trivial | exact ⟨by omega, by omega⟩ | omega | exact ⟨by omega, by omega, by omega, by omega⟩ | exact Nat.le_of_ble_eq_true rfl) rfl ?_
          | refine r_ld tab_ok rfl rfl rfl rfl rfl ?_
          | refine r_st tab_ok rfl rfl rfl rfl ?_
          | refine r_nilck rfl rfl rfl rfl rfl rfl rfl ?_))
      exact ⟨x.next (bStep_goes L) hst, by dsimp only [GS.next]; omega, fits_convM (by repeat' first | exact trivial | exact rfl | (rw [List.map_append]; first | done | rfl) | exact c_sub rfl (Sub.refl _) rfl | exact c_nil rfl rfl | exact c_thaw rfl rfl rfl | exact c_row rfl rfl rfl | exact c_row rfl rfl (by rw [List.map_append]; first | done | rfl) | exact c_ptr rfl rfl rfl rfl | exact Or.inl ⟨c_sub rfl (Sub.refl _) rfl, c_ptr rfl rfl rfl rfl⟩ | exact c_alt rfl rfl rfl rfl | exact c_ro rfl rfl | exact c_eo rfl rfl | exact c_sub rfl (Sub.altl _ _) rfl | exact c_sub rfl (Sub.nil _) rfl | refine ⟨_, _, rfl, ?_, ?_⟩ | apply And.intro) (by repeat' first | exact trivial | exact rfl | (rw [List.map_append]; first | done | rfl) | exact c_sub rfl (Sub.refl _) rfl | exact c_nil rfl rfl | exact c_thaw rfl rfl rfl | exact c_row rfl rfl rfl | exact c_row rfl rfl (by rw [List.map_append]; first | done | rfl) | exact c_ptr rfl rfl rfl rfl | exact Or.inl ⟨c_sub rfl (Sub.refl _) rfl, c_ptr rfl rfl rfl rfl⟩ | exact c_alt rfl rfl rfl rfl | exact c_ro rfl rfl | exact c_eo rfl rfl | exact c_sub rfl (Sub.altl _ _) rfl | exact c_sub rfl (Sub.nil _) rfl | refine ⟨_, _, rfl, ?_, ?_⟩ | apply And.intro) ⟨trivial, trivial⟩⟩
  · have hst : bStep L x.i = .inr x.i := if_neg (by simpa using h)
    have hb0 : bEnd0 L i = x.i := by rw [bEnd0, x.stop hst]; rfl
    rw [bEnd, hb0]
    repeat (first
      | refine awp_seq ?_
      | refine thenA_normal ?_
      | refine a_region ?_
      | refine awp_exit ?_
      | refine r_done ?_
      | (refine r_id ?_; first
        | refine r_ev tab_ok rfl rfl rfl rfl (by first | exact trivial | exact ⟨by omega, by omega⟩ | omega | exact ⟨by omega, by omega, by omega, by omega⟩ | exact Nat.le_of_ble_eq_true rfl) rfl ?_)
      | refine r_mro [0] (sign_ok _ _ _ hL (by omega) (by omega)) call28 rfl rfl ⟨rfl, trivial⟩ (by decide) ⟨Sub.refl _, Sub.refl _, trivial⟩ rfl rfl rfl rfl rfl rfl ?_)
    rw [Int.add_zero]
    refine awp_cond_p rfl (fun h3 => ?_) (fun h3 => ?_)
    · have hin := sg_ge (L := L) (i := x.i) (by omega)
      rw [if_pos h3]
      repeat (first
        | refine awp_seq ?_
        | refine thenA_normal ?_
        | refine a_region ?_
        | refine awp_ret ?_
        | refine r_done ?_
        | (refine r_id ?_; first
          | refine r_ev tab_ok rfl rfl rfl rfl (by first | exact trivial | exact ⟨by omega, by omega⟩ | omega | exact ⟨by omega, by omega, by omega, by omega⟩ | exact Nat.le_of_ble_eq_true rfl) rfl ?_
          | refine r_ld tab_ok rfl rfl rfl rfl rfl ?_
          | refine r_st tab_ok rfl rfl rfl rfl ?_
          | refine r_build tab_ok rfl rfl rfl rfl rfl rfl ?_
          | refine r_nilck rfl rfl rfl rfl rfl rfl rfl ?_))
      exact retM1c tab_ok (by first | exact .inl rfl | exact .inr rfl) rfl rfl rfl rfl rfl rfl rfl rfl (Sub.refl _)
    · rw [if_neg h3]
      repeat (first
        | refine awp_seq ?_
        | refine thenA_normal ?_
        | refine a_region ?_
        | refine awp_ret ?_
        | refine awp_skip ?_
        | refine r_done ?_
        | (refine r_id ?_; first
          | refine r_st tab_ok rfl rfl rfl rfl ?_
          | refine r_build tab_ok rfl rfl rfl rfl rfl rfl ?_))
      exact retM1c tab_ok (by first | exact .inl rfl | exact .inr rfl) rfl rfl rfl rfl rfl rfl rfl rfl (Sub.refl _)
end Go.Proofs.Ytogjmafjoliimaa

/- The reader: strings and urls. -/
namespace Go.Proofs.Ytogjmafjoliimaa
open Go Go.RowKit

def qStep (q : Int) (L : List Int) (i : Nat) : (List Int × Nat) ⊕ (Nat × Bool) :=
  if sg L i < 0 then .inr (i, true) else if sg L i = q then .inr (i + 1, true) else if sg L i = 10 then .inr (i, false)
  else if sg L i = 92 ∧ sg L (i + 1) < 0 then .inl ([], i + 1) else if sg L i = 92 ∧ sg L (i + 1) = 10 then .inl ([], i + 2)
  else if sg L i = 92 then .inl ([(escE L (i + 1)).1], (escE L (i + 1)).2) else .inl ([sg L i], i + 1)
theorem qStep_goes (q : Int) (L : List Int) : Goes2 L.length (qStep q L) := by
  intro i o j hi h
  unfold qStep at h
  split at h
  · cases h
  rename_i h0
  have hin := sg_ge (L := L) (i := i) (by omega)
  split at h
  · cases h
  split at h
  · cases h
  split at h
  · cases h; exact ⟨by omega, hin, by simp⟩
  split at h
  · rename_i h5
    cases h
    have := sg_ge (L := L) (i := i + 1) (by rw [show ((i + 1 : Nat) : Int) = (i : Int) + 1 from rfl, h5.2]; decide)
    exact ⟨by omega, by omega, by simp⟩
  split at h
  · cases h
    have := escE_le L (i + 1) hin
    exact ⟨by omega, this.2, by simp; omega⟩
  · cases h; exact ⟨by omega, hin, by simp⟩
def quoE (q : Int) (L : List Int) (i : Nat) : List Int × (Nat × Bool) := ((goAt L.length (qStep q L) i).1, ((goAt L.length (qStep q L) i).2).getD (0, false))
def quoF (q : Int) (L : List Int) (i : Nat) : Tk × Nat := (if (quoE q L i).2.2 = true then tkK 5 (runesBytes (quoE q L i).1) else tkK 6 ⟨#[]⟩, (quoE q L i).2.1)
set_option maxHeartbeats 2000000 in
theorem quoted_ok (q : Int) (L : List Int) (i : Nat) (hL : L.length ≤ 1099511627776) (hi : i ≤ L.length) : MCalls Try.prog 33 [rdB L i] [.ptr 0 0, iA q] [rdB L (quoF q L i).2] (tA (quoF q L i).1) := by
  refine m_start Try.func33 Try.ntmps33 rfl rfl rfl fun S w β => ?_
  repeat (first
    | refine awp_seq ?_
    | refine thenA_normal ?_
    | refine awp_block ?_
    | refine a_region ?_
    | refine r_done ?_
    | (refine r_id ?_; first
      | refine r_ev tab_ok rfl rfl rfl rfl (by first | exact trivial | exact ⟨by omega, by omega⟩ | omega | exact ⟨by omega, by omega, by omega, by omega⟩ | exact Nat.le_of_ble_eq_true rfl) rfl ?_
      | refine r_wr tab_ok rfl rfl rfl rfl rfl ?_))
  refine a_loop (σ := GS L.length (qStep q L) i) (fun x => [rdB L x.i, tB tk0]) (fun x => [(0, .ptr 0 0), (1, .val (.int .i32 q)), (4, .ptr 1 0), (5, .val (.string (runesBytes x.out)))]) (fun x => L.length - x.i) (GS.start hi) (fits_convM (by repeat' first | exact trivial | exact rfl | (rw [List.map_append]; first | done | rfl) | exact c_sub rfl (Sub.refl _) rfl | exact c_nil rfl rfl | exact c_thaw rfl rfl rfl | exact c_row rfl rfl rfl | exact c_row rfl rfl (by rw [List.map_append]; first | done | rfl) | exact c_ptr rfl rfl rfl rfl | exact Or.inl ⟨c_sub rfl (Sub.refl _) rfl, c_ptr rfl rfl rfl rfl⟩ | exact c_alt rfl rfl rfl rfl | exact c_ro rfl rfl | exact c_eo rfl rfl | exact c_sub rfl (Sub.altl _ _) rfl | exact c_sub rfl (Sub.nil _) rfl | refine ⟨_, _, rfl, ?_, ?_⟩ | apply And.intro) (by repeat' first | exact trivial | exact rfl | (rw [List.map_append]; first | done | rfl) | exact c_sub rfl (Sub.refl _) rfl | exact c_nil rfl rfl | exact c_thaw rfl rfl rfl | exact c_row rfl rfl rfl | exact c_row rfl rfl (by rw [List.map_append]; first | done | rfl) | exact c_ptr rfl rfl rfl rfl | exact Or.inl ⟨c_sub rfl (Sub.refl _) rfl, c_ptr rfl rfl rfl rfl⟩ | exact c_alt rfl rfl rfl rfl | exact c_ro rfl rfl | exact c_eo rfl rfl | exact c_sub rfl (Sub.altl _ _) rfl | exact c_sub rfl (Sub.nil _) rfl | refine ⟨_, _, rfl, ?_, ?_⟩ | apply And.intro) ⟨trivial, trivial⟩) ?_
  intro x
  have hle := x.le
  have hlen := x.len
  have hsz := runesBytes_size_le x.out
  have hs1 := runesBytes_size_le [sg L x.i]
  have hs1' : [sg L x.i].length = 1 := rfl
  have hs2 := runesBytes_size_le [(escE L (x.i + 1)).1]
  have hs2' : [(escE L (x.i + 1)).1].length = 1 := rfl
  repeat (first
    | refine awp_seq ?_
    | refine thenA_normal ?_
    | refine awp_block ?_
    | refine a_region ?_
    | refine r_done ?_
    | (refine r_id ?_; first
      | refine r_ev tab_ok rfl rfl rfl rfl (by first | exact trivial | exact ⟨by omega, by omega⟩ | omega | exact ⟨by omega, by omega, by omega, by omega⟩ | exact Nat.le_of_ble_eq_true rfl) rfl ?_)
    | refine r_mro [0] (sign_ok _ _ _ hL (by omega) (by omega)) call28 rfl rfl ⟨rfl, trivial⟩ (by decide) ⟨Sub.refl _, Sub.refl _, trivial⟩ rfl rfl rfl rfl rfl rfl ?_)
  rw [Int.add_zero]
  refine awp_cond_p rfl (fun a1 => ?_) (fun a1 => ?_)
  · have hst : qStep q L x.i = .inr (x.i, true) := by rw [qStep, if_pos a1]
    rw [quoF, quoE, x.stop hst]
    repeat (first
      | refine awp_seq ?_
      | refine thenA_normal ?_
      | refine a_region ?_
      | refine awp_ret ?_
      | refine thenA_ret ?_
      | refine blockA_ret ?_
      | refine r_done ?_
      | (refine r_id ?_; first
        | refine r_ev tab_ok rfl rfl rfl rfl (by first | exact trivial | exact ⟨by omega, by omega⟩ | omega | exact ⟨by omega, by omega, by omega, by omega⟩ | exact Nat.le_of_ble_eq_true rfl) rfl ?_
        | refine r_st tab_ok rfl rfl rfl rfl ?_
        | refine r_build tab_ok rfl rfl rfl rfl rfl rfl ?_))
    exact retM1c tab_ok (by first | exact .inl rfl | exact .inr rfl) rfl rfl rfl rfl rfl rfl rfl rfl (Sub.refl _)
  have hin := sg_ge (L := L) (i := x.i) (by omega)
  repeat (first
    | refine awp_seq ?_
    | refine thenA_normal ?_
    | refine a_region ?_
    | refine r_done ?_
    | (refine r_id ?_; first
      | refine r_ev tab_ok rfl rfl rfl rfl (by first | exact trivial | exact ⟨by omega, by omega⟩ | omega | exact ⟨by omega, by omega, by omega, by omega⟩ | exact Nat.le_of_ble_eq_true rfl) rfl ?_))
  refine awp_cond_p rfl (fun a2 => ?_) (fun a2 => ?_)
  · have hst : qStep q L x.i = .inr (x.i + 1, true) := by rw [qStep, if_neg a1, if_pos a2]
    rw [quoF, quoE, x.stop hst]
    repeat (first
      | refine awp_seq ?_
      | refine thenA_normal ?_
      | refine a_region ?_
      | refine awp_ret ?_
      | refine thenA_ret ?_
      | refine blockA_ret ?_
      | refine r_done ?_
      | (refine r_id ?_; first
        | refine r_ev tab_ok rfl rfl rfl rfl (by first | exact trivial | exact ⟨by omega, by omega⟩ | omega | exact ⟨by omega, by omega, by omega, by omega⟩ | exact Nat.le_of_ble_eq_true rfl) rfl ?_
        | refine r_ld tab_ok rfl rfl rfl rfl rfl ?_
        | refine r_st tab_ok rfl rfl rfl rfl ?_
        | refine r_build tab_ok rfl rfl rfl rfl rfl rfl ?_
        | refine r_nilck rfl rfl rfl rfl rfl rfl rfl ?_))
    exact retM1c tab_ok (by first | exact .inl rfl | exact .inr rfl) rfl rfl rfl rfl rfl rfl rfl rfl (Sub.refl _)
  repeat (first
    | refine awp_seq ?_
    | refine thenA_normal ?_
    | refine a_region ?_
    | refine r_done ?_
    | (refine r_id ?_; first
      | refine r_ev tab_ok rfl rfl rfl rfl (by first | exact trivial | exact ⟨by omega, by omega⟩ | omega | exact ⟨by omega, by omega, by omega, by omega⟩ | exact Nat.le_of_ble_eq_true rfl) rfl ?_))
  refine awp_cond_p rfl (fun a3 => ?_) (fun a3 => ?_)
  · have hst : qStep q L x.i = .inr (x.i, false) := by rw [qStep, if_neg a1, if_neg a2, if_pos a3]
    rw [quoF, quoE, x.stop hst]
    repeat (first
      | refine awp_seq ?_
      | refine thenA_normal ?_
      | refine a_region ?_
      | refine awp_ret ?_
      | refine thenA_ret ?_
      | refine blockA_ret ?_
      | refine r_done ?_
      | (refine r_id ?_; first
        | refine r_st tab_ok rfl rfl rfl rfl ?_
        | refine r_build tab_ok rfl rfl rfl rfl rfl rfl ?_))
    exact retM1c tab_ok (by first | exact .inl rfl | exact .inr rfl) rfl rfl rfl rfl rfl rfl rfl rfl (Sub.refl _)
  repeat (first
    | refine awp_seq ?_
    | refine thenA_normal ?_
    | refine a_region ?_
    | refine r_done ?_
    | (refine r_id ?_; first
      | refine r_ev tab_ok rfl rfl rfl rfl (by first | exact trivial | exact ⟨by omega, by omega⟩ | omega | exact ⟨by omega, by omega, by omega, by omega⟩ | exact Nat.le_of_ble_eq_true rfl) rfl ?_
      | refine r_ev_cnd tab_ok rfl rfl rfl rfl rfl rfl (by first | exact fun _ => rfl | exact cs1 | exact cs2 | exact cs3) (by first | exact fun _ => trivial | (intro h; simp at h; first | exact ⟨by omega, by omega⟩ | omega)) rfl ?_
      | refine r_and rfl rfl rfl rfl rfl rfl rfl rfl ?_)
    | refine r_mro_cnd [0] (fun _ => sign_ok _ _ _ hL (by omega) (by omega)) call28 rfl rfl rfl rfl (by first | exact fun _ => rfl | exact cs1 | exact cs2 | exact cs3) ⟨rfl, trivial⟩ (by decide) ⟨Sub.refl _, Sub.refl _, trivial⟩ rfl rfl rfl rfl rfl rfl ?_)
  refine awp_cond rfl (fun a4 => ?_) (fun a4 => ?_)
  · have hst : qStep q L x.i = .inl ([], x.i + 1) := by rw [qStep, if_neg a1, if_neg a2, if_neg a3, if_pos (by simpa using a4)]
    repeat (first
      | refine thenA_normal ?_
      | refine a_region ?_
      | refine blockA_normal ?_
      | refine r_done ?_
      | (refine r_id ?_; first
        | refine r_ev tab_ok rfl rfl rfl rfl (by first | exact trivial | exact ⟨by omega, by omega⟩ | omega | exact ⟨by omega, by omega, by omega, by omega⟩ | exact Nat.le_of_ble_eq_true rfl) rfl ?_
        | refine r_ld tab_ok rfl rfl rfl rfl rfl ?_
        | refine r_st tab_ok rfl rfl rfl rfl ?_
        | refine r_nilck rfl rfl rfl rfl rfl rfl rfl ?_))
    refine ⟨x.next (qStep_goes q L) hst, by dsimp only [GS.next]; omega, ?_⟩
    dsimp only [GS.next]
    rw [List.append_nil]
    exact fits_convM (by repeat' first | exact trivial | exact rfl | (rw [List.map_append]; first | done | rfl) | exact c_sub rfl (Sub.refl _) rfl | exact c_nil rfl rfl | exact c_thaw rfl rfl rfl | exact c_row rfl rfl rfl | exact c_row rfl rfl (by rw [List.map_append]; first | done | rfl) | exact c_ptr rfl rfl rfl rfl | exact Or.inl ⟨c_sub rfl (Sub.refl _) rfl, c_ptr rfl rfl rfl rfl⟩ | exact c_alt rfl rfl rfl rfl | exact c_ro rfl rfl | exact c_eo rfl rfl | exact c_sub rfl (Sub.altl _ _) rfl | exact c_sub rfl (Sub.nil _) rfl | refine ⟨_, _, rfl, ?_, ?_⟩ | apply And.intro) (by repeat' first | exact trivial | exact rfl | (rw [List.map_append]; first | done | rfl) | exact c_sub rfl (Sub.refl _) rfl | exact c_nil rfl rfl | exact c_thaw rfl rfl rfl | exact c_row rfl rfl rfl | exact c_row rfl rfl (by rw [List.map_append]; first | done | rfl) | exact c_ptr rfl rfl rfl rfl | exact Or.inl ⟨c_sub rfl (Sub.refl _) rfl, c_ptr rfl rfl rfl rfl⟩ | exact c_alt rfl rfl rfl rfl | exact c_ro rfl rfl | exact c_eo rfl rfl | exact c_sub rfl (Sub.altl _ _) rfl | exact c_sub rfl (Sub.nil _) rfl | refine ⟨_, _, rfl, ?_, ?_⟩ | apply And.intro) ⟨trivial, trivial⟩
  have a4' : ¬ (sg L x.i = 92 ∧ sg L (x.i + 1) < 0) := by simpa using a4
  repeat (first
    | refine awp_seq ?_
    | refine thenA_normal ?_
    | refine a_region ?_
    | refine r_done ?_
    | (refine r_id ?_; first
      | refine r_ev tab_ok rfl rfl rfl rfl (by first | exact trivial | exact ⟨by omega, by omega⟩ | omega | exact ⟨by omega, by omega, by omega, by omega⟩ | exact Nat.le_of_ble_eq_true rfl) rfl ?_
      | refine r_ev_cnd tab_ok rfl rfl rfl rfl rfl rfl (by first | exact fun _ => rfl | exact cs1 | exact cs2 | exact cs3) (by first | exact fun _ => trivial | (intro h; simp at h; first | exact ⟨by omega, by omega⟩ | omega)) rfl ?_
      | refine r_and rfl rfl rfl rfl rfl rfl rfl rfl ?_)
    | refine r_mro_cnd [0] (fun _ => sign_ok _ _ _ hL (by omega) (by omega)) call28 rfl rfl rfl rfl (by first | exact fun _ => rfl | exact cs1 | exact cs2 | exact cs3) ⟨rfl, trivial⟩ (by decide) ⟨Sub.refl _, Sub.refl _, trivial⟩ rfl rfl rfl rfl rfl rfl ?_)
  refine awp_cond rfl (fun a5 => ?_) (fun a5 => ?_)
  · have a5' : sg L x.i = 92 ∧ sg L (x.i + 1) = 10 := by simpa using a5
    have hst : qStep q L x.i = .inl ([], x.i + 2) := by rw [qStep, if_neg a1, if_neg a2, if_neg a3, if_neg a4', if_pos a5']
    have hg := qStep_goes q L _ _ _ hle hst
    repeat (first
      | refine thenA_normal ?_
      | refine a_region ?_
      | refine blockA_normal ?_
      | refine r_done ?_
      | (refine r_id ?_; first
        | refine r_ev tab_ok rfl rfl rfl rfl (by first | exact trivial | exact ⟨by omega, by omega⟩ | omega | exact ⟨by omega, by omega, by omega, by omega⟩ | exact Nat.le_of_ble_eq_true rfl) rfl ?_
        | refine r_ld tab_ok rfl rfl rfl rfl rfl ?_
        | refine r_st tab_ok rfl rfl rfl rfl ?_
        | refine r_nilck rfl rfl rfl rfl rfl rfl rfl ?_))
    refine ⟨x.next (qStep_goes q L) hst, by dsimp only [GS.next]; omega, ?_⟩
    dsimp only [GS.next]
    rw [List.append_nil]
    exact fits_convM (by repeat' first | exact trivial | exact rfl | (rw [List.map_append]; first | done | rfl) | exact c_sub rfl (Sub.refl _) rfl | exact c_nil rfl rfl | exact c_thaw rfl rfl rfl | exact c_row rfl rfl rfl | exact c_row rfl rfl (by rw [List.map_append]; first | done | rfl) | exact c_ptr rfl rfl rfl rfl | exact Or.inl ⟨c_sub rfl (Sub.refl _) rfl, c_ptr rfl rfl rfl rfl⟩ | exact c_alt rfl rfl rfl rfl | exact c_ro rfl rfl | exact c_eo rfl rfl | exact c_sub rfl (Sub.altl _ _) rfl | exact c_sub rfl (Sub.nil _) rfl | refine ⟨_, _, rfl, ?_, ?_⟩ | apply And.intro) (by repeat' first | exact trivial | exact rfl | (rw [List.map_append]; first | done | rfl) | exact c_sub rfl (Sub.refl _) rfl | exact c_nil rfl rfl | exact c_thaw rfl rfl rfl | exact c_row rfl rfl rfl | exact c_row rfl rfl (by rw [List.map_append]; first | done | rfl) | exact c_ptr rfl rfl rfl rfl | exact Or.inl ⟨c_sub rfl (Sub.refl _) rfl, c_ptr rfl rfl rfl rfl⟩ | exact c_alt rfl rfl rfl rfl | exact c_ro rfl rfl | exact c_eo rfl rfl | exact c_sub rfl (Sub.altl _ _) rfl | exact c_sub rfl (Sub.nil _) rfl | refine ⟨_, _, rfl, ?_, ?_⟩ | apply And.intro) ⟨trivial, trivial⟩
  have a5' : ¬ (sg L x.i = 92 ∧ sg L (x.i + 1) = 10) := by simpa using a5
  repeat (first
    | refine awp_seq ?_
    | refine thenA_normal ?_
    | refine a_region ?_
    | refine r_done ?_
    | (refine r_id ?_; first
      | refine r_ev tab_ok rfl rfl rfl rfl (by first | exact trivial | exact ⟨by omega, by omega⟩ | omega | exact ⟨by omega, by omega, by omega, by omega⟩ | exact Nat.le_of_ble_eq_true rfl) rfl ?_))
  refine awp_cond_p rfl (fun a6 => ?_) (fun a6 => ?_)
  · have hst : qStep q L x.i = .inl ([(escE L (x.i + 1)).1], (escE L (x.i + 1)).2) := by rw [qStep, if_neg a1, if_neg a2, if_neg a3, if_neg a4', if_neg a5', if_pos a6]
    have hg := qStep_goes q L _ _ _ hle hst
    repeat (first
      | refine awp_seq ?_
      | refine thenA_normal ?_
      | refine a_region ?_
      | refine r_done ?_
      | (refine r_id ?_; first
        | refine r_ev tab_ok rfl rfl rfl rfl (by first | exact trivial | exact ⟨by omega, by omega⟩ | omega | exact ⟨by omega, by omega, by omega, by omega⟩ | exact Nat.le_of_ble_eq_true rfl) rfl ?_
        | refine r_ld tab_ok rfl rfl rfl rfl rfl ?_
        | refine r_st tab_ok rfl rfl rfl rfl ?_
        | refine r_nilck rfl rfl rfl rfl rfl rfl rfl ?_))
    refine r_mcall [0] (escaped_ok L (x.i + 1) hL (by omega)) call43 rfl rfl ⟨rfl, trivial⟩ (by decide) ⟨Sub.refl _, trivial⟩ rfl rfl rfl rfl rfl rfl rfl ?_
    repeat (first
      | refine thenA_normal ?_
      | refine blockA_normal ?_
      | refine r_done ?_
      | (refine r_id ?_; first
        | refine r_ev tab_ok rfl rfl rfl rfl (by first | exact trivial | exact ⟨by omega, by omega⟩ | omega | exact ⟨by omega, by omega, by omega, by omega⟩ | exact Nat.le_of_ble_eq_true rfl) rfl ?_)
      | refine r_call (refPut _) call31 rfl rfl ⟨Sub.refl _, trivial⟩ rfl rfl rfl rfl ?_)
    refine ⟨x.next (qStep_goes q L) hst, by dsimp only [GS.next]; omega, ?_⟩
    dsimp only [GS.next]
    rw [runes_append]
    exact fits_convM (by repeat' first | exact trivial | exact rfl | (rw [List.map_append]; first | done | rfl) | exact c_sub rfl (Sub.refl _) rfl | exact c_nil rfl rfl | exact c_thaw rfl rfl rfl | exact c_row rfl rfl rfl | exact c_row rfl rfl (by rw [List.map_append]; first | done | rfl) | exact c_ptr rfl rfl rfl rfl | exact Or.inl ⟨c_sub rfl (Sub.refl _) rfl, c_ptr rfl rfl rfl rfl⟩ | exact c_alt rfl rfl rfl rfl | exact c_ro rfl rfl | exact c_eo rfl rfl | exact c_sub rfl (Sub.altl _ _) rfl | exact c_sub rfl (Sub.nil _) rfl | refine ⟨_, _, rfl, ?_, ?_⟩ | apply And.intro) (by repeat' first | exact trivial | exact rfl | (rw [List.map_append]; first | done | rfl) | exact c_sub rfl (Sub.refl _) rfl | exact c_nil rfl rfl | exact c_thaw rfl rfl rfl | exact c_row rfl rfl rfl | exact c_row rfl rfl (by rw [List.map_append]; first | done | rfl) | exact c_ptr rfl rfl rfl rfl | exact Or.inl ⟨c_sub rfl (Sub.refl _) rfl, c_ptr rfl rfl rfl rfl⟩ | exact c_alt rfl rfl rfl rfl | exact c_ro rfl rfl | exact c_eo rfl rfl | exact c_sub rfl (Sub.altl _ _) rfl | exact c_sub rfl (Sub.nil _) rfl | refine ⟨_, _, rfl, ?_, ?_⟩ | apply And.intro) ⟨trivial, trivial⟩
  · have hst : qStep q L x.i = .inl ([sg L x.i], x.i + 1) := by rw [qStep, if_neg a1, if_neg a2, if_neg a3, if_neg a4', if_neg a5', if_neg a6]
    repeat (first
      | refine awp_seq ?_
      | refine thenA_normal ?_
      | refine a_region ?_
      | refine blockA_normal ?_
      | refine r_done ?_
      | (refine r_id ?_; first
        | refine r_ev tab_ok rfl rfl rfl rfl (by first | exact trivial | exact ⟨by omega, by omega⟩ | omega | exact ⟨by omega, by omega, by omega, by omega⟩ | exact Nat.le_of_ble_eq_true rfl) rfl ?_
        | refine r_ld tab_ok rfl rfl rfl rfl rfl ?_
        | refine r_st tab_ok rfl rfl rfl rfl ?_
        | refine r_nilck rfl rfl rfl rfl rfl rfl rfl ?_)
      | refine r_call (refPut _) call31 rfl rfl ⟨Sub.refl _, trivial⟩ rfl rfl rfl rfl ?_)
    refine ⟨x.next (qStep_goes q L) hst, by dsimp only [GS.next]; omega, ?_⟩
    dsimp only [GS.next]
    rw [runes_append]
    exact fits_convM (by repeat' first | exact trivial | exact rfl | (rw [List.map_append]; first | done | rfl) | exact c_sub rfl (Sub.refl _) rfl | exact c_nil rfl rfl | exact c_thaw rfl rfl rfl | exact c_row rfl rfl rfl | exact c_row rfl rfl (by rw [List.map_append]; first | done | rfl) | exact c_ptr rfl rfl rfl rfl | exact Or.inl ⟨c_sub rfl (Sub.refl _) rfl, c_ptr rfl rfl rfl rfl⟩ | exact c_alt rfl rfl rfl rfl | exact c_ro rfl rfl | exact c_eo rfl rfl | exact c_sub rfl (Sub.altl _ _) rfl | exact c_sub rfl (Sub.nil _) rfl | refine ⟨_, _, rfl, ?_, ?_⟩ | apply And.intro) (by repeat' first | exact trivial | exact rfl | (rw [List.map_append]; first | done | rfl) | exact c_sub rfl (Sub.refl _) rfl | exact c_nil rfl rfl | exact c_thaw rfl rfl rfl | exact c_row rfl rfl rfl | exact c_row rfl rfl (by rw [List.map_append]; first | done | rfl) | exact c_ptr rfl rfl rfl rfl | exact Or.inl ⟨c_sub rfl (Sub.refl _) rfl, c_ptr rfl rfl rfl rfl⟩ | exact c_alt rfl rfl rfl rfl | exact c_ro rfl rfl | exact c_eo rfl rfl | exact c_sub rfl (Sub.altl _ _) rfl | exact c_sub rfl (Sub.nil _) rfl | refine ⟨_, _, rfl, ?_, ?_⟩ | apply And.intro) ⟨trivial, trivial⟩
end Go.Proofs.Ytogjmafjoliimaa

/- The reader: urls. -/
namespace Go.Proofs.Ytogjmafjoliimaa
open Go Go.RowKit

def uStep (L : List Int) (i : Nat) : (List Int × Nat) ⊕ (Nat × Bool) :=
  if sg L i < 0 ∨ sg L i = 41 then .inr (if sg L i = 41 then i + 1 else i, true)
  else if whiteF (sg L i) = true then (if sg L (wEnd L i) < 0 ∨ sg L (wEnd L i) = 41 then .inl ([], wEnd L i) else .inr (bEnd L (wEnd L i), false))
  else if (badF (sg L i) || (decide (sg L i = 92) && !escF L i)) = true then .inr (bEnd L i, false)
  else if sg L i = 92 then .inl ([(escE L (i + 1)).1], (escE L (i + 1)).2) else .inl ([sg L i], i + 1)
theorem uStep_goes (L : List Int) : Goes2 L.length (uStep L) := by
  intro i o j hi h
  unfold uStep at h
  split at h
  · cases h
  rename_i h0
  have hin := sg_ge (L := L) (i := i) (by omega)
  split at h
  · rename_i hw
    have := wEnd_le L hi
    have := wEnd_gt L hi hw
    split at h
    · cases h; exact ⟨by omega, by omega, by simp; omega⟩
    · cases h
  split at h
  · cases h
  split at h
  · cases h
    have := escE_le L (i + 1) hin
    exact ⟨by omega, this.2, by simp; omega⟩
  · cases h; exact ⟨by omega, hin, by simp⟩
def urlE (L : List Int) (i : Nat) : List Int × (Nat × Bool) := ((goAt L.length (uStep L) (wEnd L i)).1, ((goAt L.length (uStep L) (wEnd L i)).2).getD (0, false))
def urlF (L : List Int) (i : Nat) : Tk × Nat := (if (urlE L i).2.2 = true then tkK 7 (runesBytes (urlE L i).1) else tkK 8 ⟨#[]⟩, (urlE L i).2.1)
set_option maxHeartbeats 2000000 in
theorem url_ok (L : List Int) (i : Nat) (hL : L.length ≤ 1099511627776) (hi : i ≤ L.length) : MCalls Try.prog 48 [rdB L i] [.ptr 0 0] [rdB L (urlF L i).2] (tA (urlF L i).1) := by
  refine m_start Try.func48 Try.ntmps48 rfl rfl rfl fun S w β => ?_
  have hwe := wEnd_le L hi
  repeat (first
    | refine awp_seq ?_
    | refine awp_block ?_
    | refine a_region ?_
    | refine r_done ?_
    | (refine r_id ?_; first
      | refine r_wr tab_ok rfl rfl rfl rfl rfl ?_))
  refine a_loop (σ := GS L.length (wStep L) i) (fun x => [rdB L x.i, tB tk0]) (fun x => [(0, .ptr 0 0), (2, .ptr 1 0)]) (fun x => L.length - x.i) (GS.start hi) (fits_convM (by repeat' first | exact trivial | exact rfl | (rw [List.map_append]; first | done | rfl) | exact c_sub rfl (Sub.refl _) rfl | exact c_nil rfl rfl | exact c_thaw rfl rfl rfl | exact c_row rfl rfl rfl | exact c_row rfl rfl (by rw [List.map_append]; first | done | rfl) | exact c_ptr rfl rfl rfl rfl | exact Or.inl ⟨c_sub rfl (Sub.refl _) rfl, c_ptr rfl rfl rfl rfl⟩ | exact c_alt rfl rfl rfl rfl | exact c_ro rfl rfl | exact c_eo rfl rfl | exact c_sub rfl (Sub.altl _ _) rfl | exact c_sub rfl (Sub.nil _) rfl | refine ⟨_, _, rfl, ?_, ?_⟩ | apply And.intro) (by repeat' first | exact trivial | exact rfl | (rw [List.map_append]; first | done | rfl) | exact c_sub rfl (Sub.refl _) rfl | exact c_nil rfl rfl | exact c_thaw rfl rfl rfl | exact c_row rfl rfl rfl | exact c_row rfl rfl (by rw [List.map_append]; first | done | rfl) | exact c_ptr rfl rfl rfl rfl | exact Or.inl ⟨c_sub rfl (Sub.refl _) rfl, c_ptr rfl rfl rfl rfl⟩ | exact c_alt rfl rfl rfl rfl | exact c_ro rfl rfl | exact c_eo rfl rfl | exact c_sub rfl (Sub.altl _ _) rfl | exact c_sub rfl (Sub.nil _) rfl | refine ⟨_, _, rfl, ?_, ?_⟩ | apply And.intro) ⟨trivial, trivial⟩) ?_
  intro x
  have hle := x.le
  repeat (first
    | refine awp_seq ?_
    | refine thenA_normal ?_
    | refine a_region ?_
    | refine r_done ?_
    | (refine r_id ?_; first
      | refine r_ev tab_ok rfl rfl rfl rfl (by first | exact trivial | exact ⟨by omega, by omega⟩ | omega | exact ⟨by omega, by omega, by omega, by omega⟩ | exact Nat.le_of_ble_eq_true rfl) rfl ?_)
    | refine r_mro [0] (sign_ok _ _ _ hL (by omega) (by omega)) call28 rfl rfl ⟨rfl, trivial⟩ (by decide) ⟨Sub.refl _, Sub.refl _, trivial⟩ rfl rfl rfl rfl rfl rfl ?_
    | refine r_call (refWhite _) call32 rfl rfl ⟨Sub.refl _, trivial⟩ rfl rfl rfl rfl ?_)
  rw [Int.add_zero]
  refine awp_cond rfl (fun h => ?_) (fun h => ?_)
  · have hst : wStep L x.i = .inl ([], x.i + 1) := if_pos h
    have hin := white_in h
    repeat (first
      | refine thenA_normal ?_
      | refine awp_block ?_
      | refine a_region ?_
      | refine blockA_normal ?_
      | refine awp_skip ?_
      | refine r_done ?_
      | (refine r_id ?_; first
        | refine r_ev tab_ok rfl rfl rfl rfl (by first | exact trivial | exact ⟨by omega, by omega⟩ | omega | exact ⟨by omega, by omega, by omega, by omega⟩ | exact Nat.le_of_ble_eq_true rfl) rfl ?_
        | refine r_ld tab_ok rfl rfl rfl rfl rfl ?_
        | refine r_st tab_ok rfl rfl rfl rfl ?_
        | refine r_nilck rfl rfl rfl rfl rfl rfl rfl ?_))
    exact ⟨x.next (wStep_goes L) hst, by dsimp only [GS.next]; omega, fits_convM (by repeat' first | exact trivial | exact rfl | (rw [List.map_append]; first | done | rfl) | exact c_sub rfl (Sub.refl _) rfl | exact c_nil rfl rfl | exact c_thaw rfl rfl rfl | exact c_row rfl rfl rfl | exact c_row rfl rfl (by rw [List.map_append]; first | done | rfl) | exact c_ptr rfl rfl rfl rfl | exact Or.inl ⟨c_sub rfl (Sub.refl _) rfl, c_ptr rfl rfl rfl rfl⟩ | exact c_alt rfl rfl rfl rfl | exact c_ro rfl rfl | exact c_eo rfl rfl | exact c_sub rfl (Sub.altl _ _) rfl | exact c_sub rfl (Sub.nil _) rfl | refine ⟨_, _, rfl, ?_, ?_⟩ | apply And.intro) (by repeat' first | exact trivial | exact rfl | (rw [List.map_append]; first | done | rfl) | exact c_sub rfl (Sub.refl _) rfl | exact c_nil rfl rfl | exact c_thaw rfl rfl rfl | exact c_row rfl rfl rfl | exact c_row rfl rfl (by rw [List.map_append]; first | done | rfl) | exact c_ptr rfl rfl rfl rfl | exact Or.inl ⟨c_sub rfl (Sub.refl _) rfl, c_ptr rfl rfl rfl rfl⟩ | exact c_alt rfl rfl rfl rfl | exact c_ro rfl rfl | exact c_eo rfl rfl | exact c_sub rfl (Sub.altl _ _) rfl | exact c_sub rfl (Sub.nil _) rfl | refine ⟨_, _, rfl, ?_, ?_⟩ | apply And.intro) ⟨trivial, trivial⟩⟩
  have hst : wStep L x.i = .inr x.i := if_neg (by rw [h]; decide)
  have hj0 : wEnd L i = x.i := by rw [wEnd, x.stop hst]; rfl
  rw [urlF, urlE]
  generalize hj : wEnd L i = j0 at hwe hj0
  subst hj0
  clear hst h
  generalize x.i = j0 at *
  repeat (first
    | refine awp_seq ?_
    | refine thenA_normal ?_
    | refine awp_block ?_
    | refine a_region ?_
    | refine awp_exit ?_
    | refine r_done ?_
    | (refine r_id ?_; first
      | refine r_ev tab_ok rfl rfl rfl rfl (by first | exact trivial | exact ⟨by omega, by omega⟩ | omega | exact ⟨by omega, by omega, by omega, by omega⟩ | exact Nat.le_of_ble_eq_true rfl) rfl ?_))
  refine a_loop (σ := GS L.length (uStep L) j0) (fun x => [rdB L x.i, tB tk0]) (fun x => [(0, .ptr 0 0), (2, .ptr 1 0), (3, .val (.string (runesBytes x.out)))]) (fun x => L.length - x.i) (GS.start hle) (fits_convM (by repeat' first | exact trivial | exact rfl | (rw [List.map_append]; first | done | rfl) | exact c_sub rfl (Sub.refl _) rfl | exact c_nil rfl rfl | exact c_thaw rfl rfl rfl | exact c_row rfl rfl rfl | exact c_row rfl rfl (by rw [List.map_append]; first | done | rfl) | exact c_ptr rfl rfl rfl rfl | exact Or.inl ⟨c_sub rfl (Sub.refl _) rfl, c_ptr rfl rfl rfl rfl⟩ | exact c_alt rfl rfl rfl rfl | exact c_ro rfl rfl | exact c_eo rfl rfl | exact c_sub rfl (Sub.altl _ _) rfl | exact c_sub rfl (Sub.nil _) rfl | refine ⟨_, _, rfl, ?_, ?_⟩ | apply And.intro) (by repeat' first | exact trivial | exact rfl | (rw [List.map_append]; first | done | rfl) | exact c_sub rfl (Sub.refl _) rfl | exact c_nil rfl rfl | exact c_thaw rfl rfl rfl | exact c_row rfl rfl rfl | exact c_row rfl rfl (by rw [List.map_append]; first | done | rfl) | exact c_ptr rfl rfl rfl rfl | exact Or.inl ⟨c_sub rfl (Sub.refl _) rfl, c_ptr rfl rfl rfl rfl⟩ | exact c_alt rfl rfl rfl rfl | exact c_ro rfl rfl | exact c_eo rfl rfl | exact c_sub rfl (Sub.altl _ _) rfl | exact c_sub rfl (Sub.nil _) rfl | refine ⟨_, _, rfl, ?_, ?_⟩ | apply And.intro) ⟨trivial, trivial⟩) ?_
  clear x
  intro x
  have hle := x.le
  have hlen := x.len
  have hsz := runesBytes_size_le x.out
  have hs1 := runesBytes_size_le [sg L x.i]
  have hs1' : [sg L x.i].length = 1 := rfl
  have hs2 := runesBytes_size_le [(escE L (x.i + 1)).1]
  have hs2' : [(escE L (x.i + 1)).1].length = 1 := rfl
  repeat (first
    | refine awp_seq ?_
    | refine thenA_normal ?_
    | refine awp_block ?_
    | refine a_region ?_
    | refine r_done ?_
    | (refine r_id ?_; first
      | refine r_ev tab_ok rfl rfl rfl rfl (by first | exact trivial | exact ⟨by omega, by omega⟩ | omega | exact ⟨by omega, by omega, by omega, by omega⟩ | exact Nat.le_of_ble_eq_true rfl) rfl ?_
      | refine r_ev_cnd tab_ok rfl rfl rfl rfl rfl rfl (by first | exact fun _ => rfl | exact cs1 | exact cs2 | exact cs3) (by first | exact fun _ => trivial | (intro h; simp at h; first | exact ⟨by omega, by omega⟩ | omega)) rfl ?_
      | refine r_or rfl rfl rfl rfl rfl rfl rfl rfl ?_)
    | refine r_mro [0] (sign_ok _ _ _ hL (by omega) (by omega)) call28 rfl rfl ⟨rfl, trivial⟩ (by decide) ⟨Sub.refl _, Sub.refl _, trivial⟩ rfl rfl rfl rfl rfl rfl ?_)
  rw [Int.add_zero]
  refine awp_cond rfl (fun a1 => ?_) (fun a1 => ?_)
  · have a1' : sg L x.i < 0 ∨ sg L x.i = 41 := by simpa using a1
    have hst : uStep L x.i = .inr (if sg L x.i = 41 then x.i + 1 else x.i, true) := by rw [uStep, if_pos a1']
    rw [x.stop hst]
    repeat (first
      | refine awp_seq ?_
      | refine thenA_normal ?_
      | refine a_region ?_
      | refine r_done ?_
      | (refine r_id ?_; first
        | refine r_ev tab_ok rfl rfl rfl rfl (by first | exact trivial | exact ⟨by omega, by omega⟩ | omega | exact ⟨by omega, by omega, by omega, by omega⟩ | exact Nat.le_of_ble_eq_true rfl) rfl ?_))
    refine awp_cond_p rfl (fun a2 => ?_) (fun a2 => ?_)
    · have hin := sg_ge (L := L) (i := x.i) (by omega)
      rw [if_pos a2]
      repeat (first
        | refine awp_seq ?_
        | refine thenA_normal ?_
        | refine a_region ?_
        | refine awp_ret ?_
        | refine thenA_ret ?_
        | refine blockA_ret ?_
        | refine r_done ?_
        | (refine r_id ?_; first
          | refine r_ev tab_ok rfl rfl rfl rfl (by first | exact trivial | exact ⟨by omega, by omega⟩ | omega | exact ⟨by omega, by omega, by omega, by omega⟩ | exact Nat.le_of_ble_eq_true rfl) rfl ?_
          | refine r_ld tab_ok rfl rfl rfl rfl rfl ?_
          | refine r_st tab_ok rfl rfl rfl rfl ?_
          | refine r_build tab_ok rfl rfl rfl rfl rfl rfl ?_
          | refine r_nilck rfl rfl rfl rfl rfl rfl rfl ?_))
      exact retM1c tab_ok (by first | exact .inl rfl | exact .inr rfl) rfl rfl rfl rfl rfl rfl rfl rfl (Sub.refl _)
    · rw [if_neg a2]
      repeat (first
        | refine awp_seq ?_
        | refine thenA_normal ?_
        | refine a_region ?_
        | refine awp_ret ?_
        | refine thenA_ret ?_
        | refine blockA_ret ?_
        | refine awp_skip ?_
        | refine r_done ?_
        | (refine r_id ?_; first
          | refine r_ev tab_ok rfl rfl rfl rfl (by first | exact trivial | exact ⟨by omega, by omega⟩ | omega | exact ⟨by omega, by omega, by omega, by omega⟩ | exact Nat.le_of_ble_eq_true rfl) rfl ?_
          | refine r_st tab_ok rfl rfl rfl rfl ?_
          | refine r_build tab_ok rfl rfl rfl rfl rfl rfl ?_))
      exact retM1c tab_ok (by first | exact .inl rfl | exact .inr rfl) rfl rfl rfl rfl rfl rfl rfl rfl (Sub.refl _)
  have a1' : ¬ (sg L x.i < 0 ∨ sg L x.i = 41) := by
    simp only [Bool.or_eq_false_iff, decide_eq_false_iff_not] at a1
    omega
  have hin := sg_ge (L := L) (i := x.i) (by omega)
  repeat (first
    | refine awp_seq ?_
    | refine thenA_normal ?_
    | refine a_region ?_
    | refine r_done ?_
    | (refine r_id ?_; first
      | refine r_ev tab_ok rfl rfl rfl rfl (by first | exact trivial | exact ⟨by omega, by omega⟩ | omega | exact ⟨by omega, by omega, by omega, by omega⟩ | exact Nat.le_of_ble_eq_true rfl) rfl ?_)
    | refine r_call (refWhite _) call32 rfl rfl ⟨Sub.refl _, trivial⟩ rfl rfl rfl rfl ?_)
  refine awp_cond rfl (fun a2 => ?_) (fun a2 => ?_)
  · have hwx := wEnd_le L hle
    repeat (first
      | refine awp_seq ?_
      | refine awp_block ?_)
    refine a_loop (σ := GS L.length (wStep L) x.i) (fun y => [rdB L y.i, tB tk0]) (fun y => [(0, .ptr 0 0), (2, .ptr 1 0), (3, .val (.string (runesBytes x.out)))]) (fun y => L.length - y.i) (GS.start hle) (fits_convM (by repeat' first | exact trivial | exact rfl | (rw [List.map_append]; first | done | rfl) | exact c_sub rfl (Sub.refl _) rfl | exact c_nil rfl rfl | exact c_thaw rfl rfl rfl | exact c_row rfl rfl rfl | exact c_row rfl rfl (by rw [List.map_append]; first | done | rfl) | exact c_ptr rfl rfl rfl rfl | exact Or.inl ⟨c_sub rfl (Sub.refl _) rfl, c_ptr rfl rfl rfl rfl⟩ | exact c_alt rfl rfl rfl rfl | exact c_ro rfl rfl | exact c_eo rfl rfl | exact c_sub rfl (Sub.altl _ _) rfl | exact c_sub rfl (Sub.nil _) rfl | refine ⟨_, _, rfl, ?_, ?_⟩ | apply And.intro) (by repeat' first | exact trivial | exact rfl | (rw [List.map_append]; first | done | rfl) | exact c_sub rfl (Sub.refl _) rfl | exact c_nil rfl rfl | exact c_thaw rfl rfl rfl | exact c_row rfl rfl rfl | exact c_row rfl rfl (by rw [List.map_append]; first | done | rfl) | exact c_ptr rfl rfl rfl rfl | exact Or.inl ⟨c_sub rfl (Sub.refl _) rfl, c_ptr rfl rfl rfl rfl⟩ | exact c_alt rfl rfl rfl rfl | exact c_ro rfl rfl | exact c_eo rfl rfl | exact c_sub rfl (Sub.altl _ _) rfl | exact c_sub rfl (Sub.nil _) rfl | refine ⟨_, _, rfl, ?_, ?_⟩ | apply And.intro) ⟨trivial, trivial⟩) ?_
    intro y
    have hyle := y.le
    repeat (first
      | refine awp_seq ?_
      | refine thenA_normal ?_
      | refine a_region ?_
      | refine r_done ?_
      | (refine r_id ?_; first
        | refine r_ev tab_ok rfl rfl rfl rfl (by first | exact trivial | exact ⟨by omega, by omega⟩ | omega | exact ⟨by omega, by omega, by omega, by omega⟩ | exact Nat.le_of_ble_eq_true rfl) rfl ?_)
      | refine r_mro [0] (sign_ok _ _ _ hL (by omega) (by omega)) call28 rfl rfl ⟨rfl, trivial⟩ (by decide) ⟨Sub.refl _, Sub.refl _, trivial⟩ rfl rfl rfl rfl rfl rfl ?_
      | refine r_call (refWhite _) call32 rfl rfl ⟨Sub.refl _, trivial⟩ rfl rfl rfl rfl ?_)
    rw [Int.add_zero]
    refine awp_cond rfl (fun h => ?_) (fun h => ?_)
    · have hst : wStep L y.i = .inl ([], y.i + 1) := if_pos h
      have hin := white_in h
      repeat (first
        | refine thenA_normal ?_
        | refine awp_block ?_
        | refine a_region ?_
        | refine blockA_normal ?_
        | refine awp_skip ?_
        | refine r_done ?_
        | (refine r_id ?_; first
          | refine r_ev tab_ok rfl rfl rfl rfl (by first | exact trivial | exact ⟨by omega, by omega⟩ | omega | exact ⟨by omega, by omega, by omega, by omega⟩ | exact Nat.le_of_ble_eq_true rfl) rfl ?_
          | refine r_ld tab_ok rfl rfl rfl rfl rfl ?_
          | refine r_st tab_ok rfl rfl rfl rfl ?_
          | refine r_nilck rfl rfl rfl rfl rfl rfl rfl ?_))
      exact ⟨y.next (wStep_goes L) hst, by dsimp only [GS.next]; omega, fits_convM (by repeat' first | exact trivial | exact rfl | (rw [List.map_append]; first | done | rfl) | exact c_sub rfl (Sub.refl _) rfl | exact c_nil rfl rfl | exact c_thaw rfl rfl rfl | exact c_row rfl rfl rfl | exact c_row rfl rfl (by rw [List.map_append]; first | done | rfl) | exact c_ptr rfl rfl rfl rfl | exact Or.inl ⟨c_sub rfl (Sub.refl _) rfl, c_ptr rfl rfl rfl rfl⟩ | exact c_alt rfl rfl rfl rfl | exact c_ro rfl rfl | exact c_eo rfl rfl | exact c_sub rfl (Sub.altl _ _) rfl | exact c_sub rfl (Sub.nil _) rfl | refine ⟨_, _, rfl, ?_, ?_⟩ | apply And.intro) (by repeat' first | exact trivial | exact rfl | (rw [List.map_append]; first | done | rfl) | exact c_sub rfl (Sub.refl _) rfl | exact c_nil rfl rfl | exact c_thaw rfl rfl rfl | exact c_row rfl rfl rfl | exact c_row rfl rfl (by rw [List.map_append]; first | done | rfl) | exact c_ptr rfl rfl rfl rfl | exact Or.inl ⟨c_sub rfl (Sub.refl _) rfl, c_ptr rfl rfl rfl rfl⟩ | exact c_alt rfl rfl rfl rfl | exact c_ro rfl rfl | exact c_eo rfl rfl | exact c_sub rfl (Sub.altl _ _) rfl | exact c_sub rfl (Sub.nil _) rfl | refine ⟨_, _, rfl, ?_, ?_⟩ | apply And.intro) ⟨trivial, trivial⟩⟩
    have hst : wStep L y.i = .inr y.i := if_neg (by rw [h]; decide)
    have hy0 : wEnd L x.i = y.i := by rw [wEnd, y.stop hst]; rfl
    have hgt := wEnd_gt L hle a2
    repeat (first
      | refine awp_seq ?_
      | refine thenA_normal ?_
      | refine a_region ?_
      | refine awp_exit ?_
      | refine r_done ?_
      | (refine r_id ?_; first
        | refine r_ev tab_ok rfl rfl rfl rfl (by first | exact trivial | exact ⟨by omega, by omega⟩ | omega | exact ⟨by omega, by omega, by omega, by omega⟩ | exact Nat.le_of_ble_eq_true rfl) rfl ?_
        | refine r_ev_cnd tab_ok rfl rfl rfl rfl rfl rfl (by first | exact fun _ => rfl | exact cs1 | exact cs2 | exact cs3) (by first | exact fun _ => trivial | (intro h; simp at h; first | exact ⟨by omega, by omega⟩ | omega)) rfl ?_
        | refine r_or rfl rfl rfl rfl rfl rfl rfl rfl ?_)
      | refine r_mro [0] (sign_ok _ _ _ hL (by omega) (by omega)) call28 rfl rfl ⟨rfl, trivial⟩ (by decide) ⟨Sub.refl _, Sub.refl _, trivial⟩ rfl rfl rfl rfl rfl rfl ?_
      | refine r_mro_cnd [0] (fun _ => sign_ok _ _ _ hL (by omega) (by omega)) call28 rfl rfl rfl rfl (by first | exact fun _ => rfl | exact cs1 | exact cs2 | exact cs3) ⟨rfl, trivial⟩ (by decide) ⟨Sub.refl _, Sub.refl _, trivial⟩ rfl rfl rfl rfl rfl rfl ?_)
    rw [Int.add_zero]
    refine awp_cond rfl (fun a3 => ?_) (fun a3 => ?_)
    · have a3' : sg L y.i < 0 ∨ sg L y.i = 41 := by simpa using a3
      have hst : uStep L x.i = .inl ([], y.i) := by rw [uStep, if_neg a1', if_pos a2, hy0, if_pos a3']
      repeat (first
        | refine thenA_normal ?_
        | refine awp_exit ?_
        | refine thenA_exit ?_
        | refine blockA_hit rfl ?_
        | refine blockA_miss rfl ?_)
      refine ⟨x.next (uStep_goes L) hst, by dsimp only [GS.next]; omega, ?_⟩
      dsimp only [GS.next]
      rw [List.append_nil]
      exact fits_convM (by repeat' first | exact trivial | exact rfl | (rw [List.map_append]; first | done | rfl) | exact c_sub rfl (Sub.refl _) rfl | exact c_nil rfl rfl | exact c_thaw rfl rfl rfl | exact c_row rfl rfl rfl | exact c_row rfl rfl (by rw [List.map_append]; first | done | rfl) | exact c_ptr rfl rfl rfl rfl | exact Or.inl ⟨c_sub rfl (Sub.refl _) rfl, c_ptr rfl rfl rfl rfl⟩ | exact c_alt rfl rfl rfl rfl | exact c_ro rfl rfl | exact c_eo rfl rfl | exact c_sub rfl (Sub.altl _ _) rfl | exact c_sub rfl (Sub.nil _) rfl | refine ⟨_, _, rfl, ?_, ?_⟩ | apply And.intro) (by repeat' first | exact trivial | exact rfl | (rw [List.map_append]; first | done | rfl) | exact c_sub rfl (Sub.refl _) rfl | exact c_nil rfl rfl | exact c_thaw rfl rfl rfl | exact c_row rfl rfl rfl | exact c_row rfl rfl (by rw [List.map_append]; first | done | rfl) | exact c_ptr rfl rfl rfl rfl | exact Or.inl ⟨c_sub rfl (Sub.refl _) rfl, c_ptr rfl rfl rfl rfl⟩ | exact c_alt rfl rfl rfl rfl | exact c_ro rfl rfl | exact c_eo rfl rfl | exact c_sub rfl (Sub.altl _ _) rfl | exact c_sub rfl (Sub.nil _) rfl | refine ⟨_, _, rfl, ?_, ?_⟩ | apply And.intro) ⟨trivial, trivial⟩
    · have a3' : ¬ (sg L y.i < 0 ∨ sg L y.i = 41) := by
        simp only [Bool.or_eq_false_iff, decide_eq_false_iff_not] at a3
        omega
      have hst : uStep L x.i = .inr (bEnd L y.i, false) := by rw [uStep, if_neg a1', if_pos a2, hy0, if_neg a3']
      rw [x.stop hst]
      repeat (first
        | refine awp_seq ?_
        | refine a_region ?_
        | refine awp_skip ?_
        | (refine r_id ?_; first
          | refine r_ev tab_ok rfl rfl rfl rfl (by first | exact trivial | exact ⟨by omega, by omega⟩ | omega | exact ⟨by omega, by omega, by omega, by omega⟩ | exact Nat.le_of_ble_eq_true rfl) rfl ?_))
      refine r_mcall [0] (badURL_ok L y.i hL hyle) call50 rfl rfl ⟨rfl, trivial⟩ (by decide) ⟨Sub.refl _, trivial⟩ rfl rfl rfl rfl rfl rfl rfl ?_
      repeat (first
        | refine thenA_normal ?_
        | refine awp_ret ?_
        | refine thenA_ret ?_
        | refine blockA_ret ?_
        | refine r_done ?_
        | (refine r_id ?_; first
          | refine r_st tab_ok rfl rfl rfl rfl ?_))
      exact retM1c tab_ok (by first | exact .inl rfl | exact .inr rfl) rfl rfl rfl rfl rfl rfl rfl rfl (Sub.refl _)
  have a2' : ¬ whiteF (sg L x.i) = true := by rw [a2]; decide
  repeat (first
    | refine awp_seq ?_
    | refine thenA_normal ?_
    | refine a_region ?_
    | refine r_done ?_
    | (refine r_id ?_; first
      | refine r_ev tab_ok rfl rfl rfl rfl (by first | exact trivial | exact ⟨by omega, by omega⟩ | omega | exact ⟨by omega, by omega, by omega, by omega⟩ | exact Nat.le_of_ble_eq_true rfl) rfl ?_
      | refine r_ev_cnd tab_ok rfl rfl rfl rfl rfl rfl (by first | exact fun _ => rfl | exact cs1 | exact cs2 | exact cs3) (by first | exact fun _ => trivial | (intro h; simp at h; first | exact ⟨by omega, by omega⟩ | omega)) rfl ?_
      | refine r_and_cnd rfl rfl rfl rfl rfl rfl rfl rfl rfl rfl ?_
      | refine r_or rfl rfl rfl rfl rfl rfl rfl rfl ?_)
    | refine r_mro_cnd [0] (fun _ => escape_ok _ _ _ hL (by omega) (by omega)) call35 rfl rfl rfl rfl (by first | exact fun _ => rfl | exact cs1 | exact cs2 | exact cs3) ⟨rfl, trivial⟩ (by decide) ⟨Sub.refl _, Sub.refl _, trivial⟩ rfl rfl rfl rfl rfl rfl ?_
    | refine r_call (refBad _) call51 rfl rfl ⟨Sub.refl _, trivial⟩ rfl rfl rfl rfl ?_)
  rw [Int.add_zero]
  refine awp_cond rfl (fun a3 => ?_) (fun a3 => ?_)
  · have hst : uStep L x.i = .inr (bEnd L x.i, false) := by rw [uStep, if_neg a1', if_neg a2', if_pos a3]
    rw [x.stop hst]
    repeat (first
      | refine awp_seq ?_
      | refine a_region ?_
      | (refine r_id ?_; first
        | refine r_ev tab_ok rfl rfl rfl rfl (by first | exact trivial | exact ⟨by omega, by omega⟩ | omega | exact ⟨by omega, by omega, by omega, by omega⟩ | exact Nat.le_of_ble_eq_true rfl) rfl ?_))
    refine r_mcall [0] (badURL_ok L x.i hL hle) call50 rfl rfl ⟨rfl, trivial⟩ (by decide) ⟨Sub.refl _, trivial⟩ rfl rfl rfl rfl rfl rfl rfl ?_
    repeat (first
      | refine thenA_normal ?_
      | refine awp_ret ?_
      | refine thenA_ret ?_
      | refine blockA_ret ?_
      | refine r_done ?_
      | (refine r_id ?_; first
        | refine r_st tab_ok rfl rfl rfl rfl ?_))
    exact retM1c tab_ok (by first | exact .inl rfl | exact .inr rfl) rfl rfl rfl rfl rfl rfl rfl rfl (Sub.refl _)
  have a3' : ¬ (badF (sg L x.i) || (decide (sg L x.i = 92) && !escF L x.i)) = true := by rw [a3]; decide
  repeat (first
    | refine awp_seq ?_
    | refine thenA_normal ?_
    | refine a_region ?_
    | refine r_done ?_
    | (refine r_id ?_; first
      | refine r_ev tab_ok rfl rfl rfl rfl (by first | exact trivial | exact ⟨by omega, by omega⟩ | omega | exact ⟨by omega, by omega, by omega, by omega⟩ | exact Nat.le_of_ble_eq_true rfl) rfl ?_))
  refine awp_cond_p rfl (fun a6 => ?_) (fun a6 => ?_)
  · have hst : uStep L x.i = .inl ([(escE L (x.i + 1)).1], (escE L (x.i + 1)).2) := by rw [uStep, if_neg a1', if_neg a2', if_neg a3', if_pos a6]
    have hg := uStep_goes L _ _ _ hle hst
    repeat (first
      | refine awp_seq ?_
      | refine thenA_normal ?_
      | refine a_region ?_
      | refine r_done ?_
      | (refine r_id ?_; first
        | refine r_ev tab_ok rfl rfl rfl rfl (by first | exact trivial | exact ⟨by omega, by omega⟩ | omega | exact ⟨by omega, by omega, by omega, by omega⟩ | exact Nat.le_of_ble_eq_true rfl) rfl ?_
        | refine r_ld tab_ok rfl rfl rfl rfl rfl ?_
        | refine r_st tab_ok rfl rfl rfl rfl ?_
        | refine r_nilck rfl rfl rfl rfl rfl rfl rfl ?_))
    refine r_mcall [0] (escaped_ok L (x.i + 1) hL (by omega)) call43 rfl rfl ⟨rfl, trivial⟩ (by decide) ⟨Sub.refl _, trivial⟩ rfl rfl rfl rfl rfl rfl rfl ?_
    repeat (first
      | refine thenA_normal ?_
      | refine blockA_normal ?_
      | refine r_done ?_
      | (refine r_id ?_; first
        | refine r_ev tab_ok rfl rfl rfl rfl (by first | exact trivial | exact ⟨by omega, by omega⟩ | omega | exact ⟨by omega, by omega, by omega, by omega⟩ | exact Nat.le_of_ble_eq_true rfl) rfl ?_)
      | refine r_call (refPut _) call31 rfl rfl ⟨Sub.refl _, trivial⟩ rfl rfl rfl rfl ?_)
    refine ⟨x.next (uStep_goes L) hst, by dsimp only [GS.next]; omega, ?_⟩
    dsimp only [GS.next]
    rw [runes_append]
    exact fits_convM (by repeat' first | exact trivial | exact rfl | (rw [List.map_append]; first | done | rfl) | exact c_sub rfl (Sub.refl _) rfl | exact c_nil rfl rfl | exact c_thaw rfl rfl rfl | exact c_row rfl rfl rfl | exact c_row rfl rfl (by rw [List.map_append]; first | done | rfl) | exact c_ptr rfl rfl rfl rfl | exact Or.inl ⟨c_sub rfl (Sub.refl _) rfl, c_ptr rfl rfl rfl rfl⟩ | exact c_alt rfl rfl rfl rfl | exact c_ro rfl rfl | exact c_eo rfl rfl | exact c_sub rfl (Sub.altl _ _) rfl | exact c_sub rfl (Sub.nil _) rfl | refine ⟨_, _, rfl, ?_, ?_⟩ | apply And.intro) (by repeat' first | exact trivial | exact rfl | (rw [List.map_append]; first | done | rfl) | exact c_sub rfl (Sub.refl _) rfl | exact c_nil rfl rfl | exact c_thaw rfl rfl rfl | exact c_row rfl rfl rfl | exact c_row rfl rfl (by rw [List.map_append]; first | done | rfl) | exact c_ptr rfl rfl rfl rfl | exact Or.inl ⟨c_sub rfl (Sub.refl _) rfl, c_ptr rfl rfl rfl rfl⟩ | exact c_alt rfl rfl rfl rfl | exact c_ro rfl rfl | exact c_eo rfl rfl | exact c_sub rfl (Sub.altl _ _) rfl | exact c_sub rfl (Sub.nil _) rfl | refine ⟨_, _, rfl, ?_, ?_⟩ | apply And.intro) ⟨trivial, trivial⟩
  · have hst : uStep L x.i = .inl ([sg L x.i], x.i + 1) := by rw [uStep, if_neg a1', if_neg a2', if_neg a3', if_neg a6]
    repeat (first
      | refine awp_seq ?_
      | refine thenA_normal ?_
      | refine a_region ?_
      | refine blockA_normal ?_
      | refine r_done ?_
      | (refine r_id ?_; first
        | refine r_ev tab_ok rfl rfl rfl rfl (by first | exact trivial | exact ⟨by omega, by omega⟩ | omega | exact ⟨by omega, by omega, by omega, by omega⟩ | exact Nat.le_of_ble_eq_true rfl) rfl ?_
        | refine r_ld tab_ok rfl rfl rfl rfl rfl ?_
        | refine r_st tab_ok rfl rfl rfl rfl ?_
        | refine r_nilck rfl rfl rfl rfl rfl rfl rfl ?_)
      | refine r_call (refPut _) call31 rfl rfl ⟨Sub.refl _, trivial⟩ rfl rfl rfl rfl ?_)
    refine ⟨x.next (uStep_goes L) hst, by dsimp only [GS.next]; omega, ?_⟩
    dsimp only [GS.next]
    rw [runes_append]
    exact fits_convM (by repeat' first | exact trivial | exact rfl | (rw [List.map_append]; first | done | rfl) | exact c_sub rfl (Sub.refl _) rfl | exact c_nil rfl rfl | exact c_thaw rfl rfl rfl | exact c_row rfl rfl rfl | exact c_row rfl rfl (by rw [List.map_append]; first | done | rfl) | exact c_ptr rfl rfl rfl rfl | exact Or.inl ⟨c_sub rfl (Sub.refl _) rfl, c_ptr rfl rfl rfl rfl⟩ | exact c_alt rfl rfl rfl rfl | exact c_ro rfl rfl | exact c_eo rfl rfl | exact c_sub rfl (Sub.altl _ _) rfl | exact c_sub rfl (Sub.nil _) rfl | refine ⟨_, _, rfl, ?_, ?_⟩ | apply And.intro) (by repeat' first | exact trivial | exact rfl | (rw [List.map_append]; first | done | rfl) | exact c_sub rfl (Sub.refl _) rfl | exact c_nil rfl rfl | exact c_thaw rfl rfl rfl | exact c_row rfl rfl rfl | exact c_row rfl rfl (by rw [List.map_append]; first | done | rfl) | exact c_ptr rfl rfl rfl rfl | exact Or.inl ⟨c_sub rfl (Sub.refl _) rfl, c_ptr rfl rfl rfl rfl⟩ | exact c_alt rfl rfl rfl rfl | exact c_ro rfl rfl | exact c_eo rfl rfl | exact c_sub rfl (Sub.altl _ _) rfl | exact c_sub rfl (Sub.nil _) rfl | refine ⟨_, _, rfl, ?_, ?_⟩ | apply And.intro) ⟨trivial, trivial⟩
theorem goAt_len {α R : Type} {n : Nat} {step : Nat → (List α × Nat) ⊕ R} (hs : Goes2 n step) {i : Nat} (h : i ≤ n) : (goAt n step i).1.length ≤ n := by
  obtain ⟨r, j, h1, h2, h3, h4, h5⟩ := goAt_end hs n i h (by omega)
  omega
theorem urlF_le (L : List Int) {i : Nat} (h : i ≤ L.length) : i ≤ (urlF L i).2 ∧ (urlF L i).2 ≤ L.length := by
  have hw := wEnd_le L h
  obtain ⟨r, j, h1, h2, h3, h4, _⟩ := goAt_end (uStep_goes L) L.length (wEnd L i) hw.2.1 (by omega)
  have : (urlF L i).2 = r.1 := by rw [urlF, urlE, h1]; rfl
  rw [this]
  unfold uStep at h4
  split at h4
  · cases h4
    split
    · rename_i h5
      have := sg_ge (L := L) (i := j) (by omega)
      dsimp only; omega
    · dsimp only; omega
  split at h4
  · split at h4
    · cases h4
    · cases h4
      have h5 := wEnd_le L h3
      have := bEnd_le L h5.2.1
      dsimp only; omega
  split at h4
  · cases h4
    have := bEnd_le L h3
    dsimp only; omega
  split at h4 <;> cases h4
theorem quoF_le (q : Int) (hq : q ≠ -1) (L : List Int) {i : Nat} (h : i ≤ L.length) : i ≤ (quoF q L i).2 ∧ (quoF q L i).2 ≤ L.length := by
  obtain ⟨r, j, h1, h2, h3, h4, _⟩ := goAt_end (qStep_goes q L) L.length i h (by omega)
  have : (quoF q L i).2 = r.1 := by rw [quoF, quoE, h1]; rfl
  rw [this]
  unfold qStep at h4
  split at h4
  · cases h4; exact ⟨h2, h3⟩
  rename_i h0
  have hin := sg_ge (L := L) (i := j) (by omega)
  split at h4
  · cases h4; dsimp only; omega
  split at h4
  · cases h4; exact ⟨h2, h3⟩
  split at h4
  · cases h4
  split at h4
  · cases h4
  split at h4 <;> cases h4
end Go.Proofs.Ytogjmafjoliimaa
