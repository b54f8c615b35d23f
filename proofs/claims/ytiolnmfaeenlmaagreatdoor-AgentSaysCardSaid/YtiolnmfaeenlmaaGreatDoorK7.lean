import Derived.Test.YtiolnmfaeenlmaaGreatDoorCb
import Derived.Test.YtiolnmfaeenlmaaGreatDoorTy
/- The document's own answer, chapter 1: signs. -/
namespace Go.Proofs.YtiolnmfaeenlmaaGreatDoor
open Go Go.RowKit

def digF (r : Int) : Bool := decide (48 ≤ r) && decide (r ≤ 57)
def letF (r : Int) : Bool := decide (97 ≤ r) && decide (r ≤ 122) || decide (65 ≤ r) && decide (r ≤ 90) || decide (r = 95) || decide (128 ≤ r)
def nameF (r : Int) : Bool := letF r || digF r || decide (r = 45)
def whiteF (r : Int) : Bool := decide (r = 10) || decide (r = 9) || decide (r = 32)
/-- May a sign not stand in a url? -/
def badF (r : Int) : Bool := decide (r = 34) || decide (r = 39) || decide (r = 40) || decide (0 ≤ r) && decide (r ≤ 8) || decide (r = 11) || decide (14 ≤ r) && decide (r ≤ 31) || decide (r = 127)
def hexF (r : Int) : Int × Bool := if 48 ≤ r ∧ r ≤ 57 then (r - 48, true) else if 97 ≤ r ∧ r ≤ 102 then (r - 87, true) else if 65 ≤ r ∧ r ≤ 70 then (r - 55, true) else (0, false)
def iA (r : Int) : AV := .val (.int .i32 r)

theorem refDigit (r : Int) : PCalls Tryz.prog 84 [iA r] (.val (.bool (digF r))) := by
  refine p_start Tryz.func84 Tryz.ntmps84 rfl rfl rfl fun S w => ?_
  repeat (first | refine awp_seq ?_ | refine thenA_normal ?_ | refine a_region ?_ | refine awp_ret ?_ | refine r_done ?_ | (refine r_id ?_; first | refine r_ev tab_ok rfl rfl rfl rfl byE rfl ?_ | refine r_ev_cnd tab_ok rfl rfl rfl rfl rfl rfl byC (by first | exact fun _ => trivial | (intro h; simp at h; first | exact ⟨by omega, by omega⟩ | omega)) rfl ?_ | refine r_and rfl rfl rfl rfl rfl rfl rfl rfl ?_) | refine ret1 byO rfl rfl rfl ?_)
  exact Sub.refl _
theorem refLetter (r : Int) : PCalls Tryz.prog 107 [iA r] (.val (.bool (letF r))) := by
  refine p_start Tryz.func107 Tryz.ntmps107 rfl rfl rfl fun S w => ?_
  repeat (first | refine awp_seq ?_ | refine thenA_normal ?_ | refine a_region ?_ | refine awp_ret ?_ | refine r_done ?_ | (refine r_id ?_; first | refine r_ev tab_ok rfl rfl rfl rfl byE rfl ?_ | refine r_ev_cnd tab_ok rfl rfl rfl rfl rfl rfl byC (by first | exact fun _ => trivial | (intro h; simp at h; first | exact ⟨by omega, by omega⟩ | omega)) rfl ?_ | refine r_and_cnd rfl rfl rfl rfl rfl rfl rfl rfl rfl rfl ?_ | refine r_or rfl rfl rfl rfl rfl rfl rfl rfl ?_ | refine r_and rfl rfl rfl rfl rfl rfl rfl rfl ?_) | refine ret1 byO rfl rfl rfl ?_)
  exact Sub.refl _
theorem refWhite (r : Int) : PCalls Tryz.prog 78 [iA r] (.val (.bool (whiteF r))) := by
  refine p_start Tryz.func78 Tryz.ntmps78 rfl rfl rfl fun S w => ?_
  repeat (first | refine awp_seq ?_ | refine thenA_normal ?_ | refine a_region ?_ | refine awp_ret ?_ | refine r_done ?_ | (refine r_id ?_; first | refine r_ev tab_ok rfl rfl rfl rfl byE rfl ?_ | refine r_ev_cnd tab_ok rfl rfl rfl rfl rfl rfl byC (by first | exact fun _ => trivial | (intro h; simp at h; first | exact ⟨by omega, by omega⟩ | omega)) rfl ?_ | refine r_or rfl rfl rfl rfl rfl rfl rfl rfl ?_) | refine ret1 byO rfl rfl rfl ?_)
  exact Sub.refl _
theorem refPut (r : Int) : PCalls Tryz.prog 77 [iA r] (.val (.string (runesBytes [r]))) := by
  refine p_start Tryz.func77 Tryz.ntmps77 rfl rfl rfl fun S w => ?_
  repeat (first | refine awp_seq ?_ | refine thenA_normal ?_ | refine a_region ?_ | refine awp_ret ?_ | refine r_done ?_ | (refine r_id ?_; first | refine r_ev tab_ok rfl rfl rfl rfl byE rfl ?_ | refine r_built tab_ok rfl rfl rfl rfl rfl rfl rfl rfl rfl ?_ | refine r_rsstr tab_ok rfl rfl rfl rfl rfl rfl rfl rfl rfl rfl ?_) | refine ret1 byO rfl rfl rfl ?_)
  exact Sub.refl _
theorem refName (r : Int) : PCalls Tryz.prog 80 [iA r] (.val (.bool (nameF r))) := by
  refine p_start Tryz.func80 Tryz.ntmps80 rfl rfl rfl fun S w => ?_
  repeat (first | refine awp_seq ?_ | refine a_region ?_ | refine r_done ?_ | (refine r_id ?_; first | refine r_ev tab_ok rfl rfl rfl rfl byE rfl ?_))
  refine r_call (refLetter r) call107 rfl rfl ⟨Sub.refl _, trivial⟩ rfl rfl rfl rfl ?_
  repeat (first | (refine r_id ?_; first | refine r_ev tab_ok rfl rfl rfl rfl byE rfl ?_ | refine r_ev_cnd tab_ok rfl rfl rfl rfl rfl rfl byC (by first | exact fun _ => trivial | (intro h; simp at h; first | exact ⟨by omega, by omega⟩ | omega)) rfl ?_))
  refine r_call_cnd (fun _ => refDigit r) call84 rfl rfl rfl rfl byC ⟨Sub.refl _, trivial⟩ rfl rfl rfl rfl ?_
  repeat (first | refine thenA_normal ?_ | refine awp_ret ?_ | refine r_done ?_ | (refine r_id ?_; first | refine r_ev tab_ok rfl rfl rfl rfl byE rfl ?_ | refine r_ev_cnd tab_ok rfl rfl rfl rfl rfl rfl byC (by first | exact fun _ => trivial | (intro h; simp at h; first | exact ⟨by omega, by omega⟩ | omega)) rfl ?_ | refine r_or rfl rfl rfl rfl rfl rfl rfl rfl ?_) | refine ret1 byO rfl rfl rfl ?_)
  exact Sub.refl _
def hexA (r : Int) : AV := .tup [.val (.int .i64 (hexF r).1), .val (.bool (hexF r).2)]
theorem refHex (r : Int) : PCalls Tryz.prog 116 [iA r] (hexA r) := by
  refine p_start Tryz.func116 Tryz.ntmps116 rfl rfl rfl fun S w => ?_
  repeat (first | refine awp_seq ?_ | refine thenA_normal ?_ | refine awp_block ?_ | refine a_region ?_ | refine r_done ?_ | (refine r_id ?_; first | refine r_ev tab_ok rfl rfl rfl rfl byE rfl ?_ | refine r_ev_cnd tab_ok rfl rfl rfl rfl rfl rfl byC (by first | exact fun _ => trivial | (intro h; simp at h; first | exact ⟨by omega, by omega⟩ | omega)) rfl ?_ | refine r_and rfl rfl rfl rfl rfl rfl rfl rfl ?_))
  refine awp_cond rfl (fun h => ?_) (fun h => ?_)
  · simp at h
    repeat (first | refine awp_seq ?_ | refine thenA_normal ?_ | refine a_region ?_ | refine awp_ret ?_ | refine thenA_ret ?_ | refine blockA_ret ?_ | refine r_done ?_ | (refine r_id ?_; first | refine r_ev tab_ok rfl rfl rfl rfl byE rfl ?_) | refine ret2 byO rfl rfl rfl rfl ?_ ?_)
    · exact Sub.of_eq (by simp only [hexF, h, and_self, if_true])
    · exact Sub.of_eq (by simp only [hexF, h, and_self, if_true])
  · simp at h
    repeat (first | refine awp_seq ?_ | refine thenA_normal ?_ | refine a_region ?_ | refine r_done ?_ | (refine r_id ?_; first | refine r_ev tab_ok rfl rfl rfl rfl byE rfl ?_ | refine r_ev_cnd tab_ok rfl rfl rfl rfl rfl rfl byC (by first | exact fun _ => trivial | (intro h; simp at h; first | exact ⟨by omega, by omega⟩ | omega)) rfl ?_ | refine r_and rfl rfl rfl rfl rfl rfl rfl rfl ?_))
    refine awp_cond rfl (fun h1 => ?_) (fun h1 => ?_)
    · simp at h1
      repeat (first | refine awp_seq ?_ | refine thenA_normal ?_ | refine a_region ?_ | refine awp_ret ?_ | refine thenA_ret ?_ | refine blockA_ret ?_ | refine r_done ?_ | (refine r_id ?_; first | refine r_ev tab_ok rfl rfl rfl rfl byE rfl ?_) | refine ret2 byO rfl rfl rfl rfl ?_ ?_)
      · exact Sub.of_eq (by rw [hexF, if_neg (by omega), if_pos h1]; simp; omega)
      · exact Sub.of_eq (by rw [hexF, if_neg (by omega), if_pos h1])
    · simp at h1
      repeat (first | refine awp_seq ?_ | refine thenA_normal ?_ | refine a_region ?_ | refine r_done ?_ | (refine r_id ?_; first | refine r_ev tab_ok rfl rfl rfl rfl byE rfl ?_ | refine r_ev_cnd tab_ok rfl rfl rfl rfl rfl rfl byC (by first | exact fun _ => trivial | (intro h; simp at h; first | exact ⟨by omega, by omega⟩ | omega)) rfl ?_ | refine r_and rfl rfl rfl rfl rfl rfl rfl rfl ?_))
      refine awp_cond rfl (fun h2 => ?_) (fun h2 => ?_)
      · simp at h2
        repeat (first | refine awp_seq ?_ | refine thenA_normal ?_ | refine a_region ?_ | refine awp_ret ?_ | refine thenA_ret ?_ | refine blockA_ret ?_ | refine r_done ?_ | (refine r_id ?_; first | refine r_ev tab_ok rfl rfl rfl rfl byE rfl ?_) | refine ret2 byO rfl rfl rfl rfl ?_ ?_)
        · exact Sub.of_eq (by rw [hexF, if_neg (by omega), if_neg (by omega), if_pos h2]; simp; omega)
        · exact Sub.of_eq (by rw [hexF, if_neg (by omega), if_neg (by omega), if_pos h2])
      · simp at h2
        repeat (first | refine awp_seq ?_ | refine thenA_normal ?_ | refine a_region ?_ | refine awp_ret ?_ | refine awp_skip ?_ | refine r_done ?_ | (refine r_id ?_; first | refine r_ev tab_ok rfl rfl rfl rfl byE rfl ?_) | refine ret2 byO rfl rfl rfl rfl ?_ ?_)
        · exact Sub.of_eq (by rw [hexF, if_neg (by omega), if_neg (by omega), if_neg (by omega)])
        · exact Sub.of_eq (by rw [hexF, if_neg (by omega), if_neg (by omega), if_neg (by omega)])

theorem decode_one (s : ByteArray) (pos : Nat) (h : pos < s.size) : 1 ≤ (Utf8.decode s pos).2 := by
  by_cases ha : (s[pos]'h).toNat < 128
  · rw [decode_ascii s pos h ha]; exact Nat.le_refl _
  · exact (decode_high s pos h (by omega)).2
/-- The signs from a place on; cr: is the sign ahead a carriage return? -/
def rd (s : ByteArray) : Nat → Nat → Bool → List Int
  | 0, _, _ => []
  | f + 1, pos, cr =>
    if pos < s.size then
      (if ((pos = 0 ∧ ((Utf8.decode s pos).1 : Int) = 65279) ∨ (((Utf8.decode s pos).1 : Int) = 10 ∧ cr = true)) then []
        else [if ((Utf8.decode s pos).1 : Int) = 13 ∨ ((Utf8.decode s pos).1 : Int) = 12 then 10 else if ((Utf8.decode s pos).1 : Int) = 0 then 65533 else ((Utf8.decode s pos).1 : Int)])
      ++ rd s f (pos + (Utf8.decode s pos).2) (decide (((Utf8.decode s pos).1 : Int) = 13))
    else []
theorem rd_fuel (s : ByteArray) : ∀ (f f' pos : Nat) (cr : Bool), s.size - pos ≤ f → s.size - pos ≤ f' → rd s f pos cr = rd s f' pos cr
  | 0, 0, _, _, _, _ => rfl
  | 0, f' + 1, pos, cr, h, _ => by rw [rd, rd, if_neg (by omega)]
  | f + 1, 0, pos, cr, _, h => by rw [rd, rd, if_neg (by omega)]
  | f + 1, f' + 1, pos, cr, h, h' => by
    rw [rd, rd]
    by_cases hp : pos < s.size
    · have := decode_one s pos hp
      rw [if_pos hp, if_pos hp, rd_fuel s f f' _ _ (by omega) (by omega)]
    · rw [if_neg hp, if_neg hp]
def rdAt (s : ByteArray) (pos : Nat) (cr : Bool) : List Int := rd s (s.size - pos) pos cr
theorem rdAt_end {s : ByteArray} {pos : Nat} {cr : Bool} (h : ¬ pos < s.size) : rdAt s pos cr = [] := by
  unfold rdAt
  rw [show s.size - pos = 0 by omega]
  rfl
theorem rdAt_step {s : ByteArray} {pos : Nat} {cr : Bool} (h : pos < s.size) : rdAt s pos cr =
      (if ((pos = 0 ∧ ((Utf8.decode s pos).1 : Int) = 65279) ∨ (((Utf8.decode s pos).1 : Int) = 10 ∧ cr = true)) then []
        else [if ((Utf8.decode s pos).1 : Int) = 13 ∨ ((Utf8.decode s pos).1 : Int) = 12 then 10 else if ((Utf8.decode s pos).1 : Int) = 0 then 65533 else ((Utf8.decode s pos).1 : Int)])
      ++ rdAt s (pos + (Utf8.decode s pos).2) (decide (((Utf8.decode s pos).1 : Int) = 13)) := by
  have h1 := decode_one s pos h
  have h2 : s.size - pos = (s.size - pos - 1) + 1 := by omega
  have e : rdAt s pos cr = rd s ((s.size - pos - 1) + 1) pos cr := by rw [← h2]; rfl
  rw [e, rd, if_pos h, rdAt, rd_fuel s (s.size - pos - 1) (s.size - (pos + (Utf8.decode s pos).2)) _ _ (by omega) (Nat.le_refl _)]
def readL (s : ByteArray) : List Int := rdAt s 0 false
theorem rd_len (s : ByteArray) : ∀ (f pos : Nat) (cr : Bool), (rd s f pos cr).length ≤ f
  | 0, _, _ => Nat.le_refl _
  | f + 1, pos, cr => by
    rw [rd]
    have := rd_len s f (pos + (Utf8.decode s pos).2) (decide (((Utf8.decode s pos).1 : Int) = 13))
    split
    · split <;> simp <;> omega
    · simp
theorem readL_len (s : ByteArray) : (readL s).length ≤ s.size := rd_len s _ _ _

structure RS (s : ByteArray) where
  pos : Nat
  cr : Bool
  out : List Int
  le : out ++ rdAt s pos cr = readL s
  c0 : pos = 0 → cr = false
theorem RS.len {s : ByteArray} (x : RS s) : x.out.length ≤ s.size := by
  have h1 := readL_len s
  have := congrArg List.length x.le
  rw [List.length_append] at this
  omega

theorem refRead (b : List UInt8) (hb : b.length ≤ 17592186044416) : PCalls Tryz.prog 33 [.sl 1 (b.map bD)] (.sl 1 ((readL ⟨b.toArray⟩).map rD)) := by
  refine p_start Tryz.func33 Tryz.ntmps33 rfl rfl rfl fun S w => ?_
  have hs : (⟨b.toArray⟩ : ByteArray).size ≤ 17592186044416 := by simpa [ByteArray.size] using hb
  generalize hsd : (⟨b.toArray⟩ : ByteArray) = s at hs
  repeat (first | refine awp_seq ?_ | refine thenA_normal ?_ | refine awp_block ?_ | refine a_region ?_ | refine r_done ?_ | (refine r_id ?_; first | refine r_ev tab_ok rfl rfl rfl rfl byE rfl ?_ | refine r_range tab_ok rfl rfl rfl rfl rfl rfl rfl ?_ | refine r_bstr' tab_ok rfl rfl rfl rfl rfl rfl rfl rfl rfl ?_))
  rw [hsd]
  refine a_loop (σ := RS s) (fun x => [.iter s x.pos, .row 0 21 1 (x.out.map rD)]) (fun x => [(3, .row 1 0), (4, .val (.bool (decide (x.pos = 0)))), (5, .val (.bool x.cr)), (10, .ptr 0 0)]) (fun x => s.size - x.pos) ⟨0, false, [], rfl, fun _ => rfl⟩ (fits_conv byV byV) ?_
  intro x
  have hxl := x.len
  obtain ⟨pos, cr, out, hle, hc0⟩ := x
  dsimp only at hxl ⊢
  by_cases hp : pos < s.size
  · have hst := rdAt_step (cr := cr) hp
    have hd1 := decode_one s pos hp
    repeat (first | refine awp_seq ?_ | refine thenA_normal ?_ | refine awp_block ?_ | refine a_region ?_ | refine awp_skip ?_ | refine r_done ?_ | (refine r_id ?_; first | refine r_ev tab_ok rfl rfl rfl rfl byE rfl ?_ | refine r_ev_cnd tab_ok rfl rfl rfl rfl rfl rfl byC (by first | exact fun _ => trivial | (intro h; simp at h; first | exact ⟨by omega, by omega⟩ | omega)) rfl ?_ | refine r_and rfl rfl rfl rfl rfl rfl rfl rfl ?_ | refine r_next rfl rfl rfl rfl (by assumption) rfl rfl rfl ?_) | refine awp_cond_t rfl ?_)
    generalize hr : ((Utf8.decode s pos).1 : Int) = r at hst ⊢
    generalize hq : pos + (Utf8.decode s pos).2 = q at hst ⊢
    have hq' : pos < q := by omega
    have hq0 : decide (q = 0) = false := by rw [decide_eq_false_iff_not]; omega
    refine awp_cond rfl (fun h1 => ?_) (fun h1 => ?_)
    · simp at h1
      rw [if_pos (.inl h1)] at hst
      have h13 : decide (r = 13) = false := by rw [decide_eq_false_iff_not]; omega
      rw [h13] at hst
      repeat (first | refine awp_seq ?_ | refine thenA_normal ?_ | refine a_region ?_ | refine awp_exit ?_ | refine thenA_exit ?_ | refine blockA_hit rfl ?_ | refine r_done ?_ | (refine r_id ?_; first | refine r_ev tab_ok rfl rfl rfl rfl byE rfl ?_))
      refine ⟨⟨q, cr, out, by rw [← hle, hst, hc0 h1.1]; simp, fun _ => hc0 h1.1⟩, by dsimp only; omega, ?_⟩
      dsimp only
      rw [hq0]
      exact fits_conv byV byV
    · simp at h1
      repeat (first | refine awp_seq ?_ | refine thenA_normal ?_ | refine a_region ?_ | refine awp_skip ?_ | refine r_done ?_ | (refine r_id ?_; first | refine r_ev tab_ok rfl rfl rfl rfl byE rfl ?_ | refine r_ev_cnd tab_ok rfl rfl rfl rfl rfl rfl byC (by first | exact fun _ => trivial | (intro h; simp at h; first | exact ⟨by omega, by omega⟩ | omega)) rfl ?_ | refine r_and rfl rfl rfl rfl rfl rfl rfl rfl ?_))
      refine awp_cond rfl (fun h2 => ?_) (fun h2 => ?_)
      · have h2' : cr = true ∧ r = 10 := by simpa using h2
        rw [if_pos (.inr ⟨h2'.2, h2'.1⟩)] at hst
        have h13 : decide (r = 13) = false := by rw [decide_eq_false_iff_not]; omega
        rw [h13] at hst
        repeat (first | refine awp_seq ?_ | refine thenA_normal ?_ | refine a_region ?_ | refine awp_exit ?_ | refine thenA_exit ?_ | refine blockA_hit rfl ?_ | refine r_done ?_ | (refine r_id ?_; first | refine r_ev tab_ok rfl rfl rfl rfl byE rfl ?_))
        refine ⟨⟨q, false, out, by rw [← hle, hst]; simp, fun h => by omega⟩, by dsimp only; omega, ?_⟩
        dsimp only
        rw [hq0]
        exact fits_conv byV byV
      · have h3 : ¬ (r = 10 ∧ cr = true) := by
          have h3 : ¬ (cr = true ∧ r = 10) := by simpa using h2
          exact fun h => h3 ⟨h.2, h.1⟩
        rw [if_neg (by rintro (h | h); exact h1 h.1 h.2; exact h3 h)] at hst
        repeat (first | refine awp_seq ?_ | refine thenA_normal ?_ | refine awp_block ?_ | refine a_region ?_ | refine awp_skip ?_ | refine r_done ?_ | (refine r_id ?_; first | refine r_ev tab_ok rfl rfl rfl rfl byE rfl ?_))
        refine awp_cond_p rfl (fun h4 => ?_) (fun h4 => ?_)
        · rw [if_pos (.inl h4)] at hst
          repeat (first | refine thenA_normal ?_ | refine awp_skip ?_)
          refine awp_cond_p rfl (fun _ => ?_) (fun h => absurd h4 h)
          repeat (first | refine thenA_normal ?_ | refine a_region ?_ | refine blockA_normal ?_ | refine r_done ?_ | (refine r_id ?_; first | refine r_ev tab_ok rfl rfl rfl rfl byE rfl ?_ | refine r_built tab_ok rfl rfl rfl rfl rfl rfl rfl rfl rfl ?_ | refine r_append tab_ok rfl rfl rfl rfl rfl rfl rfl rfl rfl (by first | omega | (simp; omega)) rfl ?_))
          refine ⟨⟨q, decide (r = 13), out ++ [10], by rw [← hle, hst]; simp, fun h => by omega⟩, by dsimp only; omega, ?_⟩
          dsimp only
          rw [hq0]
          exact fits_conv byV byV
        · repeat (first | refine thenA_normal ?_ | refine a_region ?_ | refine r_done ?_ | (refine r_id ?_; first | refine r_ev tab_ok rfl rfl rfl rfl byE rfl ?_))
          refine awp_cond_p rfl (fun h5 => ?_) (fun h5 => ?_)
          · rw [if_pos (.inr h5)] at hst
            repeat (first | refine thenA_normal ?_ | refine a_region ?_ | refine blockA_normal ?_ | refine r_done ?_ | (refine r_id ?_; first | refine r_ev tab_ok rfl rfl rfl rfl byE rfl ?_ | refine r_built tab_ok rfl rfl rfl rfl rfl rfl rfl rfl rfl ?_ | refine r_append tab_ok rfl rfl rfl rfl rfl rfl rfl rfl rfl (by first | omega | (simp; omega)) rfl ?_))
            refine ⟨⟨q, decide (r = 13), out ++ [10], by rw [← hle, hst]; simp, fun h => by omega⟩, by dsimp only; omega, ?_⟩
            dsimp only
            rw [hq0]
            exact fits_conv byV byV
          · rw [if_neg (by omega)] at hst
            repeat (first | refine awp_seq ?_ | refine thenA_normal ?_ | refine a_region ?_ | refine r_done ?_ | (refine r_id ?_; first | refine r_ev tab_ok rfl rfl rfl rfl byE rfl ?_))
            refine awp_cond_p rfl (fun h6 => ?_) (fun h6 => ?_)
            · rw [if_pos h6] at hst
              repeat (first | refine thenA_normal ?_ | refine a_region ?_ | refine blockA_normal ?_ | refine r_done ?_ | (refine r_id ?_; first | refine r_ev tab_ok rfl rfl rfl rfl byE rfl ?_ | refine r_built tab_ok rfl rfl rfl rfl rfl rfl rfl rfl rfl ?_ | refine r_append tab_ok rfl rfl rfl rfl rfl rfl rfl rfl rfl (by first | omega | (simp; omega)) rfl ?_))
              refine ⟨⟨q, decide (r = 13), out ++ [65533], by rw [← hle, hst]; simp, fun h => by omega⟩, by dsimp only; omega, ?_⟩
              dsimp only
              rw [hq0]
              exact fits_conv byV byV
            · rw [if_neg h6] at hst
              repeat (first | refine thenA_normal ?_ | refine a_region ?_ | refine blockA_normal ?_ | refine awp_skip ?_ | refine r_done ?_ | (refine r_id ?_; first | refine r_ev tab_ok rfl rfl rfl rfl byE rfl ?_ | refine r_built tab_ok rfl rfl rfl rfl rfl rfl rfl rfl rfl ?_ | refine r_append tab_ok rfl rfl rfl rfl rfl rfl rfl rfl rfl (by first | omega | (simp; omega)) rfl ?_))
              refine ⟨⟨q, decide (r = 13), out ++ [r], by rw [← hle, hst]; simp, fun h => by omega⟩, by dsimp only; omega, ?_⟩
              dsimp only
              rw [hq0]
              exact fits_conv byV byV
  · rw [rdAt_end hp, List.append_nil] at hle
    subst hle
    repeat (first | refine awp_seq ?_ | refine thenA_normal ?_ | refine a_region ?_ | refine awp_ret ?_ | refine awp_exit ?_ | refine r_done ?_ | (refine r_id ?_; first | refine r_ev tab_ok rfl rfl rfl rfl byE rfl ?_ | refine r_next_end rfl rfl rfl rfl (by assumption) rfl rfl rfl ?_) | refine ret1_row byO rfl rfl rfl ?_ | refine awp_cond_f rfl ?_)
    exact Sub.refl _
def lowB (b : UInt8) : UInt8 := if 65 ≤ b.toNat ∧ b.toNat ≤ 90 then b + 32 else b
def lowL (l : List UInt8) : List UInt8 := l.map lowB
def lowS (s : ByteArray) : ByteArray := ⟨(lowL s.data.toList).toArray⟩
theorem lowB_up {b : UInt8} (h : 65 ≤ b.toNat ∧ b.toNat ≤ 90) : ((lowB b).toNat : Int) = (b.toNat : Int) + 32 := by
  rw [lowB, if_pos h, UInt8.toNat_add]
  simp
  omega
theorem lowB_no {b : UInt8} (h : ¬ (65 ≤ b.toNat ∧ b.toNat ≤ 90)) : lowB b = b := by rw [lowB, if_neg h]
theorem getD_byte {s : ByteArray} {i : Nat} (h : i < s.data.toList.length) : s.data.toList.getD i 0 = s.data.toList[i] := by rw [List.getD_eq_getElem?_getD, List.getElem?_eq_getElem h]; rfl

def mixL (l : List UInt8) (i : Nat) : List UInt8 := lowL (l.take i) ++ l.drop i
theorem mixL_len (l : List UInt8) (i : Nat) : (mixL l i).length = l.length := by simp [mixL, lowL]; omega
theorem mixL_at' {l : List UInt8} {i : Nat} (h : i < l.length) : (mixL l i)[i]? = some l[i] := by
  unfold mixL
  have e : (lowL (l.take i)).length = i := by simp [lowL]; omega
  rw [List.getElem?_append_right (by omega), e, Nat.sub_self, List.getElem?_drop, Nat.add_zero, List.getElem?_eq_getElem h]
theorem mixL_at {l : List UInt8} {i : Nat} (h : i < l.length) (h' : i < (mixL l i).length) : (mixL l i)[i]'h' = l[i] := by
  have := mixL_at' h
  rw [List.getElem?_eq_getElem h'] at this
  exact Option.some.inj this
theorem mixL_set {l : List UInt8} {i : Nat} (h : i < l.length) : (mixL l i).set i (lowB l[i]) = mixL l (i + 1) := by
  unfold mixL
  have e : (lowL (l.take i)).length = i := by simp [lowL]; omega
  rw [List.set_append_right _ _ (by omega), List.drop_eq_getElem_cons h, e, Nat.sub_self, List.set_cons_zero, List.take_add_one, List.getElem?_eq_getElem h]
  simp only [lowL, List.map_append, Option.toList_some, List.map_cons, List.map_nil, List.append_assoc, List.cons_append, List.nil_append]
theorem mixL_same {l : List UInt8} {i : Nat} (h : i < l.length) (hb : lowB l[i] = l[i]) : mixL l i = mixL l (i + 1) := by
  rw [← mixL_set h, hb]
  apply List.ext_getElem (by simp)
  intro j h1 h2
  by_cases hj : i = j
  · subst hj; simp [mixL_at h]
  · simp [List.getElem_set_ne hj]

theorem refLower (s : ByteArray) (hs : s.size ≤ 70368744177663) : PCalls Tryz.prog 34 [.val (.string s)] (.val (.string (lowS s))) := by
  refine p_start Tryz.func34 Tryz.ntmps34 rfl rfl rfl fun S w => ?_
  have hsz := str_size s
  repeat (first | refine awp_seq ?_ | refine a_region ?_ | refine r_done ?_ | (refine r_id ?_; first | refine r_ev tab_ok rfl rfl rfl rfl byE rfl ?_))
  refine r_strb tab_ok rfl rfl rfl rfl rfl rfl (by omega) rfl rfl rfl ?_
  repeat (first | refine awp_seq ?_ | refine thenA_normal ?_ | refine awp_block ?_ | refine a_region ?_ | refine r_done ?_ | (refine r_id ?_; first | refine r_ev tab_ok rfl rfl rfl rfl byE rfl ?_))
  refine a_loop (σ := {i : Nat // i ≤ s.size}) (fun x => [.row 0 5 1 ((mixL s.data.toList x.1).map bD)]) (fun x => [(3, .row 0 0), (4, .val (.int .i64 x.1))]) (fun x => s.size - x.1) ⟨0, by omega⟩ (fits_of rfl ⟨Sub.refl _, Sub.refl _, trivial⟩) ?_
  rintro ⟨i, hi⟩
  dsimp only
  have hml := mixL_len s.data.toList i
  repeat (first | refine awp_seq ?_ | refine thenA_normal ?_ | refine a_region ?_ | refine r_done ?_ | (refine r_id ?_; first | refine r_ev tab_ok rfl rfl rfl rfl byE rfl ?_ | refine r_ld tab_ok rfl rfl rfl rfl rfl ?_))
  refine awp_cond_p rfl (fun hlt => ?_) (fun hge => ?_)
  · have hi0 : i < s.size := by simp at hlt; omega
    have hi' : i < s.data.toList.length := by omega
    have hat := mixL_at hi' (by omega)
    have hst := mixL_set hi'
    have hsm := mixL_same hi'
    repeat (first | refine awp_seq ?_ | refine thenA_normal ?_ | refine awp_block ?_ | refine a_region ?_ | refine awp_skip ?_ | refine r_done ?_ | (refine r_id ?_; first | refine r_ev tab_ok rfl rfl rfl rfl byE rfl ?_ | refine r_ev_cnd tab_ok rfl rfl rfl rfl rfl rfl byC (by first | exact fun _ => trivial | (intro h; simp at h; first | exact ⟨by omega, by omega⟩ | omega)) rfl ?_ | refine r_and rfl rfl rfl rfl rfl rfl rfl rfl ?_ | refine r_idxr tab_ok rfl rfl rfl rfl rfl rfl rfl rfl (by first | exact ⟨by omega, by omega⟩ | (simp; omega)) rfl ?_ | refine r_lde tab_ok rfl rfl rfl rfl rfl (by omega) rfl rfl rfl rfl ?_ | refine r_idxr_cnd tab_ok rfl rfl rfl rfl rfl rfl rfl rfl (by first | exact fun _ => rfl | exact cs1 | exact cs2) rfl rfl (by first | (intro _; exact ⟨by omega, by omega⟩) | (intro h; simp at h ⊢; omega)) rfl ?_ | refine r_lde_cnd tab_ok rfl rfl rfl rfl rfl rfl rfl (by first | exact fun _ => rfl | exact cs1 | exact cs2) (by omega) rfl rfl rfl rfl ?_))
    simp only [Int.toNat_natCast, hat]
    generalize hbb : s.data.toList[i] = b at hst hsm
    refine awp_cond rfl (fun h => ?_) (fun h => ?_)
    · have h' : 65 ≤ b.toNat ∧ b.toNat ≤ 90 := by simp at h; omega
      have hat2 : ((mixL s.data.toList i)[((i : Int)).toNat]'(by simp; omega)).toNat = b.toNat := by simp only [Int.toNat_natCast]; rw [hat, hbb]
      repeat (first | refine a_region ?_ | (refine r_id ?_; first | refine r_ev tab_ok rfl rfl rfl rfl byE rfl ?_ | refine r_idxr tab_ok rfl rfl rfl rfl rfl rfl rfl rfl (by first | exact ⟨by omega, by omega⟩ | (simp; omega)) rfl ?_ | refine r_lde tab_ok rfl rfl rfl rfl rfl (by omega) rfl rfl rfl rfl ?_))
      simp only [Int.toNat_natCast, hat, hbb]
      refine r_ste tab_ok (lowB b) rfl rfl rfl rfl rfl (by omega) rfl rfl rfl (by show some (D.val (.int .u8 ((b.toNat : Int) + 32))) = some (bD (lowB b)); rw [bD, lowB_up h']) rfl rfl ?_
      rw [hst]
      repeat (first | refine thenA_normal ?_ | refine a_region ?_ | refine r_done ?_ | (refine r_id ?_; first | refine r_ev tab_ok rfl rfl rfl rfl byE rfl ?_))
      exact ⟨⟨i + 1, by omega⟩, by dsimp only; omega, fits_of rfl ⟨Sub.refl _, Sub.refl _, trivial⟩⟩
    · have h' : ¬ (65 ≤ b.toNat ∧ b.toNat ≤ 90) := by simp at h; omega
      rw [hsm (lowB_no h')]
      repeat (first | refine thenA_normal ?_ | refine a_region ?_ | refine awp_skip ?_ | refine r_done ?_ | (refine r_id ?_; first | refine r_ev tab_ok rfl rfl rfl rfl byE rfl ?_))
      exact ⟨⟨i + 1, by omega⟩, by dsimp only; omega, fits_of rfl ⟨Sub.refl _, Sub.refl _, trivial⟩⟩
  · have : i = s.size := by simp at hge; omega
    subst this
    repeat (first | refine awp_seq ?_ | refine thenA_normal ?_ | refine a_region ?_ | refine awp_ret ?_ | refine awp_exit ?_ | refine r_done ?_ | (refine r_id ?_; first | refine r_ev tab_ok rfl rfl rfl rfl byE rfl ?_ | refine r_rowstr tab_ok rfl rfl rfl rfl rfl rfl rfl rfl rfl rfl ?_) | refine ret1 byO rfl rfl rfl ?_)
    exact Sub.of_eq (by unfold mixL; rw [List.take_of_length_le (by omega), List.drop_of_length_le (by omega), List.append_nil]; rfl)

theorem refBad (r : Int) : PCalls Tryz.prog 118 [iA r] (.val (.bool (badF r))) := by
  refine p_start Tryz.func118 Tryz.ntmps118 rfl rfl rfl fun S w => ?_
  repeat (first | refine awp_seq ?_ | refine thenA_normal ?_ | refine a_region ?_ | refine awp_ret ?_ | refine r_done ?_ | (refine r_id ?_; first | refine r_ev tab_ok rfl rfl rfl rfl byE rfl ?_ | refine r_ev_cnd tab_ok rfl rfl rfl rfl rfl rfl byC (by first | exact fun _ => trivial | (intro h; simp at h; first | exact ⟨by omega, by omega⟩ | omega)) rfl ?_ | refine r_and_cnd rfl rfl rfl rfl rfl rfl rfl rfl rfl rfl ?_ | refine r_or rfl rfl rfl rfl rfl rfl rfl rfl ?_) | refine ret1 byO rfl rfl rfl ?_)
  exact Sub.refl _
end Go.Proofs.YtiolnmfaeenlmaaGreatDoor

/- The document's own answer, chapter 2: a reader of signs. -/
namespace Go.Proofs.YtiolnmfaeenlmaaGreatDoor
open Go Go.RowKit

/-- The sign at a place; -1: the end. -/
def sg (L : List Int) (i : Int) : Int := if h : 0 ≤ i ∧ i.toNat < L.length then L[i.toNat]'h.2 else -1
/-- A reader: signs, and a place. -/
def rdB (L : List Int) (a : Int) : AB := .box 84 [.sl 1 (L.map rD), .val (.int .i64 a)]
def kA (k : Int) : AV := .val (.int .i64 k)
def escF (L : List Int) (i : Int) : Bool := decide (sg L i = 92) && !decide (sg L (i + 1) = 10)
def namesF (L : List Int) (i : Int) : Bool := if sg L i = 45 then letF (sg L (i + 1)) || decide (sg L (i + 1) = 45) || escF L (i + 1) else letF (sg L i) || escF L i

theorem sign_ok (L : List Int) (a k : Int) (hL : L.length ≤ 1099511627776) (ha : 0 ≤ a ∧ a ≤ 2199023255552) (hk : 0 ≤ k ∧ k ≤ 2199023255552) : MCalls Tryz.prog 55 [rdB L a] [.ptr 0 0, kA k] [rdB L a] (iA (sg L (a + k))) := by
  refine m_start Tryz.func55 Tryz.ntmps55 rfl rfl rfl fun S w β => ?_
  repeat (first | refine awp_seq ?_ | refine thenA_normal ?_ | refine a_region ?_ | refine a_draw1 mixed_ok (by kernel_rfl) ?_ | refine r_done ?_ | refine r_done' ?_ | (refine r_id ?_; first | refine r_len tab_ok rfl rfl rfl rfl rfl rfl rfl ?_ | refine r_ev tab_ok rfl rfl rfl rfl byE rfl ?_ | refine r_ld tab_ok rfl rfl rfl rfl rfl ?_ | refine r_nilck rfl rfl rfl rfl rfl rfl rfl ?_))
  refine awp_cond_p rfl (fun h => ?_) (fun h => ?_)
  · repeat (first | refine awp_seq ?_ | refine thenA_normal ?_ | refine a_region ?_ | refine awp_ret ?_ | refine thenA_ret ?_ | refine r_done ?_ | (refine r_id ?_; first | refine r_ev tab_ok rfl rfl rfl rfl byE rfl ?_) | refine retM1 byO rfl rfl rfl rfl rfl ?_)
    exact Sub.of_eq (by unfold sg iA; rw [dif_neg (by omega)])
  · have hlt : (a + k).toNat < L.length := by omega
    repeat (first | refine awp_seq ?_ | refine thenA_normal ?_ | refine a_draw1 mixed_ok (by kernel_rfl) ?_ | refine awp_ret ?_ | refine awp_skip ?_ | refine r_done' ?_ | (refine r_id ?_; first | refine r_ev tab_ok rfl rfl rfl rfl byE rfl ?_ | refine r_ld tab_ok rfl rfl rfl rfl rfl ?_ | refine r_idx tab_ok rfl rfl rfl rfl rfl rfl rfl (by first | exact ⟨by omega, by omega⟩ | (simp; omega)) rfl rfl ?_ | refine r_nilck rfl rfl rfl rfl rfl rfl rfl ?_) | refine retM1 byO rfl rfl rfl rfl rfl ?_)
    exact Sub.of_eq (by
      unfold sg iA
      rw [dif_pos ⟨by omega, hlt⟩])
theorem escape_ok (L : List Int) (a k : Int) (hL : L.length ≤ 1099511627776) (ha : 0 ≤ a ∧ a ≤ 2199023255552) (hk : 0 ≤ k ∧ k ≤ 1099511627776) : MCalls Tryz.prog 81 [rdB L a] [.ptr 0 0, kA k] [rdB L a] (.val (.bool (escF L (a + k)))) := by
  refine m_start Tryz.func81 Tryz.ntmps81 rfl rfl rfl fun S w β => ?_
  repeat (first | refine awp_seq ?_ | refine thenA_normal ?_ | refine a_region ?_ | refine awp_ret ?_ | refine r_done ?_ | (refine r_id ?_; first | refine r_ev tab_ok rfl rfl rfl rfl byE rfl ?_ | refine r_ev_cnd tab_ok rfl rfl rfl rfl rfl rfl byC (by first | exact fun _ => trivial | (intro h; simp at h; first | exact ⟨by omega, by omega⟩ | omega)) rfl ?_ | refine r_and rfl rfl rfl rfl rfl rfl rfl rfl ?_) | refine retM1 byO rfl rfl rfl rfl rfl ?_ | refine r_mro [0] (sign_ok _ _ _ hL (by omega) (by omega)) call55 rfl rfl ⟨rfl, trivial⟩ (by decide) ⟨Sub.refl _, Sub.refl _, trivial⟩ rfl rfl rfl rfl rfl rfl ?_ | refine r_mro_cnd [0] (fun _ => sign_ok _ _ _ hL (by omega) (by omega)) call55 rfl rfl rfl rfl byC ⟨rfl, trivial⟩ (by decide) ⟨Sub.refl _, Sub.refl _, trivial⟩ rfl rfl rfl rfl rfl rfl ?_)
  exact Sub.of_eq (by rw [escF, Int.add_assoc])
theorem names_ok (L : List Int) (a k : Int) (hL : L.length ≤ 1099511627776) (ha : 0 ≤ a ∧ a ≤ 2199023255552) (hk : 0 ≤ k ∧ k ≤ 549755813888) : MCalls Tryz.prog 82 [rdB L a] [.ptr 0 0, kA k] [rdB L a] (.val (.bool (namesF L (a + k)))) := by
  refine m_start Tryz.func82 Tryz.ntmps82 rfl rfl rfl fun S w β => ?_
  repeat (first | refine awp_seq ?_ | refine thenA_normal ?_ | refine a_region ?_ | refine r_done ?_ | (refine r_id ?_; first | refine r_ev tab_ok rfl rfl rfl rfl byE rfl ?_) | refine r_mro [0] (sign_ok _ _ _ hL (by omega) (by omega)) call55 rfl rfl ⟨rfl, trivial⟩ (by decide) ⟨Sub.refl _, Sub.refl _, trivial⟩ rfl rfl rfl rfl rfl rfl ?_)
  refine awp_cond_p rfl (fun h => ?_) (fun h => ?_)
  · repeat (first | refine awp_seq ?_ | refine thenA_normal ?_ | refine a_region ?_ | refine awp_ret ?_ | refine thenA_ret ?_ | refine r_done ?_ | (refine r_id ?_; first | refine r_ev tab_ok rfl rfl rfl rfl byE rfl ?_ | refine r_ev_cnd tab_ok rfl rfl rfl rfl rfl rfl byC (by first | exact fun _ => trivial | (intro h; simp at h; first | exact ⟨by omega, by omega⟩ | omega)) rfl ?_ | refine r_or rfl rfl rfl rfl rfl rfl rfl rfl ?_) | refine retM1 byO rfl rfl rfl rfl rfl ?_ | refine r_mro [0] (sign_ok _ _ _ hL (by omega) (by omega)) call55 rfl rfl ⟨rfl, trivial⟩ (by decide) ⟨Sub.refl _, Sub.refl _, trivial⟩ rfl rfl rfl rfl rfl rfl ?_ | refine r_mro_cnd [0] (fun _ => sign_ok _ _ _ hL (by omega) (by omega)) call55 rfl rfl rfl rfl byC ⟨rfl, trivial⟩ (by decide) ⟨Sub.refl _, Sub.refl _, trivial⟩ rfl rfl rfl rfl rfl rfl ?_ | refine r_mro_cnd [0] (fun _ => escape_ok _ _ _ hL (by omega) (by omega)) call81 rfl rfl rfl rfl byC ⟨rfl, trivial⟩ (by decide) ⟨Sub.refl _, Sub.refl _, trivial⟩ rfl rfl rfl rfl rfl rfl ?_ | refine r_call (refLetter _) call107 rfl rfl ⟨Sub.refl _, trivial⟩ rfl rfl rfl rfl ?_)
    exact Sub.of_eq (by rw [namesF, if_pos h, Int.add_assoc])
  · repeat (first | refine awp_seq ?_ | refine thenA_normal ?_ | refine a_region ?_ | refine awp_ret ?_ | refine awp_skip ?_ | refine r_done ?_ | (refine r_id ?_; first | refine r_ev tab_ok rfl rfl rfl rfl byE rfl ?_ | refine r_ev_cnd tab_ok rfl rfl rfl rfl rfl rfl byC (by first | exact fun _ => trivial | (intro h; simp at h; first | exact ⟨by omega, by omega⟩ | omega)) rfl ?_ | refine r_or rfl rfl rfl rfl rfl rfl rfl rfl ?_) | refine retM1 byO rfl rfl rfl rfl rfl ?_ | refine r_mro_cnd [0] (fun _ => escape_ok _ _ _ hL (by omega) (by omega)) call81 rfl rfl rfl rfl byC ⟨rfl, trivial⟩ (by decide) ⟨Sub.refl _, Sub.refl _, trivial⟩ rfl rfl rfl rfl rfl rfl ?_ | refine r_call (refLetter _) call107 rfl rfl ⟨Sub.refl _, trivial⟩ rfl rfl rfl rfl ?_)
    exact Sub.of_eq (by rw [namesF, if_neg h])
end Go.Proofs.YtiolnmfaeenlmaaGreatDoor

/- The reader: numbers, escapes, names. -/
namespace Go.Proofs.YtiolnmfaeenlmaaGreatDoor
open Go Go.RowKit

def numsF (L : List Int) (a : Int) : Bool := digF (sg L (a + if sg L a = 43 ∨ sg L a = 45 then 1 else 0)) || (decide (sg L (a + if sg L a = 43 ∨ sg L a = 45 then 1 else 0) = 46) && digF (sg L (a + if sg L a = 43 ∨ sg L a = 45 then 2 else 1)))
theorem numbers_ok (L : List Int) (a : Int) (hL : L.length ≤ 1099511627776) (ha : 0 ≤ a ∧ a ≤ 2199023255552) : MCalls Tryz.prog 85 [rdB L a] [.ptr 0 0] [rdB L a] (.val (.bool (numsF L a))) := by
  refine m_start Tryz.func85 Tryz.ntmps85 rfl rfl rfl fun S w β => ?_
  repeat (first | refine awp_seq ?_ | refine thenA_normal ?_ | refine a_region ?_ | refine r_done ?_ | (refine r_id ?_; first | refine r_ev tab_ok rfl rfl rfl rfl byE rfl ?_ | refine r_ev_cnd tab_ok rfl rfl rfl rfl rfl rfl byC (by first | exact fun _ => trivial | (intro h; simp at h; first | exact ⟨by omega, by omega⟩ | omega)) rfl ?_ | refine r_or rfl rfl rfl rfl rfl rfl rfl rfl ?_) | refine r_mro [0] (sign_ok _ _ _ hL (by omega) (by omega)) call55 rfl rfl ⟨rfl, trivial⟩ (by decide) ⟨Sub.refl _, Sub.refl _, trivial⟩ rfl rfl rfl rfl rfl rfl ?_)
  refine awp_cond rfl (fun h => ?_) (fun h => ?_)
  · have h' : sg L a = 43 ∨ sg L a = 45 := by simpa [Int.add_zero] using h
    repeat (first | refine awp_seq ?_ | refine thenA_normal ?_ | refine a_region ?_ | refine awp_ret ?_ | refine r_done ?_ | (refine r_id ?_; first | refine r_ev tab_ok rfl rfl rfl rfl byE rfl ?_ | refine r_ev_cnd tab_ok rfl rfl rfl rfl rfl rfl byC (by first | exact fun _ => trivial | (intro h; simp at h; first | exact ⟨by omega, by omega⟩ | omega)) rfl ?_ | refine r_and_cnd rfl rfl rfl rfl rfl rfl rfl rfl rfl rfl ?_ | refine r_or rfl rfl rfl rfl rfl rfl rfl rfl ?_) | refine retM1 byO rfl rfl rfl rfl rfl ?_ | refine r_mro [0] (sign_ok _ _ _ hL (by omega) (by omega)) call55 rfl rfl ⟨rfl, trivial⟩ (by decide) ⟨Sub.refl _, Sub.refl _, trivial⟩ rfl rfl rfl rfl rfl rfl ?_ | refine r_mro_cnd [0] (fun _ => sign_ok _ _ _ hL (by omega) (by omega)) call55 rfl rfl rfl rfl byC ⟨rfl, trivial⟩ (by decide) ⟨Sub.refl _, Sub.refl _, trivial⟩ rfl rfl rfl rfl rfl rfl ?_ | refine r_call (refDigit _) call84 rfl rfl ⟨Sub.refl _, trivial⟩ rfl rfl rfl rfl ?_ | refine r_call_cnd (fun _ => refDigit _) call84 rfl rfl rfl rfl byC ⟨Sub.refl _, trivial⟩ rfl rfl rfl rfl ?_)
    exact Sub.of_eq (by simp only [numsF, if_pos h']; rfl)
  · have h' : ¬ (sg L a = 43 ∨ sg L a = 45) := by
      rw [Int.add_zero] at h
      simp at h
      omega
    repeat (first | refine awp_seq ?_ | refine thenA_normal ?_ | refine a_region ?_ | refine awp_ret ?_ | refine awp_skip ?_ | refine r_done ?_ | (refine r_id ?_; first | refine r_ev tab_ok rfl rfl rfl rfl byE rfl ?_ | refine r_ev_cnd tab_ok rfl rfl rfl rfl rfl rfl byC (by first | exact fun _ => trivial | (intro h; simp at h; first | exact ⟨by omega, by omega⟩ | omega)) rfl ?_ | refine r_and_cnd rfl rfl rfl rfl rfl rfl rfl rfl rfl rfl ?_ | refine r_or rfl rfl rfl rfl rfl rfl rfl rfl ?_) | refine retM1 byO rfl rfl rfl rfl rfl ?_ | refine r_mro [0] (sign_ok _ _ _ hL (by omega) (by omega)) call55 rfl rfl ⟨rfl, trivial⟩ (by decide) ⟨Sub.refl _, Sub.refl _, trivial⟩ rfl rfl rfl rfl rfl rfl ?_ | refine r_mro_cnd [0] (fun _ => sign_ok _ _ _ hL (by omega) (by omega)) call55 rfl rfl rfl rfl byC ⟨rfl, trivial⟩ (by decide) ⟨Sub.refl _, Sub.refl _, trivial⟩ rfl rfl rfl rfl rfl rfl ?_ | refine r_call (refDigit _) call84 rfl rfl ⟨Sub.refl _, trivial⟩ rfl rfl rfl rfl ?_ | refine r_call_cnd (fun _ => refDigit _) call84 rfl rfl rfl rfl byC ⟨Sub.refl _, trivial⟩ rfl rfl rfl rfl ?_)
    exact Sub.of_eq (by simp only [numsF, if_neg h', Int.add_zero]; rfl)
/-- Up to so many hex digits: their number, and the place behind. -/
def hexR (L : List Int) : Nat → Nat → Int → Int × Nat
  | 0, i, n => (n, i)
  | m + 1, i, n => if (hexF (sg L i)).2 = true then hexR L m (i + 1) (n * 16 + (hexF (sg L i)).1) else (n, i)
def codeF (n : Int) : Int := if n = 0 ∨ (55296 ≤ n ∧ n ≤ 57343) ∨ 1114111 < n then 65533 else n
def escE (L : List Int) (i : Nat) : Int × Nat :=
  if sg L i < 0 then (65533, i) else if (hexF (sg L i)).2 = false then (sg L i, i + 1)
  else (codeF (hexR L 6 i 0).1, if whiteF (sg L (hexR L 6 i 0).2) = true then (hexR L 6 i 0).2 + 1 else (hexR L 6 i 0).2)
theorem hexF_lt (r : Int) : 0 ≤ (hexF r).1 ∧ (hexF r).1 < 16 := by
  unfold hexF
  split
  · simp only; omega
  · split
    · simp only; omega
    · split <;> simp only <;> omega
theorem sg_end {L : List Int} {i : Nat} (h : ¬ i < L.length) : sg L i = -1 := by rw [sg, dif_neg (by omega)]
theorem hexF_in {L : List Int} {i : Nat} (h : (hexF (sg L i)).2 = true) : i < L.length := by
  by_cases hi : i < L.length
  · exact hi
  · rw [sg_end hi] at h
    cases h
theorem hexR_le (L : List Int) : ∀ (m i : Nat) (n : Int), i ≤ L.length → i ≤ (hexR L m i n).2 ∧ (hexR L m i n).2 ≤ L.length
  | 0, i, n, h => ⟨Nat.le_refl _, h⟩
  | m + 1, i, n, h => by
    rw [hexR]
    split
    · rename_i hx
      have := hexR_le L m (i + 1) (n * 16 + (hexF (sg L i)).1) (hexF_in hx)
      omega
    · exact ⟨Nat.le_refl _, h⟩
theorem white_in {L : List Int} {i : Nat} (h : whiteF (sg L i) = true) : i < L.length := by
  by_cases hi : i < L.length
  · exact hi
  · rw [sg_end hi] at h
    cases h
theorem escE_le (L : List Int) (i : Nat) (h : i ≤ L.length) : i ≤ (escE L i).2 ∧ (escE L i).2 ≤ L.length := by
  unfold escE
  have := hexR_le L 6 i 0 h
  split
  · exact ⟨Nat.le_refl _, h⟩
  · split
    · rename_i h1 _
      have : i < L.length := by
        by_cases hi : i < L.length
        · exact hi
        · rw [sg_end hi] at h1; omega
      exact ⟨Nat.le_succ _, this⟩
    · dsimp only
      split
      · rename_i hw
        have := white_in hw
        omega
      · exact this
structure HS (L : List Int) (i0 : Nat) where
  k : Nat
  i : Nat
  n : Int
  hk : k ≤ 6
  hi : i ≤ L.length
  h0 : 0 ≤ n
  hn : n < 16 ^ k
  eq : hexR L (6 - k) i n = hexR L 6 i0 0
theorem pow16 {k : Nat} (h : k ≤ 6) : (16 : Int) ^ k ≤ 16777216 := by
  have : k = 0 ∨ k = 1 ∨ k = 2 ∨ k = 3 ∨ k = 4 ∨ k = 5 ∨ k = 6 := by omega
  rcases this with rfl | rfl | rfl | rfl | rfl | rfl | rfl <;> decide
set_option maxHeartbeats 2000000 in
theorem escaped_ok (L : List Int) (i : Nat) (hL : L.length ≤ 1099511627776) (hi : i ≤ L.length) : MCalls Tryz.prog 106 [rdB L i] [.ptr 0 0] [rdB L (escE L i).2] (iA (escE L i).1) := by
  refine m_start Tryz.func106 Tryz.ntmps106 rfl rfl rfl fun S w β => ?_
  repeat (first | refine awp_seq ?_ | refine thenA_normal ?_ | refine a_region ?_ | refine r_done ?_ | (refine r_id ?_; first | refine r_ev tab_ok rfl rfl rfl rfl byE rfl ?_) | refine r_mro [0] (sign_ok _ _ _ hL (by omega) (by omega)) call55 rfl rfl ⟨rfl, trivial⟩ (by decide) ⟨Sub.refl _, Sub.refl _, trivial⟩ rfl rfl rfl rfl rfl rfl ?_)
  rw [Int.add_zero]
  refine awp_cond_p rfl (fun h => ?_) (fun h => ?_)
  · rw [escE, if_pos h]
    repeat (first | refine awp_seq ?_ | refine thenA_normal ?_ | refine a_region ?_ | refine awp_ret ?_ | refine thenA_ret ?_ | refine r_done ?_ | (refine r_id ?_; first | refine r_ev tab_ok rfl rfl rfl rfl byE rfl ?_) | refine retM1 byO rfl rfl rfl rfl rfl ?_)
    exact Sub.refl _
  repeat (first | refine awp_seq ?_ | refine thenA_normal ?_ | refine a_region ?_ | refine awp_skip ?_ | refine r_done ?_ | (refine r_id ?_; first | refine r_ev tab_ok rfl rfl rfl rfl byE rfl ?_) | refine r_call (refHex _) call116 rfl rfl ⟨Sub.refl _, trivial⟩ rfl rfl rfl rfl ?_)
  refine awp_cond rfl (fun hx => ?_) (fun hx => ?_)
  · have hx' : (hexF (sg L i)).2 = false := by simpa using hx
    rw [escE, if_neg h, if_pos hx']
    repeat (first | refine awp_seq ?_ | refine thenA_normal ?_ | refine a_region ?_ | refine awp_ret ?_ | refine thenA_ret ?_ | refine r_done ?_ | (refine r_id ?_; first | refine r_ev tab_ok rfl rfl rfl rfl byE rfl ?_ | refine r_ld tab_ok rfl rfl rfl rfl rfl ?_ | refine r_st tab_ok rfl rfl rfl rfl ?_ | refine r_nilck rfl rfl rfl rfl rfl rfl rfl ?_) | refine retM1 byO rfl rfl rfl rfl rfl ?_)
    exact Sub.refl _
  have hx' : ¬ (hexF (sg L i)).2 = false := by simpa using hx
  rw [escE, if_neg h, if_neg hx']
  repeat (first | refine awp_seq ?_ | refine thenA_normal ?_ | refine awp_block ?_ | refine a_region ?_ | refine awp_skip ?_ | refine r_done ?_ | (refine r_id ?_; first | refine r_ev tab_ok rfl rfl rfl rfl byE rfl ?_))
  refine a_loop (σ := HS L i) (fun x => [rdB L x.i]) (fun x => [(0, .ptr 0 0), (6, .val (.int .i64 x.n)), (7, .val (.int .i64 x.k))]) (fun x => 6 - x.k) ⟨0, i, 0, by omega, hi, by omega, by decide, rfl⟩ (fits_convM byV byV ⟨trivial, trivial⟩) ?_
  rintro ⟨k, j, n, hk, hj, h0, hn, heq⟩
  dsimp only
  have hp := pow16 hk
  repeat (first | refine awp_seq ?_ | refine thenA_normal ?_ | refine a_region ?_ | refine r_done ?_ | (refine r_id ?_; first | refine r_ev tab_ok rfl rfl rfl rfl byE rfl ?_))
  refine awp_cond_p rfl (fun hlt => ?_) (fun hge => ?_)
  · obtain ⟨m, hm⟩ : ∃ m, 6 - k = m + 1 := ⟨5 - k, by omega⟩
    have hm' : 6 - (k + 1) = m := by omega
    rw [hm, hexR] at heq
    have hlt16 := hexF_lt (sg L j)
    repeat (first | refine awp_seq ?_ | refine thenA_normal ?_ | refine awp_block ?_ | refine a_region ?_ | refine awp_skip ?_ | refine r_done ?_ | (refine r_id ?_; first | refine r_ev tab_ok rfl rfl rfl rfl byE rfl ?_) | refine r_mro [0] (sign_ok _ _ _ hL (by omega) (by omega)) call55 rfl rfl ⟨rfl, trivial⟩ (by decide) ⟨Sub.refl _, Sub.refl _, trivial⟩ rfl rfl rfl rfl rfl rfl ?_ | refine r_call (refHex _) call116 rfl rfl ⟨Sub.refl _, trivial⟩ rfl rfl rfl rfl ?_)
    rw [Int.add_zero]
    refine awp_cond rfl (fun hd => ?_) (fun hd => ?_)
    · have hd' : ¬ (hexF (sg L j)).2 = true := by simpa using hd
      rw [if_neg hd'] at heq
      rw [← heq]
      dsimp only
      repeat (first | refine awp_seq ?_ | refine thenA_normal ?_ | refine a_region ?_ | refine awp_exit ?_ | refine r_done ?_ | (refine r_id ?_; first | refine r_ev tab_ok rfl rfl rfl rfl byE rfl ?_) | refine r_mro [0] (sign_ok _ _ _ hL (by omega) (by omega)) call55 rfl rfl ⟨rfl, trivial⟩ (by decide) ⟨Sub.refl _, Sub.refl _, trivial⟩ rfl rfl rfl rfl rfl rfl ?_ | refine r_call (refWhite _) call78 rfl rfl ⟨Sub.refl _, trivial⟩ rfl rfl rfl rfl ?_)
      rw [Int.add_zero]
      refine awp_cond rfl (fun hw => ?_) (fun hw => ?_)
      · rw [if_pos hw]
        repeat (first | refine awp_seq ?_ | refine thenA_normal ?_ | refine a_region ?_ | refine r_done ?_ | (refine r_id ?_; first | refine r_ev tab_ok rfl rfl rfl rfl byE rfl ?_ | refine r_ld tab_ok rfl rfl rfl rfl rfl ?_ | refine r_st tab_ok rfl rfl rfl rfl ?_ | refine r_ev_cnd tab_ok rfl rfl rfl rfl rfl rfl byC (by first | exact fun _ => trivial | (intro h; simp at h; first | exact ⟨by omega, by omega⟩ | omega)) rfl ?_ | refine r_and_cnd rfl rfl rfl rfl rfl rfl rfl rfl rfl rfl ?_ | refine r_or rfl rfl rfl rfl rfl rfl rfl rfl ?_ | refine r_nilck rfl rfl rfl rfl rfl rfl rfl ?_))
        refine awp_cond rfl (fun hc => ?_) (fun hc => ?_)
        · rw [codeF, if_pos (by simp at hc; omega)]
          repeat (first | refine awp_seq ?_ | refine thenA_normal ?_ | refine a_region ?_ | refine awp_ret ?_ | refine thenA_ret ?_ | refine r_done ?_ | (refine r_id ?_; first | refine r_ev tab_ok rfl rfl rfl rfl byE rfl ?_) | refine retM1 byO rfl rfl rfl rfl rfl ?_)
          exact Sub.refl _
        · have hc' : ¬ (n = 0 ∨ (55296 ≤ n ∧ n ≤ 57343) ∨ 1114111 < n) := by simp at hc; omega
          rw [codeF, if_neg hc']
          repeat (first | refine awp_seq ?_ | refine thenA_normal ?_ | refine a_region ?_ | refine awp_ret ?_ | refine awp_skip ?_ | refine r_done ?_ | (refine r_id ?_; first | refine r_ev tab_ok rfl rfl rfl rfl byE rfl ?_) | refine retM1 byO rfl rfl rfl rfl rfl ?_)
          exact Sub.refl _
      · rw [if_neg (by rw [hw]; decide)]
        repeat (first | refine awp_seq ?_ | refine thenA_normal ?_ | refine a_region ?_ | refine awp_skip ?_ | refine r_done ?_ | (refine r_id ?_; first | refine r_ev tab_ok rfl rfl rfl rfl byE rfl ?_ | refine r_ev_cnd tab_ok rfl rfl rfl rfl rfl rfl byC (by first | exact fun _ => trivial | (intro h; simp at h; first | exact ⟨by omega, by omega⟩ | omega)) rfl ?_ | refine r_and_cnd rfl rfl rfl rfl rfl rfl rfl rfl rfl rfl ?_ | refine r_or rfl rfl rfl rfl rfl rfl rfl rfl ?_))
        refine awp_cond rfl (fun hc => ?_) (fun hc => ?_)
        · rw [codeF, if_pos (by simp at hc; omega)]
          repeat (first | refine awp_seq ?_ | refine thenA_normal ?_ | refine a_region ?_ | refine awp_ret ?_ | refine thenA_ret ?_ | refine r_done ?_ | (refine r_id ?_; first | refine r_ev tab_ok rfl rfl rfl rfl byE rfl ?_) | refine retM1 byO rfl rfl rfl rfl rfl ?_)
          exact Sub.refl _
        · have hc' : ¬ (n = 0 ∨ (55296 ≤ n ∧ n ≤ 57343) ∨ 1114111 < n) := by simp at hc; omega
          rw [codeF, if_neg hc']
          repeat (first | refine awp_seq ?_ | refine thenA_normal ?_ | refine a_region ?_ | refine awp_ret ?_ | refine awp_skip ?_ | refine r_done ?_ | (refine r_id ?_; first | refine r_ev tab_ok rfl rfl rfl rfl byE rfl ?_) | refine retM1 byO rfl rfl rfl rfl rfl ?_)
          exact Sub.refl _
    · have hd' : (hexF (sg L j)).2 = true := by simpa using hd
      rw [if_pos hd'] at heq
      have hin := hexF_in hd'
      repeat (first | refine awp_seq ?_ | refine thenA_normal ?_ | refine a_region ?_ | refine awp_skip ?_ | refine r_done ?_ | (refine r_id ?_; first | refine r_ev tab_ok rfl rfl rfl rfl byE rfl ?_ | refine r_ld tab_ok rfl rfl rfl rfl rfl ?_ | refine r_st tab_ok rfl rfl rfl rfl ?_ | refine r_nilck rfl rfl rfl rfl rfl rfl rfl ?_))
      exact ⟨⟨k + 1, j + 1, n * 16 + (hexF (sg L j)).1, by omega, hin, by omega, by rw [Int.pow_succ]; omega, by rw [hm']; exact heq⟩, by dsimp only; omega, fits_convM byV byV ⟨trivial, trivial⟩⟩
  · have hk6 : 6 - k = 0 := by omega
    rw [hk6, hexR] at heq
    rw [← heq]
    dsimp only
    repeat (first | refine awp_seq ?_ | refine thenA_normal ?_ | refine a_region ?_ | refine awp_exit ?_ | refine r_done ?_ | (refine r_id ?_; first | refine r_ev tab_ok rfl rfl rfl rfl byE rfl ?_) | refine r_mro [0] (sign_ok _ _ _ hL (by omega) (by omega)) call55 rfl rfl ⟨rfl, trivial⟩ (by decide) ⟨Sub.refl _, Sub.refl _, trivial⟩ rfl rfl rfl rfl rfl rfl ?_ | refine r_call (refWhite _) call78 rfl rfl ⟨Sub.refl _, trivial⟩ rfl rfl rfl rfl ?_)
    rw [Int.add_zero]
    refine awp_cond rfl (fun hw => ?_) (fun hw => ?_)
    · rw [if_pos hw]
      repeat (first | refine awp_seq ?_ | refine thenA_normal ?_ | refine a_region ?_ | refine r_done ?_ | (refine r_id ?_; first | refine r_ev tab_ok rfl rfl rfl rfl byE rfl ?_ | refine r_ld tab_ok rfl rfl rfl rfl rfl ?_ | refine r_st tab_ok rfl rfl rfl rfl ?_ | refine r_ev_cnd tab_ok rfl rfl rfl rfl rfl rfl byC (by first | exact fun _ => trivial | (intro h; simp at h; first | exact ⟨by omega, by omega⟩ | omega)) rfl ?_ | refine r_and_cnd rfl rfl rfl rfl rfl rfl rfl rfl rfl rfl ?_ | refine r_or rfl rfl rfl rfl rfl rfl rfl rfl ?_ | refine r_nilck rfl rfl rfl rfl rfl rfl rfl ?_))
      refine awp_cond rfl (fun hc => ?_) (fun hc => ?_)
      · rw [codeF, if_pos (by simp at hc; omega)]
        repeat (first | refine awp_seq ?_ | refine thenA_normal ?_ | refine a_region ?_ | refine awp_ret ?_ | refine thenA_ret ?_ | refine r_done ?_ | (refine r_id ?_; first | refine r_ev tab_ok rfl rfl rfl rfl byE rfl ?_) | refine retM1 byO rfl rfl rfl rfl rfl ?_)
        exact Sub.refl _
      · have hc' : ¬ (n = 0 ∨ (55296 ≤ n ∧ n ≤ 57343) ∨ 1114111 < n) := by simp at hc; omega
        rw [codeF, if_neg hc']
        repeat (first | refine awp_seq ?_ | refine thenA_normal ?_ | refine a_region ?_ | refine awp_ret ?_ | refine awp_skip ?_ | refine r_done ?_ | (refine r_id ?_; first | refine r_ev tab_ok rfl rfl rfl rfl byE rfl ?_) | refine retM1 byO rfl rfl rfl rfl rfl ?_)
        exact Sub.refl _
    · rw [if_neg (by rw [hw]; decide)]
      repeat (first | refine awp_seq ?_ | refine thenA_normal ?_ | refine a_region ?_ | refine awp_skip ?_ | refine r_done ?_ | (refine r_id ?_; first | refine r_ev tab_ok rfl rfl rfl rfl byE rfl ?_ | refine r_ev_cnd tab_ok rfl rfl rfl rfl rfl rfl byC (by first | exact fun _ => trivial | (intro h; simp at h; first | exact ⟨by omega, by omega⟩ | omega)) rfl ?_ | refine r_and_cnd rfl rfl rfl rfl rfl rfl rfl rfl rfl rfl ?_ | refine r_or rfl rfl rfl rfl rfl rfl rfl rfl ?_))
      refine awp_cond rfl (fun hc => ?_) (fun hc => ?_)
      · rw [codeF, if_pos (by simp at hc; omega)]
        repeat (first | refine awp_seq ?_ | refine thenA_normal ?_ | refine a_region ?_ | refine awp_ret ?_ | refine thenA_ret ?_ | refine r_done ?_ | (refine r_id ?_; first | refine r_ev tab_ok rfl rfl rfl rfl byE rfl ?_) | refine retM1 byO rfl rfl rfl rfl rfl ?_)
        exact Sub.refl _
      · have hc' : ¬ (n = 0 ∨ (55296 ≤ n ∧ n ≤ 57343) ∨ 1114111 < n) := by simp at hc; omega
        rw [codeF, if_neg hc']
        repeat (first | refine awp_seq ?_ | refine thenA_normal ?_ | refine a_region ?_ | refine awp_ret ?_ | refine awp_skip ?_ | refine r_done ?_ | (refine r_id ?_; first | refine r_ev tab_ok rfl rfl rfl rfl byE rfl ?_) | refine retM1 byO rfl rfl rfl rfl rfl ?_)
        exact Sub.refl _
end Go.Proofs.YtiolnmfaeenlmaaGreatDoor

/- Loops that go on over places; names and digits. -/
namespace Go.Proofs.YtiolnmfaeenlmaaGreatDoor
open Go Go.RowKit

section
variable {α R : Type}
/-- From place to place, with what each step puts out, to the end. -/
def goE (step : Nat → (List α × Nat) ⊕ R) : Nat → Nat → List α × Option R
  | 0, _ => ([], none)
  | f + 1, i => match step i with
    | .inl (o, j) => (o ++ (goE step f j).1, (goE step f j).2)
    | .inr r => ([], some r)
def goAt (n : Nat) (step : Nat → (List α × Nat) ⊕ R) (i : Nat) : List α × Option R := goE step (n + 1 - i) i
/-- Each step goes on, not beyond the end, and puts out no more than it passes. -/
def Goes2 (n : Nat) (step : Nat → (List α × Nat) ⊕ R) : Prop := ∀ i o j, i ≤ n → step i = .inl (o, j) → i < j ∧ j ≤ n ∧ i + o.length ≤ j
theorem goE_fuel {n : Nat} {step : Nat → (List α × Nat) ⊕ R} (hs : Goes2 n step) : ∀ (f g i : Nat), i ≤ n → n + 1 - i ≤ f → n + 1 - i ≤ g → goE step f i = goE step g i
  | 0, _, i, hi, h, _ => by omega
  | _ + 1, 0, i, hi, _, h => by omega
  | f + 1, g + 1, i, hi, h, h' => by
    rw [goE, goE]
    cases e : step i with
    | inr r => rfl
    | inl p =>
      obtain ⟨o, j⟩ := p
      have := hs i o j hi e
      simp only
      rw [goE_fuel hs f g j (by omega) (by omega) (by omega)]
theorem goAt_go {n : Nat} {step : Nat → (List α × Nat) ⊕ R} (hs : Goes2 n step) {i : Nat} (hi : i ≤ n) {o : List α} {j : Nat} (h : step i = .inl (o, j)) : goAt n step i = (o ++ (goAt n step j).1, (goAt n step j).2) := by
  have h1 := hs i o j hi h
  unfold goAt
  rw [show n + 1 - i = (n - i) + 1 by omega, goE, h]
  simp only
  rw [goE_fuel hs (n - i) (n + 1 - j) j (by omega) (by omega) (by omega)]
theorem goAt_stop {n : Nat} {step : Nat → (List α × Nat) ⊕ R} {i : Nat} (hi : i ≤ n) {r : R} (h : step i = .inr r) : goAt n step i = ([], some r) := by
  unfold goAt
  rw [show n + 1 - i = (n - i) + 1 by omega, goE, h]
/-- A state of such a loop. -/
structure GS (n : Nat) (step : Nat → (List α × Nat) ⊕ R) (i0 : Nat) where
  out : List α
  i : Nat
  le : i ≤ n
  len : out.length ≤ i
  eq : (out ++ (goAt n step i).1, (goAt n step i).2) = goAt n step i0
def GS.start {n : Nat} {step : Nat → (List α × Nat) ⊕ R} {i0 : Nat} (h : i0 ≤ n) : GS n step i0 := ⟨[], i0, h, Nat.zero_le _, rfl⟩
def GS.next {n : Nat} {step : Nat → (List α × Nat) ⊕ R} {i0 : Nat} (x : GS n step i0) (hs : Goes2 n step) {o : List α} {j : Nat} (h : step x.i = .inl (o, j)) : GS n step i0 :=
  ⟨x.out ++ o, j, (hs _ _ _ x.le h).2.1, by have := hs _ _ _ x.le h; have := x.len; rw [List.length_append]; omega, by rw [← x.eq, goAt_go hs x.le h, List.append_assoc]⟩
theorem GS.stop {n : Nat} {step : Nat → (List α × Nat) ⊕ R} {i0 : Nat} (x : GS n step i0) {r : R} (h : step x.i = .inr r) : goAt n step i0 = (x.out, some r) := by
  rw [← x.eq, goAt_stop x.le h, List.append_nil]
/-- The end is found, and it is an end. -/
theorem goAt_end {n : Nat} {step : Nat → (List α × Nat) ⊕ R} (hs : Goes2 n step) : ∀ (k i : Nat), i ≤ n → n - i ≤ k → ∃ r j, (goAt n step i).2 = some r ∧ i ≤ j ∧ j ≤ n ∧ step j = .inr r ∧ i + (goAt n step i).1.length ≤ j
  | k, i, hi, hk => by
    cases e : step i with
    | inr r => exact ⟨r, i, by rw [goAt_stop hi e], Nat.le_refl _, hi, e, by rw [goAt_stop hi e]; exact Nat.le_refl _⟩
    | inl p =>
      obtain ⟨o, j⟩ := p
      have h1 := hs i o j hi e
      cases k with
      | zero => omega
      | succ k =>
        obtain ⟨r, j', h2, h3, h4, h5, h6⟩ := goAt_end hs k j h1.2.1 (by omega)
        refine ⟨r, j', by rw [goAt_go hs hi e]; exact h2, by omega, h4, h5, ?_⟩
        rw [goAt_go hs hi e]
        simp only [List.length_append]
        omega
end
theorem runes_foldl (l : List Int) : ∀ r : ByteArray, l.foldl (fun r n => r ++ Utf8.encode n) r = r ++ l.foldl (fun r n => r ++ Utf8.encode n) ByteArray.empty := by
  induction l with
  | nil => intro r; simp
  | cons x l ih =>
    intro r
    rw [List.foldl_cons, ih, List.foldl_cons, ih (ByteArray.empty ++ _), ← ByteArray.append_assoc]
    congr 1
theorem runes_append (a b : List Int) : runesBytes (a ++ b) = runesBytes a ++ runesBytes b := by
  rw [runesBytes, List.foldl_append, runes_foldl b, ← runesBytes, ← runesBytes]
theorem sg_in {L : List Int} {i : Nat} (h : sg L i ≠ -1) : i < L.length := by
  by_cases hi : i < L.length
  · exact hi
  · exact absurd (sg_end hi) h

def digStep (L : List Int) (i : Nat) : (List Int × Nat) ⊕ Nat := if digF (sg L i) = true then .inl ([sg L i], i + 1) else .inr i
theorem digStep_goes (L : List Int) : Goes2 L.length (digStep L) := by
  intro i o j hi h
  unfold digStep at h
  split at h
  · rename_i hd
    cases h
    have : i < L.length := sg_in (by intro h; rw [h] at hd; cases hd)
    exact ⟨by omega, this, Nat.le_refl _⟩
  · cases h
def digAt (L : List Int) (i : Nat) : List Int := (goAt L.length (digStep L) i).1
def digEnd (L : List Int) (i : Nat) : Nat := ((goAt L.length (digStep L) i).2).getD 0
theorem digits_ok (L : List Int) (i : Nat) (hL : L.length ≤ 1099511627776) (hi : i ≤ L.length) : MCalls Tryz.prog 108 [rdB L i] [.ptr 0 0] [rdB L (digEnd L i)] (.val (.string (runesBytes (digAt L i)))) := by
  refine m_start Tryz.func108 Tryz.ntmps108 rfl rfl rfl fun S w β => ?_
  repeat (first | refine awp_seq ?_ | refine awp_block ?_ | refine a_region ?_ | refine r_done ?_ | (refine r_id ?_; first | refine r_ev tab_ok rfl rfl rfl rfl byE rfl ?_))
  refine a_loop (σ := GS L.length (digStep L) i) (fun x => [rdB L x.i]) (fun x => [(0, .ptr 0 0), (3, .val (.string (runesBytes x.out)))]) (fun x => L.length - x.i) (GS.start hi) (fits_convM byV byV ⟨trivial, trivial⟩) ?_
  intro x
  have hlen := x.len
  have hle := x.le
  have hsz := runesBytes_size_le x.out
  have hs1 := runesBytes_size_le [sg L x.i]
  have hs1' : [sg L x.i].length = 1 := rfl
  repeat (first | refine awp_seq ?_ | refine thenA_normal ?_ | refine a_region ?_ | refine r_done ?_ | (refine r_id ?_; first | refine r_ev tab_ok rfl rfl rfl rfl byE rfl ?_) | refine r_mro [0] (sign_ok _ _ _ hL (by omega) (by omega)) call55 rfl rfl ⟨rfl, trivial⟩ (by decide) ⟨Sub.refl _, Sub.refl _, trivial⟩ rfl rfl rfl rfl rfl rfl ?_ | refine r_call (refDigit _) call84 rfl rfl ⟨Sub.refl _, trivial⟩ rfl rfl rfl rfl ?_)
  rw [Int.add_zero]
  refine awp_cond rfl (fun h => ?_) (fun h => ?_)
  · have hst : digStep L x.i = .inl ([sg L x.i], x.i + 1) := if_pos h
    have hg := digStep_goes L _ _ _ hle hst
    repeat (first | refine awp_seq ?_ | refine thenA_normal ?_ | refine awp_block ?_ | refine a_region ?_ | refine awp_skip ?_ | (refine r_id ?_; first | refine r_ev tab_ok rfl rfl rfl rfl byE rfl ?_) | refine r_mro [0] (sign_ok _ _ _ hL (by omega) (by omega)) call55 rfl rfl ⟨rfl, trivial⟩ (by decide) ⟨Sub.refl _, Sub.refl _, trivial⟩ rfl rfl rfl rfl rfl rfl ?_ | refine r_call (refPut _) call77 rfl rfl ⟨Sub.refl _, trivial⟩ rfl rfl rfl rfl ?_)
    rw [Int.add_zero]
    repeat (first | refine thenA_normal ?_ | refine a_region ?_ | refine blockA_normal ?_ | refine r_done ?_ | (refine r_id ?_; first | refine r_ev tab_ok rfl rfl rfl rfl byE rfl ?_ | refine r_ld tab_ok rfl rfl rfl rfl rfl ?_ | refine r_st tab_ok rfl rfl rfl rfl ?_ | refine r_nilck rfl rfl rfl rfl rfl rfl rfl ?_))
    refine ⟨x.next (digStep_goes L) hst, by dsimp only [GS.next]; omega, ?_⟩
    dsimp only [GS.next]
    rw [runes_append]
    exact fits_convM byV byV ⟨trivial, trivial⟩
  · have hst : digStep L x.i = .inr x.i := if_neg (by rw [h]; decide)
    have := x.stop hst
    rw [digEnd, digAt, this]
    repeat (first | refine awp_seq ?_ | refine thenA_normal ?_ | refine a_region ?_ | refine awp_ret ?_ | refine awp_exit ?_ | refine r_done ?_ | (refine r_id ?_; first | refine r_ev tab_ok rfl rfl rfl rfl byE rfl ?_) | refine retM1 byO rfl rfl rfl rfl rfl ?_)
    exact Sub.refl _
def nameStep (L : List Int) (i : Nat) : (List Int × Nat) ⊕ Nat := if nameF (sg L i) = true then .inl ([sg L i], i + 1) else if escF L i = true then .inl ([(escE L (i + 1)).1], (escE L (i + 1)).2) else .inr i
theorem esc_in {L : List Int} {i : Nat} (h : escF L i = true) : i < L.length := by
  refine sg_in fun h' => ?_
  rw [escF, h'] at h
  cases h
theorem nameStep_goes (L : List Int) : Goes2 L.length (nameStep L) := by
  intro i o j hi h
  unfold nameStep at h
  split at h
  · rename_i hd
    cases h
    have : i < L.length := sg_in (by intro h; rw [h] at hd; cases hd)
    exact ⟨by omega, this, Nat.le_refl _⟩
  · split at h
    · rename_i hd
      cases h
      have h1 := esc_in hd
      have h2 := escE_le L (i + 1) h1
      exact ⟨by omega, h2.2, by simp only [List.length_singleton]; omega⟩
    · cases h
def nameAt (L : List Int) (i : Nat) : List Int := (goAt L.length (nameStep L) i).1
def nameEnd (L : List Int) (i : Nat) : Nat := ((goAt L.length (nameStep L) i).2).getD 0
theorem name_ok (L : List Int) (i : Nat) (hL : L.length ≤ 1099511627776) (hi : i ≤ L.length) : MCalls Tryz.prog 83 [rdB L i] [.ptr 0 0] [rdB L (nameEnd L i)] (.val (.string (runesBytes (nameAt L i)))) := by
  refine m_start Tryz.func83 Tryz.ntmps83 rfl rfl rfl fun S w β => ?_
  repeat (first | refine awp_seq ?_ | refine thenA_normal ?_ | refine awp_block ?_ | refine a_region ?_ | refine r_done ?_ | (refine r_id ?_; first | refine r_ev tab_ok rfl rfl rfl rfl byE rfl ?_))
  refine a_loop (σ := GS L.length (nameStep L) i) (fun x => [rdB L x.i]) (fun x => [(0, .ptr 0 0), (3, .val (.string (runesBytes x.out)))]) (fun x => L.length - x.i) (GS.start hi) (fits_convM byV byV ⟨trivial, trivial⟩) ?_
  intro x
  have hlen := x.len
  have hle := x.le
  have hsz := runesBytes_size_le x.out
  have hs1 := runesBytes_size_le [sg L x.i]
  have hs1' : [sg L x.i].length = 1 := rfl
  repeat (first | refine awp_seq ?_ | refine thenA_normal ?_ | refine awp_block ?_ | refine a_region ?_ | refine r_done ?_ | (refine r_id ?_; first | refine r_ev tab_ok rfl rfl rfl rfl byE rfl ?_) | refine r_mro [0] (sign_ok _ _ _ hL (by omega) (by omega)) call55 rfl rfl ⟨rfl, trivial⟩ (by decide) ⟨Sub.refl _, Sub.refl _, trivial⟩ rfl rfl rfl rfl rfl rfl ?_ | refine r_call (refName _) call80 rfl rfl ⟨Sub.refl _, trivial⟩ rfl rfl rfl rfl ?_)
  rw [Int.add_zero]
  refine awp_cond rfl (fun h => ?_) (fun h => ?_)
  · have hst : nameStep L x.i = .inl ([sg L x.i], x.i + 1) := if_pos h
    have hg := nameStep_goes L _ _ _ hle hst
    repeat (first | refine awp_seq ?_ | refine a_region ?_ | (refine r_id ?_; first | refine r_ev tab_ok rfl rfl rfl rfl byE rfl ?_) | refine r_mro [0] (sign_ok _ _ _ hL (by omega) (by omega)) call55 rfl rfl ⟨rfl, trivial⟩ (by decide) ⟨Sub.refl _, Sub.refl _, trivial⟩ rfl rfl rfl rfl rfl rfl ?_ | refine r_call (refPut _) call77 rfl rfl ⟨Sub.refl _, trivial⟩ rfl rfl rfl rfl ?_)
    rw [Int.add_zero]
    repeat (first | refine thenA_normal ?_ | refine a_region ?_ | refine blockA_normal ?_ | refine r_done ?_ | (refine r_id ?_; first | refine r_ev tab_ok rfl rfl rfl rfl byE rfl ?_ | refine r_ld tab_ok rfl rfl rfl rfl rfl ?_ | refine r_st tab_ok rfl rfl rfl rfl ?_ | refine r_nilck rfl rfl rfl rfl rfl rfl rfl ?_))
    refine ⟨x.next (nameStep_goes L) hst, by dsimp only [GS.next]; omega, ?_⟩
    dsimp only [GS.next]
    rw [runes_append]
    exact fits_convM byV byV ⟨trivial, trivial⟩
  have hn' : ¬ nameF (sg L x.i) = true := by rw [h]; decide
  repeat (first | refine awp_seq ?_ | refine thenA_normal ?_ | refine a_region ?_ | refine r_done ?_ | (refine r_id ?_; first | refine r_ev tab_ok rfl rfl rfl rfl byE rfl ?_) | refine r_mro [0] (escape_ok _ _ _ hL (by omega) (by omega)) call81 rfl rfl ⟨rfl, trivial⟩ (by decide) ⟨Sub.refl _, Sub.refl _, trivial⟩ rfl rfl rfl rfl rfl rfl ?_)
  rw [Int.add_zero]
  refine awp_cond rfl (fun h2 => ?_) (fun h2 => ?_)
  · have hst : nameStep L x.i = .inl ([(escE L (x.i + 1)).1], (escE L (x.i + 1)).2) := by rw [nameStep, if_neg hn', if_pos h2]
    have hg := nameStep_goes L _ _ _ hle hst
    have hin := esc_in h2
    have hs2 := runesBytes_size_le [(escE L (x.i + 1)).1]
    have hs2' : [(escE L (x.i + 1)).1].length = 1 := rfl
    repeat (first | refine awp_seq ?_ | refine thenA_normal ?_ | refine a_region ?_ | refine r_done ?_ | (refine r_id ?_; first | refine r_ev tab_ok rfl rfl rfl rfl byE rfl ?_ | refine r_ld tab_ok rfl rfl rfl rfl rfl ?_ | refine r_st tab_ok rfl rfl rfl rfl ?_ | refine r_nilck rfl rfl rfl rfl rfl rfl rfl ?_))
    refine r_mcall [0] (escaped_ok L (x.i + 1) hL (by omega)) call106 rfl rfl ⟨rfl, trivial⟩ (by decide) ⟨Sub.refl _, trivial⟩ rfl rfl rfl rfl rfl rfl rfl ?_
    repeat (first | refine thenA_normal ?_ | refine blockA_normal ?_ | refine r_done ?_ | (refine r_id ?_; first | refine r_ev tab_ok rfl rfl rfl rfl byE rfl ?_) | refine r_call (refPut _) call77 rfl rfl ⟨Sub.refl _, trivial⟩ rfl rfl rfl rfl ?_)
    refine ⟨x.next (nameStep_goes L) hst, by dsimp only [GS.next]; omega, ?_⟩
    dsimp only [GS.next]
    rw [runes_append]
    exact fits_convM byV byV ⟨trivial, trivial⟩
  · have hst : nameStep L x.i = .inr x.i := by rw [nameStep, if_neg hn', if_neg (by rw [h2]; decide)]
    have := x.stop hst
    rw [nameEnd, nameAt, this]
    repeat (first | refine awp_seq ?_ | refine thenA_normal ?_ | refine a_region ?_ | refine awp_ret ?_ | refine thenA_ret ?_ | refine blockA_ret ?_ | refine r_done ?_ | (refine r_id ?_; first | refine r_ev tab_ok rfl rfl rfl rfl byE rfl ?_) | refine retM1 byO rfl rfl rfl rfl rfl ?_)
    exact Sub.refl _
end Go.Proofs.YtiolnmfaeenlmaaGreatDoor

/- The reader: whole numbers. -/
namespace Go.Proofs.YtiolnmfaeenlmaaGreatDoor
open Go Go.RowKit

def intGo : List UInt8 → Int → Option Int
  | [], n => some n
  | b :: r, n => if b.toNat < 48 ∨ 57 < b.toNat then none else intGo r (min (n * 10 + ((b.toNat : Int) - 48)) 4294967296)
def intK (l : List UInt8) : Nat := if 0 < l.length ∧ ((l.getD 0 0).toNat = 43 ∨ (l.getD 0 0).toNat = 45) then 1 else 0
def intF (s : ByteArray) : Int :=
  if intK s.data.toList = s.data.toList.length then 0
  else match intGo (s.data.toList.drop (intK s.data.toList)) 0 with
    | none => 0
    | some n => if (s.data.toList.getD 0 0).toNat = 45 then max (-n) (-2147483648) else min n 2147483647
structure IS (l : List UInt8) (k : Nat) where
  i : Nat
  n : Int
  hi : i ≤ l.length
  hk : k ≤ i
  h0 : 0 ≤ n
  hn : n ≤ 4294967296
  eq : intGo (l.drop i) n = intGo (l.drop k) 0
theorem drop_byte {l : List UInt8} {i : Nat} (h : i < l.length) : l.drop i = l.getD i 0 :: l.drop (i + 1) := by
  rw [List.drop_eq_getElem_cons h]
  congr 1
  simp [List.getD_eq_getElem?_getD, h]
theorem intK_le (l : List UInt8) : intK l ≤ l.length := by
  unfold intK
  split <;> omega
theorem int_ok (s : ByteArray) (hs : s.size ≤ 8796093022208) : PCalls Tryz.prog 109 [.val (.string s)] (.val (.int .i64 (intF s))) := by
  refine p_start Tryz.func109 Tryz.ntmps109 rfl rfl rfl fun S w => ?_
  have hsz := str_size s
  have hkl := intK_le s.data.toList
  unfold intF
  generalize hK : intK s.data.toList = k at hkl ⊢
  repeat (first | refine awp_seq ?_ | refine thenA_normal ?_ | refine a_region ?_ | refine r_done ?_ | (refine r_id ?_; first | refine r_ev tab_ok rfl rfl rfl rfl byE rfl ?_ | refine r_ev_cnd tab_ok rfl rfl rfl rfl rfl rfl byC (by first | exact fun _ => trivial | (intro h; simp at h; first | exact ⟨by omega, by omega⟩ | omega)) rfl ?_ | refine r_or_cnd rfl rfl rfl rfl rfl rfl rfl rfl rfl rfl ?_ | refine r_and rfl rfl rfl rfl rfl rfl rfl rfl ?_))
  refine awp_cond rfl (fun h => ?_) (fun h => ?_)
  · have e : k = 1 := by
      rw [← hK, intK]
      refine if_pos ?_
      rw [show Int.toNat 0 = 0 from rfl] at h
      simp only [Bool.and_eq_true, Bool.or_eq_true, decide_eq_true_eq] at h
      omega
    refine a_region ?_
    repeat (first | refine awp_seq ?_ | refine r_done ?_ | (refine r_id ?_; first | refine r_ev tab_ok rfl rfl rfl rfl byE rfl ?_))
    refine awp_fits (s' := ⟨[], [(0, .val (.string s)), (3, .val (.int .i64 k))]⟩) (fits_conv byV ⟨c_sub rfl (Sub.refl _) rfl, c_sub rfl (Sub.of_eq (by rw [e]; rfl)) rfl, trivial⟩) ?_
    repeat (first | refine thenA_normal ?_ | refine a_region ?_ | refine r_done ?_ | (refine r_id ?_; first | refine r_ev tab_ok rfl rfl rfl rfl byE rfl ?_))
    refine awp_cond_p rfl (fun hk => ?_) (fun hk => ?_)
    · rw [if_pos (by omega)]
      repeat (first | refine awp_seq ?_ | refine thenA_normal ?_ | refine a_region ?_ | refine awp_ret ?_ | refine thenA_ret ?_ | refine r_done ?_ | (refine r_id ?_; first | refine r_ev tab_ok rfl rfl rfl rfl byE rfl ?_) | refine ret1 byO rfl rfl rfl ?_)
      exact Sub.refl _
    rw [if_neg (by omega)]
    repeat (first | refine awp_seq ?_ | refine thenA_normal ?_ | refine awp_block ?_ | refine a_region ?_ | refine awp_skip ?_ | refine r_done ?_ | (refine r_id ?_; first | refine r_ev tab_ok rfl rfl rfl rfl byE rfl ?_))
    refine a_loop (σ := IS s.data.toList k) (fun _ => []) (fun x => [(0, .val (.string s)), (4, .val (.int .i64 x.n)), (5, .val (.int .i64 x.i))]) (fun x => s.size - x.i) ⟨k, 0, hkl, Nat.le_refl _, by omega, by omega, rfl⟩ (fits_conv byV byV) ?_
    rintro ⟨i, n, hi, hki, h0, hn, heq⟩
    dsimp only
    repeat (first | refine awp_seq ?_ | refine thenA_normal ?_ | refine a_region ?_ | refine r_done ?_ | (refine r_id ?_; first | refine r_ev tab_ok rfl rfl rfl rfl byE rfl ?_))
    refine awp_cond_p rfl (fun hlt => ?_) (fun hge => ?_)
    · have hlt' : i < s.data.toList.length := by omega
      rw [drop_byte hlt', intGo] at heq
      repeat (first | refine awp_seq ?_ | refine thenA_normal ?_ | refine awp_block ?_ | refine a_region ?_ | refine awp_skip ?_ | refine r_done ?_ | (refine r_id ?_; first | refine r_ev tab_ok rfl rfl rfl rfl byE rfl ?_ | refine r_ev_cnd tab_ok rfl rfl rfl rfl rfl rfl byC (by first | exact fun _ => trivial | (intro h; simp at h; first | exact ⟨by omega, by omega⟩ | omega)) rfl ?_ | refine r_or rfl rfl rfl rfl rfl rfl rfl rfl ?_))
      simp only [Int.toNat_natCast]
      refine awp_cond rfl (fun hd => ?_) (fun hd => ?_)
      · have hd' : (s.data.toList.getD i 0).toNat < 48 ∨ 57 < (s.data.toList.getD i 0).toNat := by
          simp only [Bool.or_eq_true, decide_eq_true_eq] at hd
          omega
        rw [if_pos hd'] at heq
        rw [← heq]
        repeat (first | refine awp_seq ?_ | refine thenA_normal ?_ | refine a_region ?_ | refine awp_ret ?_ | refine thenA_ret ?_ | refine blockA_ret ?_ | refine r_done ?_ | (refine r_id ?_; first | refine r_ev tab_ok rfl rfl rfl rfl byE rfl ?_) | refine ret1 byO rfl rfl rfl ?_)
        exact Sub.refl _
      · have hd' : ¬ ((s.data.toList.getD i 0).toNat < 48 ∨ 57 < (s.data.toList.getD i 0).toNat) := by
          simp only [Bool.or_eq_false_iff, decide_eq_false_iff_not] at hd
          omega
        rw [if_neg hd'] at heq
        have hb : 48 ≤ ((s.data.toList.getD (i : Int).toNat 0).toNat : Int) ∧ ((s.data.toList.getD (i : Int).toNat 0).toNat : Int) ≤ 57 := by simp only [Int.toNat_natCast]; omega
        repeat (first | refine thenA_normal ?_ | refine a_region ?_ | refine awp_skip ?_ | refine r_done ?_ | (refine r_id ?_; first | refine r_ev tab_ok rfl rfl rfl rfl byE rfl ?_))
        exact ⟨⟨i + 1, _, hlt', by omega, by omega, by omega, heq⟩, by dsimp only; omega, fits_conv byV byV⟩
    · have ei : i = s.data.toList.length := by omega
      rw [ei, List.drop_length, intGo] at heq
      rw [← heq]
      have hpos : 0 < s.data.toList.length := by omega
      repeat (first | refine awp_seq ?_ | refine thenA_normal ?_ | refine a_region ?_ | refine awp_exit ?_ | refine r_done ?_ | (refine r_id ?_; first | refine r_ev tab_ok rfl rfl rfl rfl byE rfl ?_))
      refine awp_cond_p rfl (fun hm => ?_) (fun hm => ?_)
      · rw [show Int.toNat 0 = 0 from rfl] at hm
        dsimp only
        rw [if_pos (by omega)]
        repeat (first | refine awp_seq ?_ | refine thenA_normal ?_ | refine a_region ?_ | refine awp_ret ?_ | refine thenA_ret ?_ | refine r_done ?_ | (refine r_id ?_; first | refine r_ev tab_ok rfl rfl rfl rfl byE rfl ?_) | refine ret1 byO rfl rfl rfl ?_)
        exact Sub.of_eq (by congr 2)
      · rw [show Int.toNat 0 = 0 from rfl] at hm
        dsimp only
        rw [if_neg (by omega)]
        repeat (first | refine awp_seq ?_ | refine thenA_normal ?_ | refine a_region ?_ | refine awp_ret ?_ | refine awp_skip ?_ | refine r_done ?_ | (refine r_id ?_; first | refine r_ev tab_ok rfl rfl rfl rfl byE rfl ?_) | refine ret1 byO rfl rfl rfl ?_)
        exact Sub.of_eq (by congr 2)
  · have e : k = 0 := by
      rw [← hK, intK]
      refine if_neg ?_
      rw [show Int.toNat 0 = 0 from rfl] at h
      simp only [Bool.and_eq_false_iff, Bool.or_eq_false_iff, decide_eq_false_iff_not] at h
      omega
    repeat (first | refine awp_seq ?_ | refine awp_skip ?_)
    refine awp_fits (s' := ⟨[], [(0, .val (.string s)), (3, .val (.int .i64 k))]⟩) (fits_conv byV ⟨c_sub rfl (Sub.refl _) rfl, c_sub rfl (Sub.of_eq (by rw [e]; rfl)) rfl, trivial⟩) ?_
    repeat (first | refine thenA_normal ?_ | refine a_region ?_ | refine r_done ?_ | (refine r_id ?_; first | refine r_ev tab_ok rfl rfl rfl rfl byE rfl ?_))
    refine awp_cond_p rfl (fun hk => ?_) (fun hk => ?_)
    · rw [if_pos (by omega)]
      repeat (first | refine awp_seq ?_ | refine thenA_normal ?_ | refine a_region ?_ | refine awp_ret ?_ | refine thenA_ret ?_ | refine r_done ?_ | (refine r_id ?_; first | refine r_ev tab_ok rfl rfl rfl rfl byE rfl ?_) | refine ret1 byO rfl rfl rfl ?_)
      exact Sub.refl _
    rw [if_neg (by omega)]
    repeat (first | refine awp_seq ?_ | refine thenA_normal ?_ | refine awp_block ?_ | refine a_region ?_ | refine awp_skip ?_ | refine r_done ?_ | (refine r_id ?_; first | refine r_ev tab_ok rfl rfl rfl rfl byE rfl ?_))
    refine a_loop (σ := IS s.data.toList k) (fun _ => []) (fun x => [(0, .val (.string s)), (4, .val (.int .i64 x.n)), (5, .val (.int .i64 x.i))]) (fun x => s.size - x.i) ⟨k, 0, hkl, Nat.le_refl _, by omega, by omega, rfl⟩ (fits_conv byV byV) ?_
    rintro ⟨i, n, hi, hki, h0, hn, heq⟩
    dsimp only
    repeat (first | refine awp_seq ?_ | refine thenA_normal ?_ | refine a_region ?_ | refine r_done ?_ | (refine r_id ?_; first | refine r_ev tab_ok rfl rfl rfl rfl byE rfl ?_))
    refine awp_cond_p rfl (fun hlt => ?_) (fun hge => ?_)
    · have hlt' : i < s.data.toList.length := by omega
      rw [drop_byte hlt', intGo] at heq
      repeat (first | refine awp_seq ?_ | refine thenA_normal ?_ | refine awp_block ?_ | refine a_region ?_ | refine awp_skip ?_ | refine r_done ?_ | (refine r_id ?_; first | refine r_ev tab_ok rfl rfl rfl rfl byE rfl ?_ | refine r_ev_cnd tab_ok rfl rfl rfl rfl rfl rfl byC (by first | exact fun _ => trivial | (intro h; simp at h; first | exact ⟨by omega, by omega⟩ | omega)) rfl ?_ | refine r_or rfl rfl rfl rfl rfl rfl rfl rfl ?_))
      simp only [Int.toNat_natCast]
      refine awp_cond rfl (fun hd => ?_) (fun hd => ?_)
      · have hd' : (s.data.toList.getD i 0).toNat < 48 ∨ 57 < (s.data.toList.getD i 0).toNat := by
          simp only [Bool.or_eq_true, decide_eq_true_eq] at hd
          omega
        rw [if_pos hd'] at heq
        rw [← heq]
        repeat (first | refine awp_seq ?_ | refine thenA_normal ?_ | refine a_region ?_ | refine awp_ret ?_ | refine thenA_ret ?_ | refine blockA_ret ?_ | refine r_done ?_ | (refine r_id ?_; first | refine r_ev tab_ok rfl rfl rfl rfl byE rfl ?_) | refine ret1 byO rfl rfl rfl ?_)
        exact Sub.refl _
      · have hd' : ¬ ((s.data.toList.getD i 0).toNat < 48 ∨ 57 < (s.data.toList.getD i 0).toNat) := by
          simp only [Bool.or_eq_false_iff, decide_eq_false_iff_not] at hd
          omega
        rw [if_neg hd'] at heq
        have hb : 48 ≤ ((s.data.toList.getD (i : Int).toNat 0).toNat : Int) ∧ ((s.data.toList.getD (i : Int).toNat 0).toNat : Int) ≤ 57 := by simp only [Int.toNat_natCast]; omega
        repeat (first | refine thenA_normal ?_ | refine a_region ?_ | refine awp_skip ?_ | refine r_done ?_ | (refine r_id ?_; first | refine r_ev tab_ok rfl rfl rfl rfl byE rfl ?_))
        exact ⟨⟨i + 1, _, hlt', by omega, by omega, by omega, heq⟩, by dsimp only; omega, fits_conv byV byV⟩
    · have ei : i = s.data.toList.length := by omega
      rw [ei, List.drop_length, intGo] at heq
      rw [← heq]
      have hpos : 0 < s.data.toList.length := by omega
      repeat (first | refine awp_seq ?_ | refine thenA_normal ?_ | refine a_region ?_ | refine awp_exit ?_ | refine r_done ?_ | (refine r_id ?_; first | refine r_ev tab_ok rfl rfl rfl rfl byE rfl ?_))
      refine awp_cond_p rfl (fun hm => ?_) (fun hm => ?_)
      · rw [show Int.toNat 0 = 0 from rfl] at hm
        dsimp only
        rw [if_pos (by omega)]
        repeat (first | refine awp_seq ?_ | refine thenA_normal ?_ | refine a_region ?_ | refine awp_ret ?_ | refine thenA_ret ?_ | refine r_done ?_ | (refine r_id ?_; first | refine r_ev tab_ok rfl rfl rfl rfl byE rfl ?_) | refine ret1 byO rfl rfl rfl ?_)
        exact Sub.of_eq (by congr 2)
      · rw [show Int.toNat 0 = 0 from rfl] at hm
        dsimp only
        rw [if_neg (by omega)]
        repeat (first | refine awp_seq ?_ | refine thenA_normal ?_ | refine a_region ?_ | refine awp_ret ?_ | refine awp_skip ?_ | refine r_done ?_ | (refine r_id ?_; first | refine r_ev tab_ok rfl rfl rfl rfl byE rfl ?_) | refine ret1 byO rfl rfl rfl ?_)
        exact Sub.of_eq (by congr 2)
end Go.Proofs.YtiolnmfaeenlmaaGreatDoor

/- The reader: numbers. -/
namespace Go.Proofs.YtiolnmfaeenlmaaGreatDoor
open Go Go.RowKit

section
variable {cx : Cx} {s : AS} {Q : Exit → AS → Prop}
/-- A part that ends, whichever way it goes, in one state. -/
theorem awp_cut (s' : AS) {c b : Code} (h1 : AWp cx c s (fun e s'' => e = .normal ∧ Fits cx s'' s')) (h2 : AWp cx b s' Q) : AWp cx c s (thenA (fun s'' => AWp cx b s'' Q) Q) :=
  awp_mono h1 fun e s'' h => by
    obtain ⟨rfl, h⟩ := h
    exact thenA_normal (awp_fits h h2)
end
structure Tk where
  kind : Int
  text : ByteArray
  int : Int
  whole : Bool
  sign : Bool
  id : Bool
def tcl (t : Tk) : List AV := [.val (.int .i64 t.kind), .val (.string t.text), .val (.int .i64 t.int), .val (.bool t.whole), .val (.bool t.sign), .val (.bool t.id)]
def tA (t : Tk) : AV := .agg (tcl t)
def tD (t : Tk) : D := .ag [.val (.int .i64 t.kind), .val (.string t.text), .val (.int .i64 t.int), .val (.bool t.whole), .val (.bool t.sign), .val (.bool t.id)]
def tB (t : Tk) : AB := .box 47 (tcl t)
def tk0 : Tk := ⟨0, ⟨#[]⟩, 0, false, false, false⟩

theorem digEnd_le (L : List Int) {i : Nat} (h : i ≤ L.length) : i ≤ digEnd L i ∧ digEnd L i ≤ L.length := by
  obtain ⟨r, j, h1, h2, h3, h4, _⟩ := goAt_end (digStep_goes L) L.length i h (by omega)
  have : r = j := by
    unfold digStep at h4
    split at h4
    · cases h4
    · cases h4; rfl
  rw [digEnd, h1, this]
  exact ⟨h2, h3⟩
theorem digAt_len (L : List Int) {i : Nat} (h : i ≤ L.length) : (digAt L i).length ≤ L.length := by
  obtain ⟨r, j, h1, h2, h3, h4, h5⟩ := goAt_end (digStep_goes L) L.length i h (by omega)
  rw [digAt]
  omega
theorem nameEnd_le (L : List Int) {i : Nat} (h : i ≤ L.length) : i ≤ nameEnd L i ∧ nameEnd L i ≤ L.length := by
  obtain ⟨r, j, h1, h2, h3, h4, _⟩ := goAt_end (nameStep_goes L) L.length i h (by omega)
  have : r = j := by
    unfold nameStep at h4
    split at h4
    · cases h4
    · split at h4
      · cases h4
      · cases h4; rfl
  rw [nameEnd, h1, this]
  exact ⟨h2, h3⟩
theorem nameAt_len (L : List Int) {i : Nat} (h : i ≤ L.length) : (nameAt L i).length ≤ L.length := by
  obtain ⟨r, j, h1, h2, h3, h4, h5⟩ := goAt_end (nameStep_goes L) L.length i h (by omega)
  rw [nameAt]
  omega

def nS (L : List Int) (i : Nat) : Bool := decide (sg L i = 43) || decide (sg L i = 45)
def n1 (L : List Int) (i : Nat) : Nat := if nS L i = true then i + 1 else i
def nT1 (L : List Int) (i : Nat) : List Int := if nS L i = true then [sg L i] else []
def nT (L : List Int) (i : Nat) : List Int := nT1 L i ++ digAt L (n1 L i)
def n2 (L : List Int) (i : Nat) : Nat := digEnd L (n1 L i)
def nDot (L : List Int) (j : Nat) : Bool := decide (sg L j = 46) && digF (sg L (j + 1))
def n3 (L : List Int) (j : Nat) : Nat := if nDot L j = true then digEnd L (j + 1) else j
def nE (L : List Int) (j : Nat) : Bool := decide (sg L j = 101) || decide (sg L j = 69)
def nEs (L : List Int) (j : Nat) : Bool := decide (sg L (j + 1) = 43) || decide (sg L (j + 1) = 45)
def nK (L : List Int) (j : Nat) : Nat := if nEs L j = true then 2 else 1
def nEx (L : List Int) (j : Nat) : Bool := nE L j && digF (sg L (j + nK L j))
def n4 (L : List Int) (j : Nat) : Nat := if nEx L j = true then digEnd L (j + nK L j) else j
theorem dig_in {L : List Int} {i : Nat} (h : digF (sg L i) = true) : i < L.length := sg_in (by intro h'; rw [h'] at h; cases h)
theorem n1_le (L : List Int) {i : Nat} (h : i ≤ L.length) : i ≤ n1 L i ∧ n1 L i ≤ L.length := by
  unfold n1
  split
  · rename_i hs
    have : i < L.length := sg_in (by intro h'; rw [nS, h'] at hs; cases hs)
    omega
  · omega
theorem n2_le (L : List Int) {i : Nat} (h : i ≤ L.length) : i ≤ n2 L i ∧ n2 L i ≤ L.length := by
  have h1 := n1_le L h
  have := digEnd_le L h1.2
  unfold n2
  omega
theorem nDot_in {L : List Int} {j : Nat} (h : nDot L j = true) : j + 1 < L.length := by
  rw [nDot, Bool.and_eq_true] at h
  exact dig_in (i := j + 1) h.2
theorem n3_le (L : List Int) {j : Nat} (h : j ≤ L.length) : j ≤ n3 L j ∧ n3 L j ≤ L.length := by
  unfold n3
  split
  · rename_i hs
    have h1 := nDot_in hs
    have := digEnd_le L (i := j + 1) (by omega)
    omega
  · omega
theorem nEx_in {L : List Int} {j : Nat} (h : digF (sg L (j + nK L j)) = true) : j + nK L j < L.length := dig_in (i := j + nK L j) h
theorem n4_le (L : List Int) {j : Nat} (h : j ≤ L.length) : j ≤ n4 L j ∧ n4 L j ≤ L.length := by
  unfold n4
  split
  · rename_i hs
    rw [nEx, Bool.and_eq_true] at hs
    have h1 := nEx_in hs.2
    have := digEnd_le L (i := j + nK L j) (by omega)
    omega
  · omega
def nW (L : List Int) (i : Nat) : Bool := !nDot L (n2 L i) && !nEx L (n3 L (n2 L i))
def nP (L : List Int) (i : Nat) : Nat := n4 L (n3 L (n2 L i))
def nTk (L : List Int) (i : Nat) : Tk := ⟨10, ⟨#[]⟩, if nW L i = true then intF (runesBytes (nT L i)) else 0, nW L i, nS L i, false⟩
def numF (L : List Int) (i : Nat) : Tk × Nat :=
  if namesF L (nP L i) = true then ({ nTk L i with kind := 12, text := runesBytes (nameAt L (nP L i)) }, nameEnd L (nP L i))
  else if sg L (nP L i) = 37 then ({ nTk L i with kind := 11 }, nP L i + 1) else (nTk L i, nP L i)
set_option maxHeartbeats 4000000 in
theorem number_ok (L : List Int) (i : Nat) (hL : L.length ≤ 1099511627776) (hi : i ≤ L.length) : MCalls Tryz.prog 86 [rdB L i] [.ptr 0 0] [rdB L (numF L i).2] (tA (numF L i).1) := by
  refine m_start Tryz.func86 Tryz.ntmps86 rfl rfl rfl fun S w β => ?_
  have h1 := n1_le L hi
  have h2 := n2_le L hi
  have h3 := n3_le L h2.2
  have h4 := n4_le L h3.2
  have h2' := digEnd_le L h1.2
  have hz1 := runesBytes_size_le (nT1 L i)
  have hz1' : (nT1 L i).length ≤ 1 := by unfold nT1; split <;> simp
  have hz2 := runesBytes_size_le (digAt L (n1 L i))
  have hz2' := digAt_len L h1.2
  repeat (first | refine awp_seq ?_ | refine thenA_normal ?_ | refine a_region ?_ | refine r_done ?_ | (refine r_id ?_; first | refine r_ev tab_ok rfl rfl rfl rfl byE rfl ?_ | refine r_wr tab_ok rfl rfl rfl rfl rfl ?_ | refine r_ev_cnd tab_ok rfl rfl rfl rfl rfl rfl byC (by first | exact fun _ => trivial | (intro h; simp at h; first | exact ⟨by omega, by omega⟩ | omega)) rfl ?_ | refine r_or rfl rfl rfl rfl rfl rfl rfl rfl ?_) | refine r_mro [0] (sign_ok _ _ _ hL (by omega) (by omega)) call55 rfl rfl ⟨rfl, trivial⟩ (by decide) ⟨Sub.refl _, Sub.refl _, trivial⟩ rfl rfl rfl rfl rfl rfl ?_ | refine r_mro_cnd [0] (fun _ => sign_ok _ _ _ hL (by omega) (by omega)) call55 rfl rfl rfl rfl byC ⟨rfl, trivial⟩ (by decide) ⟨Sub.refl _, Sub.refl _, trivial⟩ rfl rfl rfl rfl rfl rfl ?_)
  rw [Int.add_zero]
  refine awp_cut ⟨[rdB L (n1 L i), tB tk0], [(0, .ptr 0 0), (2, .ptr 1 0), (3, .val (.string (runesBytes (nT1 L i)))), (4, .val (.bool (nS L i)))]⟩ ?_ ?_
  · refine awp_cond rfl (fun h => ?_) (fun h => ?_)
    · have hs : nS L i = true := h
      rw [n1, nT1, if_pos hs, if_pos hs]
      repeat (first | refine awp_seq ?_ | refine thenA_normal ?_ | refine a_region ?_ | refine r_done ?_ | (refine r_id ?_; first | refine r_ev tab_ok rfl rfl rfl rfl byE rfl ?_ | refine r_ld tab_ok rfl rfl rfl rfl rfl ?_ | refine r_st tab_ok rfl rfl rfl rfl ?_ | refine r_nilck rfl rfl rfl rfl rfl rfl rfl ?_) | refine r_mro [0] (sign_ok _ _ _ hL (by omega) (by omega)) call55 rfl rfl ⟨rfl, trivial⟩ (by decide) ⟨Sub.refl _, Sub.refl _, trivial⟩ rfl rfl rfl rfl rfl rfl ?_ | refine r_call (refPut _) call77 rfl rfl ⟨Sub.refl _, trivial⟩ rfl rfl rfl rfl ?_)
      rw [Int.add_zero]
      exact ⟨rfl, fits_convM byV byV ⟨trivial, trivial⟩⟩
    · have hs : ¬ nS L i = true := by rw [show nS L i = false from h]; decide
      rw [n1, nT1, if_neg hs, if_neg hs]
      repeat (first | refine awp_skip ?_)
      exact ⟨rfl, fits_convM byV byV ⟨trivial, trivial⟩⟩
  repeat (first | refine awp_seq ?_ | refine a_region ?_ | (refine r_id ?_; first | refine r_ev tab_ok rfl rfl rfl rfl byE rfl ?_))
  refine r_mcall [0] (digits_ok L (n1 L i) hL h1.2) call108 rfl rfl ⟨rfl, trivial⟩ (by decide) ⟨Sub.refl _, trivial⟩ rfl rfl rfl rfl rfl rfl rfl ?_
  repeat (first | refine awp_seq ?_ | refine thenA_normal ?_ | refine a_region ?_ | refine r_done ?_ | (refine r_id ?_; first | refine r_ev tab_ok rfl rfl rfl rfl byE rfl ?_ | refine r_ev_cnd tab_ok rfl rfl rfl rfl rfl rfl byC (by first | exact fun _ => trivial | (intro h; simp at h; first | exact ⟨by omega, by omega⟩ | omega)) rfl ?_ | refine r_and rfl rfl rfl rfl rfl rfl rfl rfl ?_) | refine r_mro [0] (sign_ok _ _ _ hL (by omega) (by omega)) call55 rfl rfl ⟨rfl, trivial⟩ (by decide) ⟨Sub.refl _, Sub.refl _, trivial⟩ rfl rfl rfl rfl rfl rfl ?_ | refine r_mro_cnd [0] (fun _ => sign_ok _ _ _ hL (by omega) (by omega)) call55 rfl rfl rfl rfl byC ⟨rfl, trivial⟩ (by decide) ⟨Sub.refl _, Sub.refl _, trivial⟩ rfl rfl rfl rfl rfl rfl ?_ | refine r_call_cnd (fun _ => refDigit _) call84 rfl rfl rfl rfl byC ⟨Sub.refl _, trivial⟩ rfl rfl rfl rfl ?_)
  have hnt : runesBytes (nT L i) = runesBytes (nT1 L i) ++ runesBytes (digAt L (n1 L i)) := by rw [nT, runes_append]
  rw [Int.add_zero]
  generalize hj2 : n2 L i = j2 at h2 h3 h4
  refine awp_cut ⟨[rdB L (n3 L j2), tB tk0], [(0, .ptr 0 0), (2, .ptr 1 0), (3, .val (.string (runesBytes (nT L i)))), (4, .val (.bool (nS L i))), (5, .val (.bool (!nDot L j2)))]⟩ ?_ ?_
  · rw [show digEnd L (n1 L i) = j2 from hj2, ← hnt]
    refine awp_cond rfl (fun h => ?_) (fun h => ?_)
    · have hd : nDot L j2 = true := h
      have hin := nDot_in hd
      rw [n3, if_pos hd, hd]
      repeat (first | refine awp_seq ?_ | refine thenA_normal ?_ | refine a_region ?_ | refine r_done ?_ | (refine r_id ?_; first | refine r_ev tab_ok rfl rfl rfl rfl byE rfl ?_ | refine r_ld tab_ok rfl rfl rfl rfl rfl ?_ | refine r_st tab_ok rfl rfl rfl rfl ?_ | refine r_nilck rfl rfl rfl rfl rfl rfl rfl ?_))
      refine r_mcall [0] (digits_ok L (j2 + 1) hL (by omega)) call108 rfl rfl ⟨rfl, trivial⟩ (by decide) ⟨Sub.refl _, trivial⟩ rfl rfl rfl rfl rfl rfl rfl ?_
      repeat (first | refine r_done ?_)
      exact ⟨rfl, fits_convM byV byV ⟨trivial, trivial⟩⟩
    · have hd : nDot L j2 = false := h
      rw [n3, hd, if_neg (by decide)]
      repeat (first | refine awp_skip ?_)
      exact ⟨rfl, fits_convM byV byV ⟨trivial, trivial⟩⟩
  generalize hj3 : n3 L j2 = j3 at h3 h4
  repeat (first | refine awp_seq ?_ | refine thenA_normal ?_ | refine a_region ?_ | refine r_done ?_ | (refine r_id ?_; first | refine r_ev tab_ok rfl rfl rfl rfl byE rfl ?_ | refine r_ev_cnd tab_ok rfl rfl rfl rfl rfl rfl byC (by first | exact fun _ => trivial | (intro h; simp at h; first | exact ⟨by omega, by omega⟩ | omega)) rfl ?_ | refine r_or rfl rfl rfl rfl rfl rfl rfl rfl ?_) | refine r_mro [0] (sign_ok _ _ _ hL (by omega) (by omega)) call55 rfl rfl ⟨rfl, trivial⟩ (by decide) ⟨Sub.refl _, Sub.refl _, trivial⟩ rfl rfl rfl rfl rfl rfl ?_ | refine r_mro_cnd [0] (fun _ => sign_ok _ _ _ hL (by omega) (by omega)) call55 rfl rfl rfl rfl byC ⟨rfl, trivial⟩ (by decide) ⟨Sub.refl _, Sub.refl _, trivial⟩ rfl rfl rfl rfl rfl rfl ?_)
  rw [Int.add_zero]
  refine awp_cut ⟨[rdB L (n4 L j3), tB tk0], [(0, .ptr 0 0), (2, .ptr 1 0), (3, .val (.string (runesBytes (nT L i)))), (4, .val (.bool (nS L i))), (5, .val (.bool (!nDot L j2 && !nEx L j3)))]⟩ ?_ ?_
  · refine awp_cond rfl (fun h => ?_) (fun h => ?_)
    · have hE : nE L j3 = true := h
      have hj : j3 < L.length := by
        refine sg_in fun h' => ?_
        rw [nE, h'] at hE
        cases hE
      repeat (first | refine awp_seq ?_ | refine thenA_normal ?_ | refine a_region ?_ | refine r_done ?_ | (refine r_id ?_; first | refine r_ev tab_ok rfl rfl rfl rfl byE rfl ?_ | refine r_ev_cnd tab_ok rfl rfl rfl rfl rfl rfl byC (by first | exact fun _ => trivial | (intro h; simp at h; first | exact ⟨by omega, by omega⟩ | omega)) rfl ?_ | refine r_or rfl rfl rfl rfl rfl rfl rfl rfl ?_) | refine r_mro [0] (sign_ok _ _ _ hL (by omega) (by omega)) call55 rfl rfl ⟨rfl, trivial⟩ (by decide) ⟨Sub.refl _, Sub.refl _, trivial⟩ rfl rfl rfl rfl rfl rfl ?_ | refine r_mro_cnd [0] (fun _ => sign_ok _ _ _ hL (by omega) (by omega)) call55 rfl rfl rfl rfl byC ⟨rfl, trivial⟩ (by decide) ⟨Sub.refl _, Sub.refl _, trivial⟩ rfl rfl rfl rfl rfl rfl ?_)
      refine awp_cut ⟨[rdB L j3, tB tk0], [(0, .ptr 0 0), (2, .ptr 1 0), (3, .val (.string (runesBytes (nT L i)))), (4, .val (.bool (nS L i))), (5, .val (.bool (!nDot L j2))), (6, .val (.int .i64 (nK L j3)))]⟩ ?_ ?_
      · refine awp_cond rfl (fun h => ?_) (fun h => ?_)
        · rw [nK, if_pos (show nEs L j3 = true from h)]
          repeat (first | refine a_region ?_ | refine r_done ?_ | (refine r_id ?_; first | refine r_ev tab_ok rfl rfl rfl rfl byE rfl ?_))
          exact ⟨rfl, fits_convM byV byV ⟨trivial, trivial⟩⟩
        · rw [nK, if_neg (by rw [show nEs L j3 = false from h]; decide)]
          repeat (first | refine awp_skip ?_)
          exact ⟨rfl, fits_convM byV byV ⟨trivial, trivial⟩⟩
      have hk : nK L j3 ≤ 2 := by unfold nK; split <;> omega
      repeat (first | refine awp_seq ?_ | refine thenA_normal ?_ | refine a_region ?_ | refine r_done ?_ | (refine r_id ?_; first | refine r_ev tab_ok rfl rfl rfl rfl byE rfl ?_) | refine r_mro [0] (sign_ok _ _ _ hL (by omega) (by omega)) call55 rfl rfl ⟨rfl, trivial⟩ (by decide) ⟨Sub.refl _, Sub.refl _, trivial⟩ rfl rfl rfl rfl rfl rfl ?_ | refine r_call (refDigit _) call84 rfl rfl ⟨Sub.refl _, trivial⟩ rfl rfl rfl rfl ?_)
      refine awp_cond rfl (fun h => ?_) (fun h => ?_)
      · have hin := nEx_in h
        have hx : nEx L j3 = true := by rw [nEx, hE]; exact h
        rw [n4, hx, if_pos rfl, Bool.not_true, Bool.and_false]
        repeat (first | refine awp_seq ?_ | refine thenA_normal ?_ | refine a_region ?_ | refine r_done ?_ | (refine r_id ?_; first | refine r_ev tab_ok rfl rfl rfl rfl byE rfl ?_ | refine r_ld tab_ok rfl rfl rfl rfl rfl ?_ | refine r_st tab_ok rfl rfl rfl rfl ?_ | refine r_nilck rfl rfl rfl rfl rfl rfl rfl ?_))
        refine r_mcall [0] (digits_ok L (j3 + nK L j3) hL (by omega)) call108 rfl rfl ⟨rfl, trivial⟩ (by decide) ⟨Sub.refl _, trivial⟩ rfl rfl rfl rfl rfl rfl rfl ?_
        repeat (first | refine r_done ?_)
        exact ⟨rfl, fits_convM byV byV ⟨trivial, trivial⟩⟩
      · have hx : nEx L j3 = false := by rw [nEx, hE]; exact h
        rw [n4, hx, if_neg (by decide), Bool.not_false, Bool.and_true]
        repeat (first | refine awp_skip ?_)
        exact ⟨rfl, fits_convM byV byV ⟨trivial, trivial⟩⟩
    · have hx : nEx L j3 = false := by rw [nEx, show nE L j3 = false from h]; rfl
      rw [n4, hx, if_neg (by decide), Bool.not_false, Bool.and_true]
      repeat (first | refine awp_skip ?_)
      exact ⟨rfl, fits_convM byV byV ⟨trivial, trivial⟩⟩
  repeat (first | refine awp_seq ?_ | refine thenA_normal ?_ | refine a_region ?_ | refine r_done ?_ | (refine r_id ?_; first | refine r_ev tab_ok rfl rfl rfl rfl byE rfl ?_ | refine r_wr tab_ok rfl rfl rfl rfl rfl ?_ | refine r_st tab_ok rfl rfl rfl rfl ?_ | refine r_build tab_ok rfl rfl rfl rfl rfl rfl ?_))
  have hW : nW L i = (!nDot L j2 && !nEx L j3) := by rw [nW, hj2, hj3]
  have hP : nP L i = n4 L j3 := by rw [nP, hj2, hj3]
  rw [numF, hP]
  generalize hj4 : n4 L j3 = j4 at h4
  generalize hw : (!nDot L j2 && !nEx L j3) = wh at hW
  have hz3 := runesBytes_size_le (nT L i)
  have hz3' : (nT L i).length ≤ L.length + 1 := by rw [nT, List.length_append]; omega
  refine awp_cut ⟨[rdB L j4, tB tk0, tB (nTk L i)], [(0, .ptr 0 0), (2, .ptr 1 0), (7, .ptr 2 0)]⟩ ?_ ?_
  · refine awp_cond rfl (fun h => ?_) (fun h => ?_)
    · subst h
      rw [nTk, hW, if_pos rfl]
      repeat (first | refine a_region ?_ | (refine r_id ?_; first | refine r_ev tab_ok rfl rfl rfl rfl byE rfl ?_))
      refine r_call (int_ok (runesBytes (nT L i)) (by omega)) call109 rfl rfl ⟨Sub.refl _, trivial⟩ rfl rfl rfl rfl ?_
      repeat (first | refine r_done ?_ | (refine r_id ?_; first | refine r_ev tab_ok rfl rfl rfl rfl byE rfl ?_ | refine r_st tab_ok rfl rfl rfl rfl ?_))
      exact ⟨rfl, fits_convM byV byV ⟨trivial, trivial⟩⟩
    · subst h
      rw [nTk, hW, if_neg (by decide)]
      repeat (first | refine awp_skip ?_)
      exact ⟨rfl, fits_convM byV byV ⟨trivial, trivial⟩⟩
  generalize nTk L i = t
  repeat (first | refine awp_seq ?_ | refine thenA_normal ?_ | refine awp_block ?_ | refine a_region ?_ | refine r_done ?_ | (refine r_id ?_; first | refine r_ev tab_ok rfl rfl rfl rfl byE rfl ?_) | refine r_mro [0] (names_ok _ _ _ hL (by omega) (by omega)) call82 rfl rfl ⟨rfl, trivial⟩ (by decide) ⟨Sub.refl _, Sub.refl _, trivial⟩ rfl rfl rfl rfl rfl rfl ?_)
  rw [Int.add_zero]
  refine awp_cond rfl (fun h => ?_) (fun h => ?_)
  · rw [if_pos h]
    repeat (first | refine awp_seq ?_ | refine thenA_normal ?_ | refine a_region ?_ | refine r_done ?_ | (refine r_id ?_; first | refine r_ev tab_ok rfl rfl rfl rfl byE rfl ?_ | refine r_st tab_ok rfl rfl rfl rfl ?_))
    refine r_mcall [0] (name_ok L j4 hL h4.2) call83 rfl rfl ⟨rfl, trivial⟩ (by decide) ⟨Sub.refl _, trivial⟩ rfl rfl rfl rfl rfl rfl rfl ?_
    repeat (first | refine awp_seq ?_ | refine thenA_normal ?_ | refine a_region ?_ | refine awp_ret ?_ | refine r_done ?_ | (refine r_id ?_; first | refine r_ev tab_ok rfl rfl rfl rfl byE rfl ?_ | refine r_ld tab_ok rfl rfl rfl rfl rfl ?_ | refine r_st tab_ok rfl rfl rfl rfl ?_))
    exact retM1c tab_ok byO rfl rfl rfl rfl rfl rfl rfl rfl (Sub.refl _)
  · rw [if_neg (by rw [h]; decide)]
    repeat (first | refine awp_seq ?_ | refine thenA_normal ?_ | refine a_region ?_ | refine r_done ?_ | (refine r_id ?_; first | refine r_ev tab_ok rfl rfl rfl rfl byE rfl ?_) | refine r_mro [0] (sign_ok _ _ _ hL (by omega) (by omega)) call55 rfl rfl ⟨rfl, trivial⟩ (by decide) ⟨Sub.refl _, Sub.refl _, trivial⟩ rfl rfl rfl rfl rfl rfl ?_)
    rw [Int.add_zero]
    refine awp_cond_p rfl (fun h5 => ?_) (fun h5 => ?_)
    · rw [if_pos h5]
      have hin : j4 < L.length := sg_in (by rw [h5]; decide)
      repeat (first | refine awp_seq ?_ | refine thenA_normal ?_ | refine a_region ?_ | refine awp_ret ?_ | refine r_done ?_ | (refine r_id ?_; first | refine r_ev tab_ok rfl rfl rfl rfl byE rfl ?_ | refine r_ld tab_ok rfl rfl rfl rfl rfl ?_ | refine r_st tab_ok rfl rfl rfl rfl ?_ | refine r_nilck rfl rfl rfl rfl rfl rfl rfl ?_))
      exact retM1c tab_ok byO rfl rfl rfl rfl rfl rfl rfl rfl (Sub.refl _)
    · rw [if_neg h5]
      repeat (first | refine awp_seq ?_ | refine thenA_normal ?_ | refine a_region ?_ | refine awp_ret ?_ | refine awp_skip ?_ | refine r_done ?_ | (refine r_id ?_; first | refine r_ld tab_ok rfl rfl rfl rfl rfl ?_ | refine r_st tab_ok rfl rfl rfl rfl ?_))
      exact retM1c tab_ok byO rfl rfl rfl rfl rfl rfl rfl rfl (Sub.refl _)
end Go.Proofs.YtiolnmfaeenlmaaGreatDoor

/- The reader: strings and urls. -/
namespace Go.Proofs.YtiolnmfaeenlmaaGreatDoor
open Go Go.RowKit

theorem sg_ge {L : List Int} {i : Nat} (h : 0 ≤ sg L i) : i < L.length := sg_in (by omega)
def wStep (L : List Int) (i : Nat) : (List Int × Nat) ⊕ Nat := if whiteF (sg L i) = true then .inl ([], i + 1) else .inr i
theorem wStep_goes (L : List Int) : Goes2 L.length (wStep L) := by
  intro i o j hi h
  unfold wStep at h
  split at h
  · rename_i hw
    cases h
    exact ⟨by omega, white_in hw, by simp⟩
  · cases h
def wEnd (L : List Int) (i : Nat) : Nat := ((goAt L.length (wStep L) i).2).getD 0
theorem wEnd_le (L : List Int) {i : Nat} (h : i ≤ L.length) : i ≤ wEnd L i ∧ wEnd L i ≤ L.length ∧ whiteF (sg L (wEnd L i)) = false := by
  obtain ⟨r, j, h1, h2, h3, h4, _⟩ := goAt_end (wStep_goes L) L.length i h (by omega)
  have : r = j ∧ whiteF (sg L j) = false := by
    unfold wStep at h4
    split at h4
    · cases h4
    · rename_i hw; cases h4; exact ⟨rfl, by simpa using hw⟩
  rw [wEnd, h1, this.1]
  exact ⟨h2, h3, this.2⟩
theorem wEnd_gt (L : List Int) {i : Nat} (h : i ≤ L.length) (hw : whiteF (sg L i) = true) : i < wEnd L i := by
  have h1 := wEnd_le L h
  rcases Nat.lt_or_ge i (wEnd L i) with h2 | h2
  · exact h2
  · have : wEnd L i = i := by omega
    rw [this, hw] at h1
    cases h1.2.2
def bStep (L : List Int) (i : Nat) : (List Int × Nat) ⊕ Nat := if 0 ≤ sg L i ∧ sg L i ≠ 41 then (if escF L i = true then .inl ([], (escE L (i + 1)).2) else .inl ([], i + 1)) else .inr i
theorem bStep_goes (L : List Int) : Goes2 L.length (bStep L) := by
  intro i o j hi h
  unfold bStep at h
  split at h
  · rename_i hb
    have hin := sg_ge hb.1
    split at h
    · cases h
      have := escE_le L (i + 1) hin
      exact ⟨by omega, this.2, by simp; omega⟩
    · cases h
      exact ⟨by omega, hin, by simp⟩
  · cases h
def bEnd0 (L : List Int) (i : Nat) : Nat := ((goAt L.length (bStep L) i).2).getD 0
def bEnd (L : List Int) (i : Nat) : Nat := if sg L (bEnd0 L i) = 41 then bEnd0 L i + 1 else bEnd0 L i
theorem bEnd0_le (L : List Int) {i : Nat} (h : i ≤ L.length) : i ≤ bEnd0 L i ∧ bEnd0 L i ≤ L.length := by
  obtain ⟨r, j, h1, h2, h3, h4, _⟩ := goAt_end (bStep_goes L) L.length i h (by omega)
  have : r = j := by
    unfold bStep at h4
    split at h4
    · split at h4 <;> cases h4
    · cases h4; rfl
  rw [bEnd0, h1, this]
  exact ⟨h2, h3⟩
theorem bEnd_le (L : List Int) {i : Nat} (h : i ≤ L.length) : i ≤ bEnd L i ∧ bEnd L i ≤ L.length := by
  have h1 := bEnd0_le L h
  unfold bEnd
  split
  · rename_i hs
    have := sg_ge (L := L) (i := bEnd0 L i) (by omega)
    omega
  · exact h1
def tkK (k : Int) (s : ByteArray) : Tk := ⟨k, s, 0, false, false, false⟩
theorem badURL_ok (L : List Int) (i : Nat) (hL : L.length ≤ 1099511627776) (hi : i ≤ L.length) : MCalls Tryz.prog 117 [rdB L i] [.ptr 0 0] [rdB L (bEnd L i)] (tA (tkK 8 ⟨#[]⟩)) := by
  refine m_start Tryz.func117 Tryz.ntmps117 rfl rfl rfl fun S w β => ?_
  repeat (first | refine awp_seq ?_ | refine awp_block ?_ | refine a_region ?_ | refine r_done ?_ | (refine r_id ?_; first | refine r_wr tab_ok rfl rfl rfl rfl rfl ?_))
  refine a_loop (σ := GS L.length (bStep L) i) (fun x => [rdB L x.i, tB tk0]) (fun x => [(0, .ptr 0 0), (2, .ptr 1 0)]) (fun x => L.length - x.i) (GS.start hi) (fits_convM byV byV ⟨trivial, trivial⟩) ?_
  intro x
  have hle := x.le
  repeat (first | refine awp_seq ?_ | refine thenA_normal ?_ | refine a_region ?_ | refine r_done ?_ | (refine r_id ?_; first | refine r_ev tab_ok rfl rfl rfl rfl byE rfl ?_ | refine r_ev_cnd tab_ok rfl rfl rfl rfl rfl rfl byC (by first | exact fun _ => trivial | (intro h; simp at h; first | exact ⟨by omega, by omega⟩ | omega)) rfl ?_ | refine r_and rfl rfl rfl rfl rfl rfl rfl rfl ?_) | refine r_mro [0] (sign_ok _ _ _ hL (by omega) (by omega)) call55 rfl rfl ⟨rfl, trivial⟩ (by decide) ⟨Sub.refl _, Sub.refl _, trivial⟩ rfl rfl rfl rfl rfl rfl ?_ | refine r_mro_cnd [0] (fun _ => sign_ok _ _ _ hL (by omega) (by omega)) call55 rfl rfl rfl rfl byC ⟨rfl, trivial⟩ (by decide) ⟨Sub.refl _, Sub.refl _, trivial⟩ rfl rfl rfl rfl rfl rfl ?_)
  rw [Int.add_zero]
  refine awp_cond rfl (fun h => ?_) (fun h => ?_)
  · have hb : 0 ≤ sg L x.i ∧ sg L x.i ≠ 41 := by simpa using h
    have hin := sg_ge hb.1
    repeat (first | refine awp_seq ?_ | refine thenA_normal ?_ | refine awp_block ?_ | refine a_region ?_ | refine awp_skip ?_ | refine r_done ?_ | (refine r_id ?_; first | refine r_ev tab_ok rfl rfl rfl rfl byE rfl ?_) | refine r_mro [0] (escape_ok _ _ _ hL (by omega) (by omega)) call81 rfl rfl ⟨rfl, trivial⟩ (by decide) ⟨Sub.refl _, Sub.refl _, trivial⟩ rfl rfl rfl rfl rfl rfl ?_)
    rw [Int.add_zero]
    refine awp_cond rfl (fun h2 => ?_) (fun h2 => ?_)
    · have hst : bStep L x.i = .inl ([], (escE L (x.i + 1)).2) := by rw [bStep, if_pos hb, if_pos h2]
      have hg := bStep_goes L _ _ _ hle hst
      repeat (first | refine awp_seq ?_ | refine thenA_normal ?_ | refine a_region ?_ | refine r_done ?_ | (refine r_id ?_; first | refine r_ev tab_ok rfl rfl rfl rfl byE rfl ?_ | refine r_ld tab_ok rfl rfl rfl rfl rfl ?_ | refine r_st tab_ok rfl rfl rfl rfl ?_ | refine r_nilck rfl rfl rfl rfl rfl rfl rfl ?_))
      refine r_mcall [0] (escaped_ok L (x.i + 1) hL (by omega)) call106 rfl rfl ⟨rfl, trivial⟩ (by decide) ⟨Sub.refl _, trivial⟩ rfl rfl rfl rfl rfl rfl rfl ?_
      repeat (first | refine thenA_normal ?_ | refine blockA_normal ?_ | refine r_done ?_)
      exact ⟨x.next (bStep_goes L) hst, by dsimp only [GS.next]; omega, fits_convM byV byV ⟨trivial, trivial⟩⟩
    · have hst : bStep L x.i = .inl ([], x.i + 1) := by rw [bStep, if_pos hb, if_neg (by rw [h2]; decide)]
      have hg := bStep_goes L _ _ _ hle hst
      repeat (first | refine thenA_normal ?_ | refine a_region ?_ | refine blockA_normal ?_ | refine r_done ?_ | (refine r_id ?_; first | refine r_ev tab_ok rfl rfl rfl rfl byE rfl ?_ | refine r_ld tab_ok rfl rfl rfl rfl rfl ?_ | refine r_st tab_ok rfl rfl rfl rfl ?_ | refine r_nilck rfl rfl rfl rfl rfl rfl rfl ?_))
      exact ⟨x.next (bStep_goes L) hst, by dsimp only [GS.next]; omega, fits_convM byV byV ⟨trivial, trivial⟩⟩
  · have hst : bStep L x.i = .inr x.i := if_neg (by simpa using h)
    have hb0 : bEnd0 L i = x.i := by rw [bEnd0, x.stop hst]; rfl
    rw [bEnd, hb0]
    repeat (first | refine awp_seq ?_ | refine thenA_normal ?_ | refine a_region ?_ | refine awp_exit ?_ | refine r_done ?_ | (refine r_id ?_; first | refine r_ev tab_ok rfl rfl rfl rfl byE rfl ?_) | refine r_mro [0] (sign_ok _ _ _ hL (by omega) (by omega)) call55 rfl rfl ⟨rfl, trivial⟩ (by decide) ⟨Sub.refl _, Sub.refl _, trivial⟩ rfl rfl rfl rfl rfl rfl ?_)
    rw [Int.add_zero]
    refine awp_cond_p rfl (fun h3 => ?_) (fun h3 => ?_)
    · have hin := sg_ge (L := L) (i := x.i) (by omega)
      rw [if_pos h3]
      repeat (first | refine awp_seq ?_ | refine thenA_normal ?_ | refine a_region ?_ | refine awp_ret ?_ | refine r_done ?_ | (refine r_id ?_; first | refine r_ev tab_ok rfl rfl rfl rfl byE rfl ?_ | refine r_ld tab_ok rfl rfl rfl rfl rfl ?_ | refine r_st tab_ok rfl rfl rfl rfl ?_ | refine r_build tab_ok rfl rfl rfl rfl rfl rfl ?_ | refine r_nilck rfl rfl rfl rfl rfl rfl rfl ?_))
      exact retM1c tab_ok byO rfl rfl rfl rfl rfl rfl rfl rfl (Sub.refl _)
    · rw [if_neg h3]
      repeat (first | refine awp_seq ?_ | refine thenA_normal ?_ | refine a_region ?_ | refine awp_ret ?_ | refine awp_skip ?_ | refine r_done ?_ | (refine r_id ?_; first | refine r_st tab_ok rfl rfl rfl rfl ?_ | refine r_build tab_ok rfl rfl rfl rfl rfl rfl ?_))
      exact retM1c tab_ok byO rfl rfl rfl rfl rfl rfl rfl rfl (Sub.refl _)
end Go.Proofs.YtiolnmfaeenlmaaGreatDoor
