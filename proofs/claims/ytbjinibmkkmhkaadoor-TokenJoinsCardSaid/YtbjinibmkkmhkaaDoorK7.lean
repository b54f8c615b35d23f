import Derived.Test.YtbjinibmkkmhkaaDoorCb
import Derived.Test.YtbjinibmkkmhkaaDoorTy
/- The document's own answer, chapter 1: signs. -/
namespace Go.Proofs.YtbjinibmkkmhkaaDoor
open Go Go.RowKit

def digF (r : Int) : Bool := decide (48 ≤ r) && decide (r ≤ 57)
def letF (r : Int) : Bool := decide (97 ≤ r) && decide (r ≤ 122) || decide (65 ≤ r) && decide (r ≤ 90) || decide (r = 95) || decide (128 ≤ r)
def nameF (r : Int) : Bool := letF r || digF r || decide (r = 45)
def whiteF (r : Int) : Bool := decide (r = 10) || decide (r = 9) || decide (r = 32)
/-- May a sign not stand in a url? -/
def badF (r : Int) : Bool := decide (r = 34) || decide (r = 39) || decide (r = 40) || decide (0 ≤ r) && decide (r ≤ 8) || decide (r = 11) || decide (14 ≤ r) && decide (r ≤ 31) || decide (r = 127)
def hexF (r : Int) : Int × Bool := if 48 ≤ r ∧ r ≤ 57 then (r - 48, true) else if 97 ≤ r ∧ r ≤ 102 then (r - 87, true) else if 65 ≤ r ∧ r ≤ 70 then (r - 55, true) else (0, false)
def iA (r : Int) : AV := .val (.int .i32 r)

def hexA (r : Int) : AV := .tup [.val (.int .i64 (hexF r).1), .val (.bool (hexF r).2)]
theorem decode_one (s : ByteArray) (pos : Nat) (h : pos < s.size) : 1 ≤ (Utf8.decode s pos).2 := by
  by_cases ha : (s[pos]'h).toNat < 128
  · rw [decode_ascii s pos h ha]; exact Nat.le_refl _
  · exact (decode_high s pos h (by omega)).2
/-- The signs from a place on; cr: is the sign ahead a carriage return? -/
def rd (s : ByteArray) : Nat → Nat → Bool → List Int
  | 0, _, _ => []
  | f + 1, pos, cr =>
    if pos < s.size then
      (if ((pos = 0 ∧ ((Utf8.decode s pos).1 : Int) = 65279) ∨ (((Utf8.decode s pos).1 : Int) = 10 ∧ cr = true)) then []
        else [if ((Utf8.decode s pos).1 : Int) = 13 ∨ ((Utf8.decode s pos).1 : Int) = 12 then 10 else if ((Utf8.decode s pos).1 : Int) = 0 then 65533 else ((Utf8.decode s pos).1 : Int)])
      ++ rd s f (pos + (Utf8.decode s pos).2) (decide (((Utf8.decode s pos).1 : Int) = 13))
    else []
theorem rd_fuel (s : ByteArray) : ∀ (f f' pos : Nat) (cr : Bool), s.size - pos ≤ f → s.size - pos ≤ f' → rd s f pos cr = rd s f' pos cr
  | 0, 0, _, _, _, _ => rfl
  | 0, f' + 1, pos, cr, h, _ => by rw [rd, rd, if_neg (by omega)]
  | f + 1, 0, pos, cr, _, h => by rw [rd, rd, if_neg (by omega)]
  | f + 1, f' + 1, pos, cr, h, h' => by
    rw [rd, rd]
    by_cases hp : pos < s.size
    · have := decode_one s pos hp
      rw [if_pos hp, if_pos hp, rd_fuel s f f' _ _ (by omega) (by omega)]
    · rw [if_neg hp, if_neg hp]
def rdAt (s : ByteArray) (pos : Nat) (cr : Bool) : List Int := rd s (s.size - pos) pos cr
theorem rdAt_end {s : ByteArray} {pos : Nat} {cr : Bool} (h : ¬ pos < s.size) : rdAt s pos cr = [] := by
  unfold rdAt
  rw [show s.size - pos = 0 by omega]
  rfl
theorem rdAt_step {s : ByteArray} {pos : Nat} {cr : Bool} (h : pos < s.size) : rdAt s pos cr =
      (if ((pos = 0 ∧ ((Utf8.decode s pos).1 : Int) = 65279) ∨ (((Utf8.decode s pos).1 : Int) = 10 ∧ cr = true)) then []
        else [if ((Utf8.decode s pos).1 : Int) = 13 ∨ ((Utf8.decode s pos).1 : Int) = 12 then 10 else if ((Utf8.decode s pos).1 : Int) = 0 then 65533 else ((Utf8.decode s pos).1 : Int)])
      ++ rdAt s (pos + (Utf8.decode s pos).2) (decide (((Utf8.decode s pos).1 : Int) = 13)) := by
  have h1 := decode_one s pos h
  have h2 : s.size - pos = (s.size - pos - 1) + 1 := by omega
  have e : rdAt s pos cr = rd s ((s.size - pos - 1) + 1) pos cr := by rw [← h2]; rfl
  rw [e, rd, if_pos h, rdAt, rd_fuel s (s.size - pos - 1) (s.size - (pos + (Utf8.decode s pos).2)) _ _ (by omega) (Nat.le_refl _)]
def readL (s : ByteArray) : List Int := rdAt s 0 false
theorem rd_len (s : ByteArray) : ∀ (f pos : Nat) (cr : Bool), (rd s f pos cr).length ≤ f
  | 0, _, _ => Nat.le_refl _
  | f + 1, pos, cr => by
    rw [rd]
    have := rd_len s f (pos + (Utf8.decode s pos).2) (decide (((Utf8.decode s pos).1 : Int) = 13))
    split
    · split <;> simp <;> omega
    · simp
theorem readL_len (s : ByteArray) : (readL s).length ≤ s.size := rd_len s _ _ _

structure RS (s : ByteArray) where
  pos : Nat
  cr : Bool
  out : List Int
  le : out ++ rdAt s pos cr = readL s
  c0 : pos = 0 → cr = false
theorem RS.len {s : ByteArray} (x : RS s) : x.out.length ≤ s.size := by
  have h1 := readL_len s
  have := congrArg List.length x.le
  rw [List.length_append] at this
  omega

theorem refRead (b : List UInt8) (hb : b.length ≤ 17592186044416) : PCalls Tryd.prog 13 [.sl 1 (b.map bD)] (.sl 1 ((readL ⟨b.toArray⟩).map rD)) := by
  refine p_start Tryd.func13 Tryd.ntmps13 rfl rfl rfl fun S w => ?_
  have hs : (⟨b.toArray⟩ : ByteArray).size ≤ 17592186044416 := by simpa [ByteArray.size] using hb
  generalize hsd : (⟨b.toArray⟩ : ByteArray) = s at hs
  repeat (first | refine awp_seq ?_ | refine thenA_normal ?_ | refine awp_block ?_ | refine a_region ?_ | refine r_done ?_ | (refine r_id ?_; first | refine r_ev tab_ok rfl rfl rfl rfl (by first | exact trivial | exact ⟨by omega, by omega⟩ | omega | exact ⟨by omega, by omega, by omega, by omega⟩ | exact Nat.le_of_ble_eq_true rfl) rfl ?_ | refine r_range tab_ok rfl rfl rfl rfl rfl rfl rfl ?_ | refine r_bstr' tab_ok rfl rfl rfl rfl rfl rfl rfl rfl rfl ?_))
  rw [hsd]
  refine a_loop (σ := RS s) (fun x => [.iter s x.pos, .row 0 21 1 (x.out.map rD)]) (fun x => [(3, .row 1 0), (4, .val (.bool (decide (x.pos = 0)))), (5, .val (.bool x.cr)), (10, .ptr 0 0)]) (fun x => s.size - x.pos) ⟨0, false, [], rfl, fun _ => rfl⟩ (fits_conv (by repeat' first | exact trivial | exact rfl | (rw [List.map_append]; first | done | rfl) | exact c_sub rfl (Sub.refl _) rfl | exact c_nil rfl rfl | exact c_thaw rfl rfl rfl | exact c_row rfl rfl rfl | exact c_row rfl rfl (by rw [List.map_append]; first | done | rfl) | exact c_ptr rfl rfl rfl rfl | exact Or.inl ⟨c_sub rfl (Sub.refl _) rfl, c_ptr rfl rfl rfl rfl⟩ | exact c_alt rfl rfl rfl rfl | exact c_ro rfl rfl | exact c_eo rfl rfl | exact c_sub rfl (Sub.altl _ _) rfl | exact c_sub rfl (Sub.nil _) rfl | refine ⟨_, _, rfl, ?_, ?_⟩ | apply And.intro) (by repeat' first | exact trivial | exact rfl | (rw [List.map_append]; first | done | rfl) | exact c_sub rfl (Sub.refl _) rfl | exact c_nil rfl rfl | exact c_thaw rfl rfl rfl | exact c_row rfl rfl rfl | exact c_row rfl rfl (by rw [List.map_append]; first | done | rfl) | exact c_ptr rfl rfl rfl rfl | exact Or.inl ⟨c_sub rfl (Sub.refl _) rfl, c_ptr rfl rfl rfl rfl⟩ | exact c_alt rfl rfl rfl rfl | exact c_ro rfl rfl | exact c_eo rfl rfl | exact c_sub rfl (Sub.altl _ _) rfl | exact c_sub rfl (Sub.nil _) rfl | refine ⟨_, _, rfl, ?_, ?_⟩ | apply And.intro)) ?_
  intro x
  have hxl := x.len
  obtain ⟨pos, cr, out, hle, hc0⟩ := x
  dsimp only at hxl ⊢
  by_cases hp : pos < s.size
  · have hst := rdAt_step (cr := cr) hp
    have hd1 := decode_one s pos hp
    repeat (first | refine awp_seq ?_ | refine thenA_normal ?_ | refine awp_block ?_ | refine a_region ?_ | refine awp_skip ?_ | refine r_done ?_ | (refine r_id ?_; first | refine r_ev tab_ok rfl rfl rfl rfl (by first | exact trivial | exact ⟨by omega, by omega⟩ | omega | exact ⟨by omega, by omega, by omega, by omega⟩ | exact Nat.le_of_ble_eq_true rfl) rfl ?_ | refine r_ev_cnd tab_ok rfl rfl rfl rfl rfl rfl (by first | exact fun _ => rfl | exact cs1 | exact cs2 | exact cs3) (by first | exact fun _ => trivial | (intro h; simp at h; first | exact ⟨by omega, by omega⟩ | omega)) rfl ?_ | refine r_and rfl rfl rfl rfl rfl rfl rfl rfl ?_ | refine r_next rfl rfl rfl rfl (by assumption) rfl rfl rfl ?_) | refine awp_cond_t rfl ?_)
    generalize hr : ((Utf8.decode s pos).1 : Int) = r at hst ⊢
    generalize hq : pos + (Utf8.decode s pos).2 = q at hst ⊢
    have hq' : pos < q := by omega
    have hq0 : decide (q = 0) = false := by rw [decide_eq_false_iff_not]; omega
    refine awp_cond rfl (fun h1 => ?_) (fun h1 => ?_)
    · simp at h1
      rw [if_pos (.inl h1)] at hst
      have h13 : decide (r = 13) = false := by rw [decide_eq_false_iff_not]; omega
      rw [h13] at hst
      repeat (first | refine awp_seq ?_ | refine thenA_normal ?_ | refine a_region ?_ | refine awp_exit ?_ | refine thenA_exit ?_ | refine blockA_hit rfl ?_ | refine r_done ?_ | (refine r_id ?_; first | refine r_ev tab_ok rfl rfl rfl rfl (by first | exact trivial | exact ⟨by omega, by omega⟩ | omega | exact ⟨by omega, by omega, by omega, by omega⟩ | exact Nat.le_of_ble_eq_true rfl) rfl ?_))
      refine ⟨⟨q, cr, out, by rw [← hle, hst, hc0 h1.1]; simp, fun _ => hc0 h1.1⟩, by dsimp only; omega, ?_⟩
      dsimp only
      rw [hq0]
      exact fits_conv (by repeat' first | exact trivial | exact rfl | (rw [List.map_append]; first | done | rfl) | exact c_sub rfl (Sub.refl _) rfl | exact c_nil rfl rfl | exact c_thaw rfl rfl rfl | exact c_row rfl rfl rfl | exact c_row rfl rfl (by rw [List.map_append]; first | done | rfl) | exact c_ptr rfl rfl rfl rfl | exact Or.inl ⟨c_sub rfl (Sub.refl _) rfl, c_ptr rfl rfl rfl rfl⟩ | exact c_alt rfl rfl rfl rfl | exact c_ro rfl rfl | exact c_eo rfl rfl | exact c_sub rfl (Sub.altl _ _) rfl | exact c_sub rfl (Sub.nil _) rfl | refine ⟨_, _, rfl, ?_, ?_⟩ | apply And.intro) (by repeat' first | exact trivial | exact rfl | (rw [List.map_append]; first | done | rfl) | exact c_sub rfl (Sub.refl _) rfl | exact c_nil rfl rfl | exact c_thaw rfl rfl rfl | exact c_row rfl rfl rfl | exact c_row rfl rfl (by rw [List.map_append]; first | done | rfl) | exact c_ptr rfl rfl rfl rfl | exact Or.inl ⟨c_sub rfl (Sub.refl _) rfl, c_ptr rfl rfl rfl rfl⟩ | exact c_alt rfl rfl rfl rfl | exact c_ro rfl rfl | exact c_eo rfl rfl | exact c_sub rfl (Sub.altl _ _) rfl | exact c_sub rfl (Sub.nil _) rfl | refine ⟨_, _, rfl, ?_, ?_⟩ | apply And.intro)
    · simp at h1
      repeat (first | refine awp_seq ?_ | refine thenA_normal ?_ | refine a_region ?_ | refine awp_skip ?_ | refine r_done ?_ | (refine r_id ?_; first | refine r_ev tab_ok rfl rfl rfl rfl (by first | exact trivial | exact ⟨by omega, by omega⟩ | omega | exact ⟨by omega, by omega, by omega, by omega⟩ | exact Nat.le_of_ble_eq_true rfl) rfl ?_ | refine r_ev_cnd tab_ok rfl rfl rfl rfl rfl rfl (by first | exact fun _ => rfl | exact cs1 | exact cs2 | exact cs3) (by first | exact fun _ => trivial | (intro h; simp at h; first | exact ⟨by omega, by omega⟩ | omega)) rfl ?_ | refine r_and rfl rfl rfl rfl rfl rfl rfl rfl ?_))
      refine awp_cond rfl (fun h2 => ?_) (fun h2 => ?_)
      · have h2' : cr = true ∧ r = 10 := by simpa using h2
        rw [if_pos (.inr ⟨h2'.2, h2'.1⟩)] at hst
        have h13 : decide (r = 13) = false := by rw [decide_eq_false_iff_not]; omega
        rw [h13] at hst
        repeat (first | refine awp_seq ?_ | refine thenA_normal ?_ | refine a_region ?_ | refine awp_exit ?_ | refine thenA_exit ?_ | refine blockA_hit rfl ?_ | refine r_done ?_ | (refine r_id ?_; first | refine r_ev tab_ok rfl rfl rfl rfl (by first | exact trivial | exact ⟨by omega, by omega⟩ | omega | exact ⟨by omega, by omega, by omega, by omega⟩ | exact Nat.le_of_ble_eq_true rfl) rfl ?_))
        refine ⟨⟨q, false, out, by rw [← hle, hst]; simp, fun h => by omega⟩, by dsimp only; omega, ?_⟩
        dsimp only
        rw [hq0]
        exact fits_conv (by repeat' first | exact trivial | exact rfl | (rw [List.map_append]; first | done | rfl) | exact c_sub rfl (Sub.refl _) rfl | exact c_nil rfl rfl | exact c_thaw rfl rfl rfl | exact c_row rfl rfl rfl | exact c_row rfl rfl (by rw [List.map_append]; first | done | rfl) | exact c_ptr rfl rfl rfl rfl | exact Or.inl ⟨c_sub rfl (Sub.refl _) rfl, c_ptr rfl rfl rfl rfl⟩ | exact c_alt rfl rfl rfl rfl | exact c_ro rfl rfl | exact c_eo rfl rfl | exact c_sub rfl (Sub.altl _ _) rfl | exact c_sub rfl (Sub.nil _) rfl | refine ⟨_, _, rfl, ?_, ?_⟩ | apply And.intro) (by repeat' first | exact trivial | exact rfl | (rw [List.map_append]; first | done | rfl) | exact c_sub rfl (Sub.refl _) rfl | exact c_nil rfl rfl | exact c_thaw rfl rfl rfl | exact c_row rfl rfl rfl | exact c_row rfl rfl (by rw [List.map_append]; first | done | rfl) | exact c_ptr rfl rfl rfl rfl | exact Or.inl ⟨c_sub rfl (Sub.refl _) rfl, c_ptr rfl rfl rfl rfl⟩ | exact c_alt rfl rfl rfl rfl | exact c_ro rfl rfl | exact c_eo rfl rfl | exact c_sub rfl (Sub.altl _ _) rfl | exact c_sub rfl (Sub.nil _) rfl | refine ⟨_, _, rfl, ?_, ?_⟩ | apply And.intro)
      · have h3 : ¬ (r = 10 ∧ cr = true) := by
          have h3 : ¬ (cr = true ∧ r = 10) := by simpa using h2
          exact fun h => h3 ⟨h.2, h.1⟩
        rw [if_neg (by rintro (h | h); exact h1 h.1 h.2; exact h3 h)] at hst
        repeat (first | refine awp_seq ?_ | refine thenA_normal ?_ | refine awp_block ?_ | refine a_region ?_ | refine awp_skip ?_ | refine r_done ?_ | (refine r_id ?_; first | refine r_ev tab_ok rfl rfl rfl rfl (by first | exact trivial | exact ⟨by omega, by omega⟩ | omega | exact ⟨by omega, by omega, by omega, by omega⟩ | exact Nat.le_of_ble_eq_true rfl) rfl ?_))
        refine awp_cond_p rfl (fun h4 => ?_) (fun h4 => ?_)
        · rw [if_pos (.inl h4)] at hst
          repeat (first | refine thenA_normal ?_ | refine awp_skip ?_)
          refine awp_cond_p rfl (fun _ => ?_) (fun h => absurd h4 h)
          repeat (first | refine thenA_normal ?_ | refine a_region ?_ | refine blockA_normal ?_ | refine r_done ?_ | (refine r_id ?_; first | refine r_ev tab_ok rfl rfl rfl rfl (by first | exact trivial | exact ⟨by omega, by omega⟩ | omega | exact ⟨by omega, by omega, by omega, by omega⟩ | exact Nat.le_of_ble_eq_true rfl) rfl ?_ | refine r_built tab_ok rfl rfl rfl rfl rfl rfl rfl rfl rfl ?_ | refine r_append tab_ok rfl rfl rfl rfl rfl rfl rfl rfl rfl (by first | omega | (simp; omega)) rfl ?_))
          refine ⟨⟨q, decide (r = 13), out ++ [10], by rw [← hle, hst]; simp, fun h => by omega⟩, by dsimp only; omega, ?_⟩
          dsimp only
          rw [hq0]
          exact fits_conv (by repeat' first | exact trivial | exact rfl | (rw [List.map_append]; first | done | rfl) | exact c_sub rfl (Sub.refl _) rfl | exact c_nil rfl rfl | exact c_thaw rfl rfl rfl | exact c_row rfl rfl rfl | exact c_row rfl rfl (by rw [List.map_append]; first | done | rfl) | exact c_ptr rfl rfl rfl rfl | exact Or.inl ⟨c_sub rfl (Sub.refl _) rfl, c_ptr rfl rfl rfl rfl⟩ | exact c_alt rfl rfl rfl rfl | exact c_ro rfl rfl | exact c_eo rfl rfl | exact c_sub rfl (Sub.altl _ _) rfl | exact c_sub rfl (Sub.nil _) rfl | refine ⟨_, _, rfl, ?_, ?_⟩ | apply And.intro) (by repeat' first | exact trivial | exact rfl | (rw [List.map_append]; first | done | rfl) | exact c_sub rfl (Sub.refl _) rfl | exact c_nil rfl rfl | exact c_thaw rfl rfl rfl | exact c_row rfl rfl rfl | exact c_row rfl rfl (by rw [List.map_append]; first | done | rfl) | exact c_ptr rfl rfl rfl rfl | exact Or.inl ⟨c_sub rfl (Sub.refl _) rfl, c_ptr rfl rfl rfl rfl⟩ | exact c_alt rfl rfl rfl rfl | exact c_ro rfl rfl | exact c_eo rfl rfl | exact c_sub rfl (Sub.altl _ _) rfl | exact c_sub rfl (Sub.nil _) rfl | refine ⟨_, _, rfl, ?_, ?_⟩ | apply And.intro)
        · repeat (first | refine thenA_normal ?_ | refine a_region ?_ | refine r_done ?_ | (refine r_id ?_; first | refine r_ev tab_ok rfl rfl rfl rfl (by first | exact trivial | exact ⟨by omega, by omega⟩ | omega | exact ⟨by omega, by omega, by omega, by omega⟩ | exact Nat.le_of_ble_eq_true rfl) rfl ?_))
          refine awp_cond_p rfl (fun h5 => ?_) (fun h5 => ?_)
          · rw [if_pos (.inr h5)] at hst
            repeat (first | refine thenA_normal ?_ | refine a_region ?_ | refine blockA_normal ?_ | refine r_done ?_ | (refine r_id ?_; first | refine r_ev tab_ok rfl rfl rfl rfl (by first | exact trivial | exact ⟨by omega, by omega⟩ | omega | exact ⟨by omega, by omega, by omega, by omega⟩ | exact Nat.le_of_ble_eq_true rfl) rfl ?_ | refine r_built tab_ok rfl rfl rfl rfl rfl rfl rfl rfl rfl ?_ | refine r_append tab_ok rfl rfl rfl rfl rfl rfl rfl rfl rfl (by first | omega | (simp; omega)) rfl ?_))
            refine ⟨⟨q, decide (r = 13), out ++ [10], by rw [← hle, hst]; simp, fun h => by omega⟩, by dsimp only; omega, ?_⟩
            dsimp only
            rw [hq0]
            exact fits_conv (by repeat' first | exact trivial | exact rfl | (rw [List.map_append]; first | done | rfl) | exact c_sub rfl (Sub.refl _) rfl | exact c_nil rfl rfl | exact c_thaw rfl rfl rfl | exact c_row rfl rfl rfl | exact c_row rfl rfl (by rw [List.map_append]; first | done | rfl) | exact c_ptr rfl rfl rfl rfl | exact Or.inl ⟨c_sub rfl (Sub.refl _) rfl, c_ptr rfl rfl rfl rfl⟩ | exact c_alt rfl rfl rfl rfl | exact c_ro rfl rfl | exact c_eo rfl rfl | exact c_sub rfl (Sub.altl _ _) rfl | exact c_sub rfl (Sub.nil _) rfl | refine ⟨_, _, rfl, ?_, ?_⟩ | apply And.intro) (by repeat' first | exact trivial | exact rfl | (rw [List.map_append]; first | done | rfl) | exact c_sub rfl (Sub.refl _) rfl | exact c_nil rfl rfl | exact c_thaw rfl rfl rfl | exact c_row rfl rfl rfl | exact c_row rfl rfl (by rw [List.map_append]; first | done | rfl) | exact c_ptr rfl rfl rfl rfl | exact Or.inl ⟨c_sub rfl (Sub.refl _) rfl, c_ptr rfl rfl rfl rfl⟩ | exact c_alt rfl rfl rfl rfl | exact c_ro rfl rfl | exact c_eo rfl rfl | exact c_sub rfl (Sub.altl _ _) rfl | exact c_sub rfl (Sub.nil _) rfl | refine ⟨_, _, rfl, ?_, ?_⟩ | apply And.intro)
          · rw [if_neg (by omega)] at hst
            repeat (first | refine awp_seq ?_ | refine thenA_normal ?_ | refine a_region ?_ | refine r_done ?_ | (refine r_id ?_; first | refine r_ev tab_ok rfl rfl rfl rfl (by first | exact trivial | exact ⟨by omega, by omega⟩ | omega | exact ⟨by omega, by omega, by omega, by omega⟩ | exact Nat.le_of_ble_eq_true rfl) rfl ?_))
            refine awp_cond_p rfl (fun h6 => ?_) (fun h6 => ?_)
            · rw [if_pos h6] at hst
              repeat (first | refine thenA_normal ?_ | refine a_region ?_ | refine blockA_normal ?_ | refine r_done ?_ | (refine r_id ?_; first | refine r_ev tab_ok rfl rfl rfl rfl (by first | exact trivial | exact ⟨by omega, by omega⟩ | omega | exact ⟨by omega, by omega, by omega, by omega⟩ | exact Nat.le_of_ble_eq_true rfl) rfl ?_ | refine r_built tab_ok rfl rfl rfl rfl rfl rfl rfl rfl rfl ?_ | refine r_append tab_ok rfl rfl rfl rfl rfl rfl rfl rfl rfl (by first | omega | (simp; omega)) rfl ?_))
              refine ⟨⟨q, decide (r = 13), out ++ [65533], by rw [← hle, hst]; simp, fun h => by omega⟩, by dsimp only; omega, ?_⟩
              dsimp only
              rw [hq0]
              exact fits_conv (by repeat' first | exact trivial | exact rfl | (rw [List.map_append]; first | done | rfl) | exact c_sub rfl (Sub.refl _) rfl | exact c_nil rfl rfl | exact c_thaw rfl rfl rfl | exact c_row rfl rfl rfl | exact c_row rfl rfl (by rw [List.map_append]; first | done | rfl) | exact c_ptr rfl rfl rfl rfl | exact Or.inl ⟨c_sub rfl (Sub.refl _) rfl, c_ptr rfl rfl rfl rfl⟩ | exact c_alt rfl rfl rfl rfl | exact c_ro rfl rfl | exact c_eo rfl rfl | exact c_sub rfl (Sub.altl _ _) rfl | exact c_sub rfl (Sub.nil _) rfl | refine ⟨_, _, rfl, ?_, ?_⟩ | apply And.intro) (by repeat' first | exact trivial | exact rfl | (rw [List.map_append]; first | done | rfl) | exact c_sub rfl (Sub.refl _) rfl | exact c_nil rfl rfl | exact c_thaw rfl rfl rfl | exact c_row rfl rfl rfl | exact c_row rfl rfl (by rw [List.map_append]; first | done | rfl) | exact c_ptr rfl rfl rfl rfl | exact Or.inl ⟨c_sub rfl (Sub.refl _) rfl, c_ptr rfl rfl rfl rfl⟩ | exact c_alt rfl rfl rfl rfl | exact c_ro rfl rfl | exact c_eo rfl rfl | exact c_sub rfl (Sub.altl _ _) rfl | exact c_sub rfl (Sub.nil _) rfl | refine ⟨_, _, rfl, ?_, ?_⟩ | apply And.intro)
            · rw [if_neg h6] at hst
              repeat (first | refine thenA_normal ?_ | refine a_region ?_ | refine blockA_normal ?_ | refine awp_skip ?_ | refine r_done ?_ | (refine r_id ?_; first | refine r_ev tab_ok rfl rfl rfl rfl (by first | exact trivial | exact ⟨by omega, by omega⟩ | omega | exact ⟨by omega, by omega, by omega, by omega⟩ | exact Nat.le_of_ble_eq_true rfl) rfl ?_ | refine r_built tab_ok rfl rfl rfl rfl rfl rfl rfl rfl rfl ?_ | refine r_append tab_ok rfl rfl rfl rfl rfl rfl rfl rfl rfl (by first | omega | (simp; omega)) rfl ?_))
              refine ⟨⟨q, decide (r = 13), out ++ [r], by rw [← hle, hst]; simp, fun h => by omega⟩, by dsimp only; omega, ?_⟩
              dsimp only
              rw [hq0]
              exact fits_conv (by repeat' first | exact trivial | exact rfl | (rw [List.map_append]; first | done | rfl) | exact c_sub rfl (Sub.refl _) rfl | exact c_nil rfl rfl | exact c_thaw rfl rfl rfl | exact c_row rfl rfl rfl | exact c_row rfl rfl (by rw [List.map_append]; first | done | rfl) | exact c_ptr rfl rfl rfl rfl | exact Or.inl ⟨c_sub rfl (Sub.refl _) rfl, c_ptr rfl rfl rfl rfl⟩ | exact c_alt rfl rfl rfl rfl | exact c_ro rfl rfl | exact c_eo rfl rfl | exact c_sub rfl (Sub.altl _ _) rfl | exact c_sub rfl (Sub.nil _) rfl | refine ⟨_, _, rfl, ?_, ?_⟩ | apply And.intro) (by repeat' first | exact trivial | exact rfl | (rw [List.map_append]; first | done | rfl) | exact c_sub rfl (Sub.refl _) rfl | exact c_nil rfl rfl | exact c_thaw rfl rfl rfl | exact c_row rfl rfl rfl | exact c_row rfl rfl (by rw [List.map_append]; first | done | rfl) | exact c_ptr rfl rfl rfl rfl | exact Or.inl ⟨c_sub rfl (Sub.refl _) rfl, c_ptr rfl rfl rfl rfl⟩ | exact c_alt rfl rfl rfl rfl | exact c_ro rfl rfl | exact c_eo rfl rfl | exact c_sub rfl (Sub.altl _ _) rfl | exact c_sub rfl (Sub.nil _) rfl | refine ⟨_, _, rfl, ?_, ?_⟩ | apply And.intro)
  · rw [rdAt_end hp, List.append_nil] at hle
    subst hle
    repeat (first | refine awp_seq ?_ | refine thenA_normal ?_ | refine a_region ?_ | refine awp_ret ?_ | refine awp_exit ?_ | refine r_done ?_ | (refine r_id ?_; first | refine r_ev tab_ok rfl rfl rfl rfl (by first | exact trivial | exact ⟨by omega, by omega⟩ | omega | exact ⟨by omega, by omega, by omega, by omega⟩ | exact Nat.le_of_ble_eq_true rfl) rfl ?_ | refine r_next_end rfl rfl rfl rfl (by assumption) rfl rfl rfl ?_) | refine ret1_row (by first | exact .inl rfl | exact .inr rfl) rfl rfl rfl ?_ | refine awp_cond_f rfl ?_)
    exact Sub.refl _
def lowB (b : UInt8) : UInt8 := if 65 ≤ b.toNat ∧ b.toNat ≤ 90 then b + 32 else b
def lowL (l : List UInt8) : List UInt8 := l.map lowB
def lowS (s : ByteArray) : ByteArray := ⟨(lowL s.data.toList).toArray⟩
theorem lowB_up {b : UInt8} (h : 65 ≤ b.toNat ∧ b.toNat ≤ 90) : ((lowB b).toNat : Int) = (b.toNat : Int) + 32 := by
  rw [lowB, if_pos h, UInt8.toNat_add]
  simp
  omega
theorem lowB_no {b : UInt8} (h : ¬ (65 ≤ b.toNat ∧ b.toNat ≤ 90)) : lowB b = b := by rw [lowB, if_neg h]
theorem getD_byte {s : ByteArray} {i : Nat} (h : i < s.data.toList.length) : s.data.toList.getD i 0 = s.data.toList[i] := by rw [List.getD_eq_getElem?_getD, List.getElem?_eq_getElem h]; rfl

def mixL (l : List UInt8) (i : Nat) : List UInt8 := lowL (l.take i) ++ l.drop i
end Go.Proofs.YtbjinibmkkmhkaaDoor

/- The document's own answer, chapter 2: a reader of signs. -/
namespace Go.Proofs.YtbjinibmkkmhkaaDoor
open Go Go.RowKit

/-- The sign at a place; -1: the end. -/
def sg (L : List Int) (i : Int) : Int := if h : 0 ≤ i ∧ i.toNat < L.length then L[i.toNat]'h.2 else -1
/-- A reader: signs, and a place. -/
def rdB (L : List Int) (a : Int) : AB := .box 56 [.sl 1 (L.map rD), .val (.int .i64 a)]
def kA (k : Int) : AV := .val (.int .i64 k)
def escF (L : List Int) (i : Int) : Bool := decide (sg L i = 92) && !decide (sg L (i + 1) = 10)
def namesF (L : List Int) (i : Int) : Bool := if sg L i = 45 then letF (sg L (i + 1)) || decide (sg L (i + 1) = 45) || escF L (i + 1) else letF (sg L i) || escF L i

end Go.Proofs.YtbjinibmkkmhkaaDoor

/- The reader: numbers, escapes, names. -/
namespace Go.Proofs.YtbjinibmkkmhkaaDoor
open Go Go.RowKit

def numsF (L : List Int) (a : Int) : Bool := digF (sg L (a + if sg L a = 43 ∨ sg L a = 45 then 1 else 0)) || (decide (sg L (a + if sg L a = 43 ∨ sg L a = 45 then 1 else 0) = 46) && digF (sg L (a + if sg L a = 43 ∨ sg L a = 45 then 2 else 1)))
/-- Up to so many hex digits: their number, and the place behind. -/
def hexR (L : List Int) : Nat → Nat → Int → Int × Nat
  | 0, i, n => (n, i)
  | m + 1, i, n => if (hexF (sg L i)).2 = true then hexR L m (i + 1) (n * 16 + (hexF (sg L i)).1) else (n, i)
def codeF (n : Int) : Int := if n = 0 ∨ (55296 ≤ n ∧ n ≤ 57343) ∨ 1114111 < n then 65533 else n
def escE (L : List Int) (i : Nat) : Int × Nat :=
  if sg L i < 0 then (65533, i) else if (hexF (sg L i)).2 = false then (sg L i, i + 1)
  else (codeF (hexR L 6 i 0).1, if whiteF (sg L (hexR L 6 i 0).2) = true then (hexR L 6 i 0).2 + 1 else (hexR L 6 i 0).2)
theorem hexF_lt (r : Int) : 0 ≤ (hexF r).1 ∧ (hexF r).1 < 16 := by
  unfold hexF
  split
  · simp only; omega
  · split
    · simp only; omega
    · split <;> simp only <;> omega
theorem sg_end {L : List Int} {i : Nat} (h : ¬ i < L.length) : sg L i = -1 := by rw [sg, dif_neg (by omega)]
theorem hexF_in {L : List Int} {i : Nat} (h : (hexF (sg L i)).2 = true) : i < L.length := by
  by_cases hi : i < L.length
  · exact hi
  · rw [sg_end hi] at h
    cases h
theorem hexR_le (L : List Int) : ∀ (m i : Nat) (n : Int), i ≤ L.length → i ≤ (hexR L m i n).2 ∧ (hexR L m i n).2 ≤ L.length
  | 0, i, n, h => ⟨Nat.le_refl _, h⟩
  | m + 1, i, n, h => by
    rw [hexR]
    split
    · rename_i hx
      have := hexR_le L m (i + 1) (n * 16 + (hexF (sg L i)).1) (hexF_in hx)
      omega
    · exact ⟨Nat.le_refl _, h⟩
theorem white_in {L : List Int} {i : Nat} (h : whiteF (sg L i) = true) : i < L.length := by
  by_cases hi : i < L.length
  · exact hi
  · rw [sg_end hi] at h
    cases h
theorem escE_le (L : List Int) (i : Nat) (h : i ≤ L.length) : i ≤ (escE L i).2 ∧ (escE L i).2 ≤ L.length := by
  unfold escE
  have := hexR_le L 6 i 0 h
  split
  · exact ⟨Nat.le_refl _, h⟩
  · split
    · rename_i h1 _
      have : i < L.length := by
        by_cases hi : i < L.length
        · exact hi
        · rw [sg_end hi] at h1; omega
      exact ⟨Nat.le_succ _, this⟩
    · dsimp only
      split
      · rename_i hw
        have := white_in hw
        omega
      · exact this
structure HS (L : List Int) (i0 : Nat) where
  k : Nat
  i : Nat
  n : Int
  hk : k ≤ 6
  hi : i ≤ L.length
  h0 : 0 ≤ n
  hn : n < 16 ^ k
  eq : hexR L (6 - k) i n = hexR L 6 i0 0
theorem pow16 {k : Nat} (h : k ≤ 6) : (16 : Int) ^ k ≤ 16777216 := by
  have : k = 0 ∨ k = 1 ∨ k = 2 ∨ k = 3 ∨ k = 4 ∨ k = 5 ∨ k = 6 := by omega
  rcases this with rfl | rfl | rfl | rfl | rfl | rfl | rfl <;> decide
end Go.Proofs.YtbjinibmkkmhkaaDoor

/- Loops that go on over places; names and digits. -/
namespace Go.Proofs.YtbjinibmkkmhkaaDoor
open Go Go.RowKit

section
variable {α R : Type}
/-- From place to place, with what each step puts out, to the end. -/
def goE (step : Nat → (List α × Nat) ⊕ R) : Nat → Nat → List α × Option R
  | 0, _ => ([], none)
  | f + 1, i => match step i with
    | .inl (o, j) => (o ++ (goE step f j).1, (goE step f j).2)
    | .inr r => ([], some r)
def goAt (n : Nat) (step : Nat → (List α × Nat) ⊕ R) (i : Nat) : List α × Option R := goE step (n + 1 - i) i
/-- Each step goes on, not beyond the end, and puts out no more than it passes. -/
def Goes2 (n : Nat) (step : Nat → (List α × Nat) ⊕ R) : Prop := ∀ i o j, i ≤ n → step i = .inl (o, j) → i < j ∧ j ≤ n ∧ i + o.length ≤ j
theorem goE_fuel {n : Nat} {step : Nat → (List α × Nat) ⊕ R} (hs : Goes2 n step) : ∀ (f g i : Nat), i ≤ n → n + 1 - i ≤ f → n + 1 - i ≤ g → goE step f i = goE step g i
  | 0, _, i, hi, h, _ => by omega
  | _ + 1, 0, i, hi, _, h => by omega
  | f + 1, g + 1, i, hi, h, h' => by
    rw [goE, goE]
    cases e : step i with
    | inr r => rfl
    | inl p =>
      obtain ⟨o, j⟩ := p
      have := hs i o j hi e
      simp only
      rw [goE_fuel hs f g j (by omega) (by omega) (by omega)]
theorem goAt_go {n : Nat} {step : Nat → (List α × Nat) ⊕ R} (hs : Goes2 n step) {i : Nat} (hi : i ≤ n) {o : List α} {j : Nat} (h : step i = .inl (o, j)) : goAt n step i = (o ++ (goAt n step j).1, (goAt n step j).2) := by
  have h1 := hs i o j hi h
  unfold goAt
  rw [show n + 1 - i = (n - i) + 1 by omega, goE, h]
  simp only
  rw [goE_fuel hs (n - i) (n + 1 - j) j (by omega) (by omega) (by omega)]
theorem goAt_stop {n : Nat} {step : Nat → (List α × Nat) ⊕ R} {i : Nat} (hi : i ≤ n) {r : R} (h : step i = .inr r) : goAt n step i = ([], some r) := by
  unfold goAt
  rw [show n + 1 - i = (n - i) + 1 by omega, goE, h]
/-- A state of such a loop. -/
structure GS (n : Nat) (step : Nat → (List α × Nat) ⊕ R) (i0 : Nat) where
  out : List α
  i : Nat
  le : i ≤ n
  len : out.length ≤ i
  eq : (out ++ (goAt n step i).1, (goAt n step i).2) = goAt n step i0
def GS.start {n : Nat} {step : Nat → (List α × Nat) ⊕ R} {i0 : Nat} (h : i0 ≤ n) : GS n step i0 := ⟨[], i0, h, Nat.zero_le _, rfl⟩
def GS.next {n : Nat} {step : Nat → (List α × Nat) ⊕ R} {i0 : Nat} (x : GS n step i0) (hs : Goes2 n step) {o : List α} {j : Nat} (h : step x.i = .inl (o, j)) : GS n step i0 :=
  ⟨x.out ++ o, j, (hs _ _ _ x.le h).2.1, by have := hs _ _ _ x.le h; have := x.len; rw [List.length_append]; omega, by rw [← x.eq, goAt_go hs x.le h, List.append_assoc]⟩
theorem GS.stop {n : Nat} {step : Nat → (List α × Nat) ⊕ R} {i0 : Nat} (x : GS n step i0) {r : R} (h : step x.i = .inr r) : goAt n step i0 = (x.out, some r) := by
  rw [← x.eq, goAt_stop x.le h, List.append_nil]
/-- The end is found, and it is an end. -/
theorem goAt_end {n : Nat} {step : Nat → (List α × Nat) ⊕ R} (hs : Goes2 n step) : ∀ (k i : Nat), i ≤ n → n - i ≤ k → ∃ r j, (goAt n step i).2 = some r ∧ i ≤ j ∧ j ≤ n ∧ step j = .inr r ∧ i + (goAt n step i).1.length ≤ j
  | k, i, hi, hk => by
    cases e : step i with
    | inr r => exact ⟨r, i, by rw [goAt_stop hi e], Nat.le_refl _, hi, e, by rw [goAt_stop hi e]; exact Nat.le_refl _⟩
    | inl p =>
      obtain ⟨o, j⟩ := p
      have h1 := hs i o j hi e
      cases k with
      | zero => omega
      | succ k =>
        obtain ⟨r, j', h2, h3, h4, h5, h6⟩ := goAt_end hs k j h1.2.1 (by omega)
        refine ⟨r, j', by rw [goAt_go hs hi e]; exact h2, by omega, h4, h5, ?_⟩
        rw [goAt_go hs hi e]
        simp only [List.length_append]
        omega
end
theorem runes_foldl (l : List Int) : ∀ r : ByteArray, l.foldl (fun r n => r ++ Utf8.encode n) r = r ++ l.foldl (fun r n => r ++ Utf8.encode n) ByteArray.empty := by
  induction l with
  | nil => intro r; simp
  | cons x l ih =>
    intro r
    rw [List.foldl_cons, ih, List.foldl_cons, ih (ByteArray.empty ++ _), ← ByteArray.append_assoc]
    congr 1
theorem runes_append (a b : List Int) : runesBytes (a ++ b) = runesBytes a ++ runesBytes b := by
  rw [runesBytes, List.foldl_append, runes_foldl b, ← runesBytes, ← runesBytes]
theorem sg_in {L : List Int} {i : Nat} (h : sg L i ≠ -1) : i < L.length := by
  by_cases hi : i < L.length
  · exact hi
  · exact absurd (sg_end hi) h

def digStep (L : List Int) (i : Nat) : (List Int × Nat) ⊕ Nat := if digF (sg L i) = true then .inl ([sg L i], i + 1) else .inr i
theorem digStep_goes (L : List Int) : Goes2 L.length (digStep L) := by
  intro i o j hi h
  unfold digStep at h
  split at h
  · rename_i hd
    cases h
    have : i < L.length := sg_in (by intro h; rw [h] at hd; cases hd)
    exact ⟨by omega, this, Nat.le_refl _⟩
  · cases h
def digAt (L : List Int) (i : Nat) : List Int := (goAt L.length (digStep L) i).1
def digEnd (L : List Int) (i : Nat) : Nat := ((goAt L.length (digStep L) i).2).getD 0
def nameStep (L : List Int) (i : Nat) : (List Int × Nat) ⊕ Nat := if nameF (sg L i) = true then .inl ([sg L i], i + 1) else if escF L i = true then .inl ([(escE L (i + 1)).1], (escE L (i + 1)).2) else .inr i
theorem esc_in {L : List Int} {i : Nat} (h : escF L i = true) : i < L.length := by
  refine sg_in fun h' => ?_
  rw [escF, h'] at h
  cases h
theorem nameStep_goes (L : List Int) : Goes2 L.length (nameStep L) := by
  intro i o j hi h
  unfold nameStep at h
  split at h
  · rename_i hd
    cases h
    have : i < L.length := sg_in (by intro h; rw [h] at hd; cases hd)
    exact ⟨by omega, this, Nat.le_refl _⟩
  · split at h
    · rename_i hd
      cases h
      have h1 := esc_in hd
      have h2 := escE_le L (i + 1) h1
      exact ⟨by omega, h2.2, by simp only [List.length_singleton]; omega⟩
    · cases h
def nameAt (L : List Int) (i : Nat) : List Int := (goAt L.length (nameStep L) i).1
def nameEnd (L : List Int) (i : Nat) : Nat := ((goAt L.length (nameStep L) i).2).getD 0
end Go.Proofs.YtbjinibmkkmhkaaDoor

/- The reader: whole numbers. -/
namespace Go.Proofs.YtbjinibmkkmhkaaDoor
open Go Go.RowKit

def intGo : List UInt8 → Int → Option Int
  | [], n => some n
  | b :: r, n => if b.toNat < 48 ∨ 57 < b.toNat then none else intGo r (min (n * 10 + ((b.toNat : Int) - 48)) 4294967296)
def intK (l : List UInt8) : Nat := if 0 < l.length ∧ ((l.getD 0 0).toNat = 43 ∨ (l.getD 0 0).toNat = 45) then 1 else 0
def intF (s : ByteArray) : Int :=
  if intK s.data.toList = s.data.toList.length then 0
  else match intGo (s.data.toList.drop (intK s.data.toList)) 0 with
    | none => 0
    | some n => if (s.data.toList.getD 0 0).toNat = 45 then max (-n) (-2147483648) else min n 2147483647
structure IS (l : List UInt8) (k : Nat) where
  i : Nat
  n : Int
  hi : i ≤ l.length
  hk : k ≤ i
  h0 : 0 ≤ n
  hn : n ≤ 4294967296
  eq : intGo (l.drop i) n = intGo (l.drop k) 0
end Go.Proofs.YtbjinibmkkmhkaaDoor

/- The reader: numbers. -/
namespace Go.Proofs.YtbjinibmkkmhkaaDoor
open Go Go.RowKit

section
variable {cx : Cx} {s : AS} {Q : Exit → AS → Prop}
/-- A part that ends, whichever way it goes, in one state. -/
theorem awp_cut (s' : AS) {c b : Code} (h1 : AWp cx c s (fun e s'' => e = .normal ∧ Fits cx s'' s')) (h2 : AWp cx b s' Q) : AWp cx c s (thenA (fun s'' => AWp cx b s'' Q) Q) :=
  awp_mono h1 fun e s'' h => by
    obtain ⟨rfl, h⟩ := h
    exact thenA_normal (awp_fits h h2)
end
structure Tk where
  kind : Int
  text : ByteArray
  int : Int
  whole : Bool
  sign : Bool
  id : Bool
def tcl (t : Tk) : List AV := [.val (.int .i64 t.kind), .val (.string t.text), .val (.int .i64 t.int), .val (.bool t.whole), .val (.bool t.sign), .val (.bool t.id)]
def tA (t : Tk) : AV := .agg (tcl t)
def tD (t : Tk) : D := .ag [.val (.int .i64 t.kind), .val (.string t.text), .val (.int .i64 t.int), .val (.bool t.whole), .val (.bool t.sign), .val (.bool t.id)]
def tB (t : Tk) : AB := .box 33 (tcl t)
def tk0 : Tk := ⟨0, ⟨#[]⟩, 0, false, false, false⟩

theorem digEnd_le (L : List Int) {i : Nat} (h : i ≤ L.length) : i ≤ digEnd L i ∧ digEnd L i ≤ L.length := by
  obtain ⟨r, j, h1, h2, h3, h4, _⟩ := goAt_end (digStep_goes L) L.length i h (by omega)
  have : r = j := by
    unfold digStep at h4
    split at h4
    · cases h4
    · cases h4; rfl
  rw [digEnd, h1, this]
  exact ⟨h2, h3⟩
theorem nameEnd_le (L : List Int) {i : Nat} (h : i ≤ L.length) : i ≤ nameEnd L i ∧ nameEnd L i ≤ L.length := by
  obtain ⟨r, j, h1, h2, h3, h4, _⟩ := goAt_end (nameStep_goes L) L.length i h (by omega)
  have : r = j := by
    unfold nameStep at h4
    split at h4
    · cases h4
    · split at h4
      · cases h4
      · cases h4; rfl
  rw [nameEnd, h1, this]
  exact ⟨h2, h3⟩
theorem nameAt_len (L : List Int) {i : Nat} (h : i ≤ L.length) : (nameAt L i).length ≤ L.length := by
  obtain ⟨r, j, h1, h2, h3, h4, h5⟩ := goAt_end (nameStep_goes L) L.length i h (by omega)
  rw [nameAt]
  omega

def nS (L : List Int) (i : Nat) : Bool := decide (sg L i = 43) || decide (sg L i = 45)
def n1 (L : List Int) (i : Nat) : Nat := if nS L i = true then i + 1 else i
def nT1 (L : List Int) (i : Nat) : List Int := if nS L i = true then [sg L i] else []
def nT (L : List Int) (i : Nat) : List Int := nT1 L i ++ digAt L (n1 L i)
def n2 (L : List Int) (i : Nat) : Nat := digEnd L (n1 L i)
def nDot (L : List Int) (j : Nat) : Bool := decide (sg L j = 46) && digF (sg L (j + 1))
def n3 (L : List Int) (j : Nat) : Nat := if nDot L j = true then digEnd L (j + 1) else j
def nE (L : List Int) (j : Nat) : Bool := decide (sg L j = 101) || decide (sg L j = 69)
def nEs (L : List Int) (j : Nat) : Bool := decide (sg L (j + 1) = 43) || decide (sg L (j + 1) = 45)
def nK (L : List Int) (j : Nat) : Nat := if nEs L j = true then 2 else 1
def nEx (L : List Int) (j : Nat) : Bool := nE L j && digF (sg L (j + nK L j))
def n4 (L : List Int) (j : Nat) : Nat := if nEx L j = true then digEnd L (j + nK L j) else j
theorem dig_in {L : List Int} {i : Nat} (h : digF (sg L i) = true) : i < L.length := sg_in (by intro h'; rw [h'] at h; cases h)
theorem n1_le (L : List Int) {i : Nat} (h : i ≤ L.length) : i ≤ n1 L i ∧ n1 L i ≤ L.length := by
  unfold n1
  split
  · rename_i hs
    have : i < L.length := sg_in (by intro h'; rw [nS, h'] at hs; cases hs)
    omega
  · omega
theorem n2_le (L : List Int) {i : Nat} (h : i ≤ L.length) : i ≤ n2 L i ∧ n2 L i ≤ L.length := by
  have h1 := n1_le L h
  have := digEnd_le L h1.2
  unfold n2
  omega
theorem nDot_in {L : List Int} {j : Nat} (h : nDot L j = true) : j + 1 < L.length := by
  rw [nDot, Bool.and_eq_true] at h
  exact dig_in (i := j + 1) h.2
theorem n3_le (L : List Int) {j : Nat} (h : j ≤ L.length) : j ≤ n3 L j ∧ n3 L j ≤ L.length := by
  unfold n3
  split
  · rename_i hs
    have h1 := nDot_in hs
    have := digEnd_le L (i := j + 1) (by omega)
    omega
  · omega
theorem nEx_in {L : List Int} {j : Nat} (h : digF (sg L (j + nK L j)) = true) : j + nK L j < L.length := dig_in (i := j + nK L j) h
theorem n4_le (L : List Int) {j : Nat} (h : j ≤ L.length) : j ≤ n4 L j ∧ n4 L j ≤ L.length := by
  unfold n4
  split
  · rename_i hs
    rw [nEx, Bool.and_eq_true] at hs
    have h1 := nEx_in hs.2
    have := digEnd_le L (i := j + nK L j) (by omega)
    omega
  · omega
def nW (L : List Int) (i : Nat) : Bool := !nDot L (n2 L i) && !nEx L (n3 L (n2 L i))
def nP (L : List Int) (i : Nat) : Nat := n4 L (n3 L (n2 L i))
def nTk (L : List Int) (i : Nat) : Tk := ⟨10, ⟨#[]⟩, if nW L i = true then intF (runesBytes (nT L i)) else 0, nW L i, nS L i, false⟩
def numF (L : List Int) (i : Nat) : Tk × Nat :=
  if namesF L (nP L i) = true then ({ nTk L i with kind := 12, text := runesBytes (nameAt L (nP L i)) }, nameEnd L (nP L i))
  else if sg L (nP L i) = 37 then ({ nTk L i with kind := 11 }, nP L i + 1) else (nTk L i, nP L i)
end Go.Proofs.YtbjinibmkkmhkaaDoor

/- The reader: strings and urls. -/
namespace Go.Proofs.YtbjinibmkkmhkaaDoor
open Go Go.RowKit

theorem sg_ge {L : List Int} {i : Nat} (h : 0 ≤ sg L i) : i < L.length := sg_in (by omega)
def wStep (L : List Int) (i : Nat) : (List Int × Nat) ⊕ Nat := if whiteF (sg L i) = true then .inl ([], i + 1) else .inr i
theorem wStep_goes (L : List Int) : Goes2 L.length (wStep L) := by
  intro i o j hi h
  unfold wStep at h
  split at h
  · rename_i hw
    cases h
    exact ⟨by omega, white_in hw, by simp⟩
  · cases h
def wEnd (L : List Int) (i : Nat) : Nat := ((goAt L.length (wStep L) i).2).getD 0
theorem wEnd_le (L : List Int) {i : Nat} (h : i ≤ L.length) : i ≤ wEnd L i ∧ wEnd L i ≤ L.length ∧ whiteF (sg L (wEnd L i)) = false := by
  obtain ⟨r, j, h1, h2, h3, h4, _⟩ := goAt_end (wStep_goes L) L.length i h (by omega)
  have : r = j ∧ whiteF (sg L j) = false := by
    unfold wStep at h4
    split at h4
    · cases h4
    · rename_i hw; cases h4; exact ⟨rfl, by simpa using hw⟩
  rw [wEnd, h1, this.1]
  exact ⟨h2, h3, this.2⟩
theorem wEnd_gt (L : List Int) {i : Nat} (h : i ≤ L.length) (hw : whiteF (sg L i) = true) : i < wEnd L i := by
  have h1 := wEnd_le L h
  rcases Nat.lt_or_ge i (wEnd L i) with h2 | h2
  · exact h2
  · have : wEnd L i = i := by omega
    rw [this, hw] at h1
    cases h1.2.2
def bStep (L : List Int) (i : Nat) : (List Int × Nat) ⊕ Nat := if 0 ≤ sg L i ∧ sg L i ≠ 41 then (if escF L i = true then .inl ([], (escE L (i + 1)).2) else .inl ([], i + 1)) else .inr i
theorem bStep_goes (L : List Int) : Goes2 L.length (bStep L) := by
  intro i o j hi h
  unfold bStep at h
  split at h
  · rename_i hb
    have hin := sg_ge hb.1
    split at h
    · cases h
      have := escE_le L (i + 1) hin
      exact ⟨by omega, this.2, by simp; omega⟩
    · cases h
      exact ⟨by omega, hin, by simp⟩
  · cases h
def bEnd0 (L : List Int) (i : Nat) : Nat := ((goAt L.length (bStep L) i).2).getD 0
def bEnd (L : List Int) (i : Nat) : Nat := if sg L (bEnd0 L i) = 41 then bEnd0 L i + 1 else bEnd0 L i
theorem bEnd0_le (L : List Int) {i : Nat} (h : i ≤ L.length) : i ≤ bEnd0 L i ∧ bEnd0 L i ≤ L.length := by
  obtain ⟨r, j, h1, h2, h3, h4, _⟩ := goAt_end (bStep_goes L) L.length i h (by omega)
  have : r = j := by
    unfold bStep at h4
    split at h4
    · split at h4 <;> cases h4
    · cases h4; rfl
  rw [bEnd0, h1, this]
  exact ⟨h2, h3⟩
theorem bEnd_le (L : List Int) {i : Nat} (h : i ≤ L.length) : i ≤ bEnd L i ∧ bEnd L i ≤ L.length := by
  have h1 := bEnd0_le L h
  unfold bEnd
  split
  · rename_i hs
    have := sg_ge (L := L) (i := bEnd0 L i) (by omega)
    omega
  · exact h1
def tkK (k : Int) (s : ByteArray) : Tk := ⟨k, s, 0, false, false, false⟩
end Go.Proofs.YtbjinibmkkmhkaaDoor
