/- Signs read of bytes. -/
import Derived.Test.YtpnjkdmcalcleaaA2
namespace Go.Proofs.Ytpnjkdmcalcleaa
open Go Go.RowKit

theorem decode_one (s : ByteArray) (pos : Nat) (h : pos < s.size) : 1 ≤ (Utf8.decode s pos).2 := by
  by_cases ha : (s[pos]'h).toNat < 128
  · rw [decode_ascii s pos h ha]; exact Nat.le_refl _
  · exact (decode_high s pos h (by omega)).2
/-- The signs from a place on; cr: is the sign ahead a carriage return? -/
def rd (s : ByteArray) : Nat → Nat → Bool → List Int
  | 0, _, _ => []
  | f + 1, pos, cr =>
    if pos < s.size then
      (if ((pos = 0 ∧ ((Utf8.decode s pos).1 : Int) = 65279) ∨ (((Utf8.decode s pos).1 : Int) = 10 ∧ cr = true)) then []
        else [if ((Utf8.decode s pos).1 : Int) = 13 ∨ ((Utf8.decode s pos).1 : Int) = 12 then 10 else if ((Utf8.decode s pos).1 : Int) = 0 then 65533 else ((Utf8.decode s pos).1 : Int)])
      ++ rd s f (pos + (Utf8.decode s pos).2) (decide (((Utf8.decode s pos).1 : Int) = 13))
    else []
theorem rd_fuel (s : ByteArray) : ∀ (f f' pos : Nat) (cr : Bool), s.size - pos ≤ f → s.size - pos ≤ f' → rd s f pos cr = rd s f' pos cr
  | 0, 0, _, _, _, _ => rfl
  | 0, f' + 1, pos, cr, h, _ => by rw [rd, rd, if_neg (by omega)]
  | f + 1, 0, pos, cr, _, h => by rw [rd, rd, if_neg (by omega)]
  | f + 1, f' + 1, pos, cr, h, h' => by
    rw [rd, rd]
    by_cases hp : pos < s.size
    · have := decode_one s pos hp
      rw [if_pos hp, if_pos hp, rd_fuel s f f' _ _ (by omega) (by omega)]
    · rw [if_neg hp, if_neg hp]
def rdAt (s : ByteArray) (pos : Nat) (cr : Bool) : List Int := rd s (s.size - pos) pos cr
theorem rdAt_end {s : ByteArray} {pos : Nat} {cr : Bool} (h : ¬ pos < s.size) : rdAt s pos cr = [] := by
  unfold rdAt
  rw [show s.size - pos = 0 by omega]
  rfl
theorem rdAt_step {s : ByteArray} {pos : Nat} {cr : Bool} (h : pos < s.size) : rdAt s pos cr =
      (if ((pos = 0 ∧ ((Utf8.decode s pos).1 : Int) = 65279) ∨ (((Utf8.decode s pos).1 : Int) = 10 ∧ cr = true)) then []
        else [if ((Utf8.decode s pos).1 : Int) = 13 ∨ ((Utf8.decode s pos).1 : Int) = 12 then 10 else if ((Utf8.decode s pos).1 : Int) = 0 then 65533 else ((Utf8.decode s pos).1 : Int)])
      ++ rdAt s (pos + (Utf8.decode s pos).2) (decide (((Utf8.decode s pos).1 : Int) = 13)) := by
  have h1 := decode_one s pos h
  have h2 : s.size - pos = (s.size - pos - 1) + 1 := by omega
  have e : rdAt s pos cr = rd s ((s.size - pos - 1) + 1) pos cr := by rw [← h2]; rfl
  rw [e, rd, if_pos h, rdAt, rd_fuel s (s.size - pos - 1) (s.size - (pos + (Utf8.decode s pos).2)) _ _ (by omega) (Nat.le_refl _)]
def readL (s : ByteArray) : List Int := rdAt s 0 false
theorem rd_len (s : ByteArray) : ∀ (f pos : Nat) (cr : Bool), (rd s f pos cr).length ≤ f
  | 0, _, _ => Nat.le_refl _
  | f + 1, pos, cr => by
    rw [rd]
    have := rd_len s f (pos + (Utf8.decode s pos).2) (decide (((Utf8.decode s pos).1 : Int) = 13))
    split
    · split <;> simp <;> omega
    · simp
theorem readL_len (s : ByteArray) : (readL s).length ≤ s.size := rd_len s _ _ _

structure RS (s : ByteArray) where
  pos : Nat
  cr : Bool
  out : List Int
  le : out ++ rdAt s pos cr = readL s
  c0 : pos = 0 → cr = false
theorem RS.len {s : ByteArray} (x : RS s) : x.out.length ≤ s.size := by
  have h1 := readL_len s
  have := congrArg List.length x.le
  rw [List.length_append] at this
  omega

theorem read12 (b : List UInt8) (hb : b.length ≤ 17592186044416) : PCalls Try.prog 12 [.sl 1 (b.map bD)] (.sl 1 ((readL ⟨b.toArray⟩).map rD)) := by
  refine p_start Try.func12 Try.ntmps12 rfl rfl rfl fun S w => ?_
  have hs : (⟨b.toArray⟩ : ByteArray).size ≤ 17592186044416 := by simpa [ByteArray.size] using hb
  generalize hsd : (⟨b.toArray⟩ : ByteArray) = s at hs
  repeat (first
    | refine awp_seq ?_
    | refine thenA_normal ?_
    | refine awp_block ?_
    | refine a_region ?_
    | refine a_draw1 mixed_ok (by kernel_rfl) ?_
    | refine awp_ret ?_
    | refine awp_exit ?_
    | refine thenA_exit ?_
    | refine thenA_ret ?_
    | refine blockA_normal ?_
    | refine blockA_ret ?_
    | refine blockA_hit rfl ?_
    | refine blockA_miss rfl ?_
    | refine awp_skip ?_
    | refine r_done ?_
    | refine r_done' ?_
    | (refine r_id ?_; first
      | refine r_len tab_ok rfl rfl rfl rfl rfl rfl rfl ?_
      | refine r_ev tab_ok rfl rfl rfl rfl (by first | exact trivial | exact ⟨by omega, by omega⟩ | omega | exact ⟨by omega, by omega, by omega, by omega⟩ | exact Nat.le_of_ble_eq_true rfl) rfl ?_
      | refine r_ld tab_ok rfl rfl rfl rfl rfl ?_
      | refine r_idx tab_ok rfl rfl rfl rfl rfl rfl rfl (by first | exact ⟨by omega, by omega⟩ | (simp; omega)) rfl rfl ?_
      | refine r_idxd tab_ok rfl rfl rfl rfl rfl rfl rfl (by decide) rfl rfl rfl ?_
      | refine r_wr tab_ok rfl rfl rfl rfl rfl ?_
      | refine r_st tab_ok rfl rfl rfl rfl ?_
      | refine r_len_cnd tab_ok rfl rfl rfl rfl rfl rfl (by first | exact fun _ => rfl | exact cs1) rfl rfl rfl ?_
      | refine r_ev_cnd tab_ok rfl rfl rfl rfl rfl rfl (by first | exact fun _ => rfl | exact cs1 | exact cs2 | exact cs3) (by first | exact fun _ => trivial | (intro h; simp at h; first | exact ⟨by omega, by omega⟩ | omega)) rfl ?_
      | refine r_ld_cnd tab_ok rfl rfl rfl rfl rfl rfl (by first | exact fun _ => rfl | exact cs1 | exact cs2 | exact cs3) rfl ?_
      | refine r_idx_cnd tab_ok rfl rfl rfl rfl rfl rfl rfl (by first | exact fun _ => rfl | exact cs1 | exact cs2) rfl rfl (by exact ⟨by omega, by omega⟩) rfl rfl ?_
      | refine r_idx_cnd' tab_ok rfl rfl rfl rfl rfl rfl rfl (by first | exact fun _ => rfl | exact cs1 | exact cs2) rfl rfl (by intro h; simp at h; exact ⟨by omega, by omega⟩) rfl rfl ?_
      | refine r_and_cnd rfl rfl rfl rfl rfl rfl rfl rfl rfl rfl ?_
      | refine r_or_cnd rfl rfl rfl rfl rfl rfl rfl rfl rfl rfl ?_
      | refine r_or rfl rfl rfl rfl rfl rfl rfl rfl ?_
      | refine r_and rfl rfl rfl rfl rfl rfl rfl rfl ?_
      | refine r_pick_t rfl rfl rfl rfl rfl rfl rfl ?_
      | refine r_pick_f rfl rfl rfl rfl rfl rfl rfl ?_
      | refine r_off rfl rfl rfl rfl rfl rfl ?_
      | refine r_len_on tab_ok rfl rfl rfl rfl rfl rfl rfl rfl rfl ?_
      | refine r_ev_on tab_ok rfl rfl rfl rfl rfl rfl (by first | exact trivial | exact ⟨by omega, by omega⟩ | omega) rfl ?_
      | refine r_ld_on tab_ok rfl rfl rfl rfl rfl rfl rfl ?_
      | refine r_build tab_ok rfl rfl rfl rfl rfl rfl ?_
      | refine r_bstr tab_ok rfl rfl rfl rfl rfl rfl rfl rfl rfl rfl ?_
      | refine r_build_cnd tab_ok rfl rfl rfl rfl rfl (by first | exact fun _ => rfl | exact cs1) rfl rfl rfl ?_
      | refine r_built_cnd tab_ok rfl rfl rfl rfl rfl rfl rfl rfl (by first | exact fun _ => rfl | exact cs1) rfl rfl rfl ?_
      | refine r_rem rfl rfl rfl rfl rfl rfl (by omega) rfl ?_
      | refine r_built0 tab_ok rfl rfl rfl rfl rfl rfl rfl ?_
      | refine r_built tab_ok rfl rfl rfl rfl rfl rfl rfl rfl rfl ?_
      | refine r_range tab_ok rfl rfl rfl rfl rfl rfl rfl ?_
      | refine r_next rfl rfl rfl rfl (by assumption) rfl rfl rfl ?_
      | refine r_next_end rfl rfl rfl rfl (by assumption) rfl rfl rfl ?_
      | refine r_nilck rfl rfl rfl rfl rfl rfl rfl ?_
      | refine r_rstr tab_ok rfl rfl rfl rfl rfl rfl rfl rfl ?_
      | refine r_rsstr tab_ok rfl rfl rfl rfl rfl rfl rfl rfl rfl rfl ?_
      | refine r_bstr' tab_ok rfl rfl rfl rfl rfl rfl rfl rfl rfl ?_
      | refine r_rowstr tab_ok rfl rfl rfl rfl rfl rfl rfl rfl rfl rfl ?_
      | refine r_strd tab_ok rfl rfl rfl rfl rfl rfl (by omega) rfl rfl rfl ?_
      | refine r_idxr tab_ok rfl rfl rfl rfl rfl rfl rfl rfl (by first | exact ⟨by omega, by omega⟩ | (simp; omega)) rfl ?_
      | refine r_lde tab_ok rfl rfl rfl rfl rfl (by omega) rfl rfl rfl rfl ?_
      | refine r_idxr_cnd tab_ok rfl rfl rfl rfl rfl rfl rfl rfl (by first | exact fun _ => rfl | exact cs1 | exact cs2) rfl rfl (by first | (intro _; exact ⟨by omega, by omega⟩) | (intro h; simp at h ⊢; omega)) rfl ?_
      | refine r_lde_cnd tab_ok rfl rfl rfl rfl rfl rfl rfl (by first | exact fun _ => rfl | exact cs1 | exact cs2) (by omega) rfl rfl rfl rfl ?_
      | refine r_cut tab_ok rfl rfl rfl rfl rfl rfl rfl rfl (by first | exact ⟨by simp, by simp; omega, by simp⟩ | (simp; omega)) rfl ?_
      | refine r_append tab_ok rfl rfl rfl rfl rfl rfl rfl rfl rfl (by first | omega | (simp; omega)) rfl ?_
      | refine r_append_nil tab_ok rfl rfl rfl rfl rfl rfl rfl rfl (by first | omega | (simp; omega)) rfl ?_)
    | refine ret1 (by first | exact .inl rfl | exact .inr rfl) rfl rfl rfl ?_
    | refine ret1_row (by first | exact .inl rfl | exact .inr rfl) rfl rfl rfl ?_
    | refine ret2 (by first | exact .inl rfl | exact .inr rfl) rfl rfl rfl rfl ?_ ?_
    | refine retM1 (by first | exact .inl rfl | exact .inr rfl) rfl rfl rfl rfl rfl ?_
    | exact retM0 (by first | exact .inl rfl | exact .inr rfl) rfl rfl rfl
    | refine awp_cond_t rfl ?_
    | refine awp_cond_f rfl ?_)
  rw [hsd]
  repeat (first
    | refine awp_seq ?_
    | refine thenA_normal ?_
    | refine awp_block ?_
    | refine a_region ?_
    | refine a_draw1 mixed_ok (by kernel_rfl) ?_
    | refine awp_ret ?_
    | refine awp_exit ?_
    | refine thenA_exit ?_
    | refine thenA_ret ?_
    | refine blockA_normal ?_
    | refine blockA_ret ?_
    | refine blockA_hit rfl ?_
    | refine blockA_miss rfl ?_
    | refine awp_skip ?_
    | refine r_done ?_
    | refine r_done' ?_
    | (refine r_id ?_; first
      | refine r_len tab_ok rfl rfl rfl rfl rfl rfl rfl ?_
      | refine r_ev tab_ok rfl rfl rfl rfl (by first | exact trivial | exact ⟨by omega, by omega⟩ | omega | exact ⟨by omega, by omega, by omega, by omega⟩ | exact Nat.le_of_ble_eq_true rfl) rfl ?_
      | refine r_ld tab_ok rfl rfl rfl rfl rfl ?_
      | refine r_idx tab_ok rfl rfl rfl rfl rfl rfl rfl (by first | exact ⟨by omega, by omega⟩ | (simp; omega)) rfl rfl ?_
      | refine r_idxd tab_ok rfl rfl rfl rfl rfl rfl rfl (by decide) rfl rfl rfl ?_
      | refine r_wr tab_ok rfl rfl rfl rfl rfl ?_
      | refine r_st tab_ok rfl rfl rfl rfl ?_
      | refine r_len_cnd tab_ok rfl rfl rfl rfl rfl rfl (by first | exact fun _ => rfl | exact cs1) rfl rfl rfl ?_
      | refine r_ev_cnd tab_ok rfl rfl rfl rfl rfl rfl (by first | exact fun _ => rfl | exact cs1 | exact cs2 | exact cs3) (by first | exact fun _ => trivial | (intro h; simp at h; first | exact ⟨by omega, by omega⟩ | omega)) rfl ?_
      | refine r_ld_cnd tab_ok rfl rfl rfl rfl rfl rfl (by first | exact fun _ => rfl | exact cs1 | exact cs2 | exact cs3) rfl ?_
      | refine r_idx_cnd tab_ok rfl rfl rfl rfl rfl rfl rfl (by first | exact fun _ => rfl | exact cs1 | exact cs2) rfl rfl (by exact ⟨by omega, by omega⟩) rfl rfl ?_
      | refine r_idx_cnd' tab_ok rfl rfl rfl rfl rfl rfl rfl (by first | exact fun _ => rfl | exact cs1 | exact cs2) rfl rfl (by intro h; simp at h; exact ⟨by omega, by omega⟩) rfl rfl ?_
      | refine r_and_cnd rfl rfl rfl rfl rfl rfl rfl rfl rfl rfl ?_
      | refine r_or_cnd rfl rfl rfl rfl rfl rfl rfl rfl rfl rfl ?_
      | refine r_or rfl rfl rfl rfl rfl rfl rfl rfl ?_
      | refine r_and rfl rfl rfl rfl rfl rfl rfl rfl ?_
      | refine r_pick_t rfl rfl rfl rfl rfl rfl rfl ?_
      | refine r_pick_f rfl rfl rfl rfl rfl rfl rfl ?_
      | refine r_off rfl rfl rfl rfl rfl rfl ?_
      | refine r_len_on tab_ok rfl rfl rfl rfl rfl rfl rfl rfl rfl ?_
      | refine r_ev_on tab_ok rfl rfl rfl rfl rfl rfl (by first | exact trivial | exact ⟨by omega, by omega⟩ | omega) rfl ?_
      | refine r_ld_on tab_ok rfl rfl rfl rfl rfl rfl rfl ?_
      | refine r_build tab_ok rfl rfl rfl rfl rfl rfl ?_
      | refine r_bstr tab_ok rfl rfl rfl rfl rfl rfl rfl rfl rfl rfl ?_
      | refine r_build_cnd tab_ok rfl rfl rfl rfl rfl (by first | exact fun _ => rfl | exact cs1) rfl rfl rfl ?_
      | refine r_built_cnd tab_ok rfl rfl rfl rfl rfl rfl rfl rfl (by first | exact fun _ => rfl | exact cs1) rfl rfl rfl ?_
      | refine r_rem rfl rfl rfl rfl rfl rfl (by omega) rfl ?_
      | refine r_built0 tab_ok rfl rfl rfl rfl rfl rfl rfl ?_
      | refine r_built tab_ok rfl rfl rfl rfl rfl rfl rfl rfl rfl ?_
      | refine r_range tab_ok rfl rfl rfl rfl rfl rfl rfl ?_
      | refine r_next rfl rfl rfl rfl (by assumption) rfl rfl rfl ?_
      | refine r_next_end rfl rfl rfl rfl (by assumption) rfl rfl rfl ?_
      | refine r_nilck rfl rfl rfl rfl rfl rfl rfl ?_
      | refine r_rstr tab_ok rfl rfl rfl rfl rfl rfl rfl rfl ?_
      | refine r_rsstr tab_ok rfl rfl rfl rfl rfl rfl rfl rfl rfl rfl ?_
      | refine r_bstr' tab_ok rfl rfl rfl rfl rfl rfl rfl rfl rfl ?_
      | refine r_rowstr tab_ok rfl rfl rfl rfl rfl rfl rfl rfl rfl rfl ?_
      | refine r_strd tab_ok rfl rfl rfl rfl rfl rfl (by omega) rfl rfl rfl ?_
      | refine r_idxr tab_ok rfl rfl rfl rfl rfl rfl rfl rfl (by first | exact ⟨by omega, by omega⟩ | (simp; omega)) rfl ?_
      | refine r_lde tab_ok rfl rfl rfl rfl rfl (by omega) rfl rfl rfl rfl ?_
      | refine r_idxr_cnd tab_ok rfl rfl rfl rfl rfl rfl rfl rfl (by first | exact fun _ => rfl | exact cs1 | exact cs2) rfl rfl (by first | (intro _; exact ⟨by omega, by omega⟩) | (intro h; simp at h ⊢; omega)) rfl ?_
      | refine r_lde_cnd tab_ok rfl rfl rfl rfl rfl rfl rfl (by first | exact fun _ => rfl | exact cs1 | exact cs2) (by omega) rfl rfl rfl rfl ?_
      | refine r_cut tab_ok rfl rfl rfl rfl rfl rfl rfl rfl (by first | exact ⟨by simp, by simp; omega, by simp⟩ | (simp; omega)) rfl ?_
      | refine r_append tab_ok rfl rfl rfl rfl rfl rfl rfl rfl rfl (by first | omega | (simp; omega)) rfl ?_
      | refine r_append_nil tab_ok rfl rfl rfl rfl rfl rfl rfl rfl (by first | omega | (simp; omega)) rfl ?_)
    | refine ret1 (by first | exact .inl rfl | exact .inr rfl) rfl rfl rfl ?_
    | refine ret1_row (by first | exact .inl rfl | exact .inr rfl) rfl rfl rfl ?_
    | refine ret2 (by first | exact .inl rfl | exact .inr rfl) rfl rfl rfl rfl ?_ ?_
    | refine retM1 (by first | exact .inl rfl | exact .inr rfl) rfl rfl rfl rfl rfl ?_
    | exact retM0 (by first | exact .inl rfl | exact .inr rfl) rfl rfl rfl
    | refine awp_cond_t rfl ?_
    | refine awp_cond_f rfl ?_)
  refine a_loop (σ := RS s) (fun x => [.iter s x.pos, .row 0 21 1 (x.out.map rD)]) (fun x => [(2, .row 1 0), (3, .val (.bool x.cr)), (9, .ptr 0 0)]) (fun x => s.size - x.pos) ⟨0, false, [], rfl, fun _ => rfl⟩ (fits_conv (by repeat' first | exact trivial | exact rfl | (rw [List.map_append]; first | done | rfl) | exact c_sub rfl (Sub.refl _) rfl | exact c_nil rfl rfl | exact c_thaw rfl rfl rfl | exact c_row rfl rfl rfl | exact c_row rfl rfl (by rw [List.map_append]; first | done | rfl) | exact c_ptr rfl rfl rfl rfl | exact Or.inl ⟨c_sub rfl (Sub.refl _) rfl, c_ptr rfl rfl rfl rfl⟩ | exact c_alt rfl rfl rfl rfl | exact c_sub rfl (Sub.altl _ _) rfl | refine ⟨_, _, rfl, ?_, ?_⟩ | apply And.intro) (by repeat' first | exact trivial | exact rfl | (rw [List.map_append]; first | done | rfl) | exact c_sub rfl (Sub.refl _) rfl | exact c_nil rfl rfl | exact c_thaw rfl rfl rfl | exact c_row rfl rfl rfl | exact c_row rfl rfl (by rw [List.map_append]; first | done | rfl) | exact c_ptr rfl rfl rfl rfl | exact Or.inl ⟨c_sub rfl (Sub.refl _) rfl, c_ptr rfl rfl rfl rfl⟩ | exact c_alt rfl rfl rfl rfl | exact c_sub rfl (Sub.altl _ _) rfl | refine ⟨_, _, rfl, ?_, ?_⟩ | apply And.intro)) ?_
  intro x
  have hxl := x.len
  obtain ⟨pos, cr, out, hle, hc0⟩ := x
  dsimp only at hxl ⊢
  by_cases hp : pos < s.size
  · have hst := rdAt_step (cr := cr) hp
    have hd1 := decode_one s pos hp
    repeat (first
      | refine awp_seq ?_
      | refine thenA_normal ?_
      | refine awp_block ?_
      | refine a_region ?_
      | refine a_draw1 mixed_ok (by kernel_rfl) ?_
      | refine awp_ret ?_
      | refine awp_exit ?_
      | refine thenA_exit ?_
      | refine thenA_ret ?_
      | refine blockA_normal ?_
      | refine blockA_ret ?_
      | refine blockA_hit rfl ?_
      | refine blockA_miss rfl ?_
      | refine awp_skip ?_
      | refine r_done ?_
      | refine r_done' ?_
      | (refine r_id ?_; first
        | refine r_len tab_ok rfl rfl rfl rfl rfl rfl rfl ?_
        | refine r_ev tab_ok rfl rfl rfl rfl (by first | exact trivial | exact ⟨by omega, by omega⟩ | omega | exact ⟨by omega, by omega, by omega, by omega⟩ | exact Nat.le_of_ble_eq_true rfl) rfl ?_
        | refine r_ld tab_ok rfl rfl rfl rfl rfl ?_
        | refine r_idx tab_ok rfl rfl rfl rfl rfl rfl rfl (by first | exact ⟨by omega, by omega⟩ | (simp; omega)) rfl rfl ?_
        | refine r_idxd tab_ok rfl rfl rfl rfl rfl rfl rfl (by decide) rfl rfl rfl ?_
        | refine r_wr tab_ok rfl rfl rfl rfl rfl ?_
        | refine r_st tab_ok rfl rfl rfl rfl ?_
        | refine r_len_cnd tab_ok rfl rfl rfl rfl rfl rfl (by first | exact fun _ => rfl | exact cs1) rfl rfl rfl ?_
        | refine r_ev_cnd tab_ok rfl rfl rfl rfl rfl rfl (by first | exact fun _ => rfl | exact cs1 | exact cs2 | exact cs3) (by first | exact fun _ => trivial | (intro h; simp at h; first | exact ⟨by omega, by omega⟩ | omega)) rfl ?_
        | refine r_ld_cnd tab_ok rfl rfl rfl rfl rfl rfl (by first | exact fun _ => rfl | exact cs1 | exact cs2 | exact cs3) rfl ?_
        | refine r_idx_cnd tab_ok rfl rfl rfl rfl rfl rfl rfl (by first | exact fun _ => rfl | exact cs1 | exact cs2) rfl rfl (by exact ⟨by omega, by omega⟩) rfl rfl ?_
        | refine r_idx_cnd' tab_ok rfl rfl rfl rfl rfl rfl rfl (by first | exact fun _ => rfl | exact cs1 | exact cs2) rfl rfl (by intro h; simp at h; exact ⟨by omega, by omega⟩) rfl rfl ?_
        | refine r_and_cnd rfl rfl rfl rfl rfl rfl rfl rfl rfl rfl ?_
        | refine r_or_cnd rfl rfl rfl rfl rfl rfl rfl rfl rfl rfl ?_
        | refine r_or rfl rfl rfl rfl rfl rfl rfl rfl ?_
        | refine r_and rfl rfl rfl rfl rfl rfl rfl rfl ?_
        | refine r_pick_t rfl rfl rfl rfl rfl rfl rfl ?_
        | refine r_pick_f rfl rfl rfl rfl rfl rfl rfl ?_
        | refine r_off rfl rfl rfl rfl rfl rfl ?_
        | refine r_len_on tab_ok rfl rfl rfl rfl rfl rfl rfl rfl rfl ?_
        | refine r_ev_on tab_ok rfl rfl rfl rfl rfl rfl (by first | exact trivial | exact ⟨by omega, by omega⟩ | omega) rfl ?_
        | refine r_ld_on tab_ok rfl rfl rfl rfl rfl rfl rfl ?_
        | refine r_build tab_ok rfl rfl rfl rfl rfl rfl ?_
        | refine r_bstr tab_ok rfl rfl rfl rfl rfl rfl rfl rfl rfl rfl ?_
        | refine r_build_cnd tab_ok rfl rfl rfl rfl rfl (by first | exact fun _ => rfl | exact cs1) rfl rfl rfl ?_
        | refine r_built_cnd tab_ok rfl rfl rfl rfl rfl rfl rfl rfl (by first | exact fun _ => rfl | exact cs1) rfl rfl rfl ?_
        | refine r_rem rfl rfl rfl rfl rfl rfl (by omega) rfl ?_
        | refine r_built0 tab_ok rfl rfl rfl rfl rfl rfl rfl ?_
        | refine r_built tab_ok rfl rfl rfl rfl rfl rfl rfl rfl rfl ?_
        | refine r_range tab_ok rfl rfl rfl rfl rfl rfl rfl ?_
        | refine r_next rfl rfl rfl rfl (by assumption) rfl rfl rfl ?_
        | refine r_next_end rfl rfl rfl rfl (by assumption) rfl rfl rfl ?_
        | refine r_nilck rfl rfl rfl rfl rfl rfl rfl ?_
        | refine r_rstr tab_ok rfl rfl rfl rfl rfl rfl rfl rfl ?_
        | refine r_rsstr tab_ok rfl rfl rfl rfl rfl rfl rfl rfl rfl rfl ?_
        | refine r_bstr' tab_ok rfl rfl rfl rfl rfl rfl rfl rfl rfl ?_
        | refine r_rowstr tab_ok rfl rfl rfl rfl rfl rfl rfl rfl rfl rfl ?_
        | refine r_strd tab_ok rfl rfl rfl rfl rfl rfl (by omega) rfl rfl rfl ?_
        | refine r_idxr tab_ok rfl rfl rfl rfl rfl rfl rfl rfl (by first | exact ⟨by omega, by omega⟩ | (simp; omega)) rfl ?_
        | refine r_lde tab_ok rfl rfl rfl rfl rfl (by omega) rfl rfl rfl rfl ?_
        | refine r_idxr_cnd tab_ok rfl rfl rfl rfl rfl rfl rfl rfl (by first | exact fun _ => rfl | exact cs1 | exact cs2) rfl rfl (by first | (intro _; exact ⟨by omega, by omega⟩) | (intro h; simp at h ⊢; omega)) rfl ?_
        | refine r_lde_cnd tab_ok rfl rfl rfl rfl rfl rfl rfl (by first | exact fun _ => rfl | exact cs1 | exact cs2) (by omega) rfl rfl rfl rfl ?_
        | refine r_cut tab_ok rfl rfl rfl rfl rfl rfl rfl rfl (by first | exact ⟨by simp, by simp; omega, by simp⟩ | (simp; omega)) rfl ?_
        | refine r_append tab_ok rfl rfl rfl rfl rfl rfl rfl rfl rfl (by first | omega | (simp; omega)) rfl ?_
        | refine r_append_nil tab_ok rfl rfl rfl rfl rfl rfl rfl rfl (by first | omega | (simp; omega)) rfl ?_)
      | refine ret1 (by first | exact .inl rfl | exact .inr rfl) rfl rfl rfl ?_
      | refine ret1_row (by first | exact .inl rfl | exact .inr rfl) rfl rfl rfl ?_
      | refine ret2 (by first | exact .inl rfl | exact .inr rfl) rfl rfl rfl rfl ?_ ?_
      | refine retM1 (by first | exact .inl rfl | exact .inr rfl) rfl rfl rfl rfl rfl ?_
      | exact retM0 (by first | exact .inl rfl | exact .inr rfl) rfl rfl rfl
      | refine awp_cond_t rfl ?_
      | refine awp_cond_f rfl ?_)
    generalize hr : ((Utf8.decode s pos).1 : Int) = r at hst ⊢
    generalize hq : pos + (Utf8.decode s pos).2 = q at hst ⊢
    have hq' : pos < q := by omega
    refine awp_cond rfl (fun h1 => ?_) (fun h1 => ?_)
    · simp at h1
      rw [if_pos (.inl (by omega))] at hst
      repeat (first
        | refine awp_seq ?_
        | refine thenA_normal ?_
        | refine awp_block ?_
        | refine a_region ?_
        | refine a_draw1 mixed_ok (by kernel_rfl) ?_
        | refine awp_ret ?_
        | refine awp_exit ?_
        | refine thenA_exit ?_
        | refine thenA_ret ?_
        | refine blockA_normal ?_
        | refine blockA_ret ?_
        | refine blockA_hit rfl ?_
        | refine blockA_miss rfl ?_
        | refine awp_skip ?_
        | refine r_done ?_
        | refine r_done' ?_
        | (refine r_id ?_; first
          | refine r_len tab_ok rfl rfl rfl rfl rfl rfl rfl ?_
          | refine r_ev tab_ok rfl rfl rfl rfl (by first | exact trivial | exact ⟨by omega, by omega⟩ | omega | exact ⟨by omega, by omega, by omega, by omega⟩ | exact Nat.le_of_ble_eq_true rfl) rfl ?_
          | refine r_ld tab_ok rfl rfl rfl rfl rfl ?_
          | refine r_idx tab_ok rfl rfl rfl rfl rfl rfl rfl (by first | exact ⟨by omega, by omega⟩ | (simp; omega)) rfl rfl ?_
          | refine r_idxd tab_ok rfl rfl rfl rfl rfl rfl rfl (by decide) rfl rfl rfl ?_
          | refine r_wr tab_ok rfl rfl rfl rfl rfl ?_
          | refine r_st tab_ok rfl rfl rfl rfl ?_
          | refine r_len_cnd tab_ok rfl rfl rfl rfl rfl rfl (by first | exact fun _ => rfl | exact cs1) rfl rfl rfl ?_
          | refine r_ev_cnd tab_ok rfl rfl rfl rfl rfl rfl (by first | exact fun _ => rfl | exact cs1 | exact cs2 | exact cs3) (by first | exact fun _ => trivial | (intro h; simp at h; first | exact ⟨by omega, by omega⟩ | omega)) rfl ?_
          | refine r_ld_cnd tab_ok rfl rfl rfl rfl rfl rfl (by first | exact fun _ => rfl | exact cs1 | exact cs2 | exact cs3) rfl ?_
          | refine r_idx_cnd tab_ok rfl rfl rfl rfl rfl rfl rfl (by first | exact fun _ => rfl | exact cs1 | exact cs2) rfl rfl (by exact ⟨by omega, by omega⟩) rfl rfl ?_
          | refine r_idx_cnd' tab_ok rfl rfl rfl rfl rfl rfl rfl (by first | exact fun _ => rfl | exact cs1 | exact cs2) rfl rfl (by intro h; simp at h; exact ⟨by omega, by omega⟩) rfl rfl ?_
          | refine r_and_cnd rfl rfl rfl rfl rfl rfl rfl rfl rfl rfl ?_
          | refine r_or_cnd rfl rfl rfl rfl rfl rfl rfl rfl rfl rfl ?_
          | refine r_or rfl rfl rfl rfl rfl rfl rfl rfl ?_
          | refine r_and rfl rfl rfl rfl rfl rfl rfl rfl ?_
          | refine r_pick_t rfl rfl rfl rfl rfl rfl rfl ?_
          | refine r_pick_f rfl rfl rfl rfl rfl rfl rfl ?_
          | refine r_off rfl rfl rfl rfl rfl rfl ?_
          | refine r_len_on tab_ok rfl rfl rfl rfl rfl rfl rfl rfl rfl ?_
          | refine r_ev_on tab_ok rfl rfl rfl rfl rfl rfl (by first | exact trivial | exact ⟨by omega, by omega⟩ | omega) rfl ?_
          | refine r_ld_on tab_ok rfl rfl rfl rfl rfl rfl rfl ?_
          | refine r_build tab_ok rfl rfl rfl rfl rfl rfl ?_
          | refine r_bstr tab_ok rfl rfl rfl rfl rfl rfl rfl rfl rfl rfl ?_
          | refine r_build_cnd tab_ok rfl rfl rfl rfl rfl (by first | exact fun _ => rfl | exact cs1) rfl rfl rfl ?_
          | refine r_built_cnd tab_ok rfl rfl rfl rfl rfl rfl rfl rfl (by first | exact fun _ => rfl | exact cs1) rfl rfl rfl ?_
          | refine r_rem rfl rfl rfl rfl rfl rfl (by omega) rfl ?_
          | refine r_built0 tab_ok rfl rfl rfl rfl rfl rfl rfl ?_
          | refine r_built tab_ok rfl rfl rfl rfl rfl rfl rfl rfl rfl ?_
          | refine r_range tab_ok rfl rfl rfl rfl rfl rfl rfl ?_
          | refine r_next rfl rfl rfl rfl (by assumption) rfl rfl rfl ?_
          | refine r_next_end rfl rfl rfl rfl (by assumption) rfl rfl rfl ?_
          | refine r_nilck rfl rfl rfl rfl rfl rfl rfl ?_
          | refine r_rstr tab_ok rfl rfl rfl rfl rfl rfl rfl rfl ?_
          | refine r_rsstr tab_ok rfl rfl rfl rfl rfl rfl rfl rfl rfl rfl ?_
          | refine r_bstr' tab_ok rfl rfl rfl rfl rfl rfl rfl rfl rfl ?_
          | refine r_rowstr tab_ok rfl rfl rfl rfl rfl rfl rfl rfl rfl rfl ?_
          | refine r_strd tab_ok rfl rfl rfl rfl rfl rfl (by omega) rfl rfl rfl ?_
          | refine r_idxr tab_ok rfl rfl rfl rfl rfl rfl rfl rfl (by first | exact ⟨by omega, by omega⟩ | (simp; omega)) rfl ?_
          | refine r_lde tab_ok rfl rfl rfl rfl rfl (by omega) rfl rfl rfl rfl ?_
          | refine r_idxr_cnd tab_ok rfl rfl rfl rfl rfl rfl rfl rfl (by first | exact fun _ => rfl | exact cs1 | exact cs2) rfl rfl (by first | (intro _; exact ⟨by omega, by omega⟩) | (intro h; simp at h ⊢; omega)) rfl ?_
          | refine r_lde_cnd tab_ok rfl rfl rfl rfl rfl rfl rfl (by first | exact fun _ => rfl | exact cs1 | exact cs2) (by omega) rfl rfl rfl rfl ?_
          | refine r_cut tab_ok rfl rfl rfl rfl rfl rfl rfl rfl (by first | exact ⟨by simp, by simp; omega, by simp⟩ | (simp; omega)) rfl ?_
          | refine r_append tab_ok rfl rfl rfl rfl rfl rfl rfl rfl rfl (by first | omega | (simp; omega)) rfl ?_
          | refine r_append_nil tab_ok rfl rfl rfl rfl rfl rfl rfl rfl (by first | omega | (simp; omega)) rfl ?_)
        | refine ret1 (by first | exact .inl rfl | exact .inr rfl) rfl rfl rfl ?_
        | refine ret1_row (by first | exact .inl rfl | exact .inr rfl) rfl rfl rfl ?_
        | refine ret2 (by first | exact .inl rfl | exact .inr rfl) rfl rfl rfl rfl ?_ ?_
        | refine retM1 (by first | exact .inl rfl | exact .inr rfl) rfl rfl rfl rfl rfl ?_
        | exact retM0 (by first | exact .inl rfl | exact .inr rfl) rfl rfl rfl
        | refine awp_cond_t rfl ?_
        | refine awp_cond_f rfl ?_)
      refine awp_cond rfl (fun _ => ?_) (fun h => by simp [h1] at h)
      repeat (first
        | refine awp_seq ?_
        | refine thenA_normal ?_
        | refine awp_block ?_
        | refine a_region ?_
        | refine a_draw1 mixed_ok (by kernel_rfl) ?_
        | refine awp_ret ?_
        | refine awp_exit ?_
        | refine thenA_exit ?_
        | refine thenA_ret ?_
        | refine blockA_normal ?_
        | refine blockA_ret ?_
        | refine blockA_hit rfl ?_
        | refine blockA_miss rfl ?_
        | refine awp_skip ?_
        | refine r_done ?_
        | refine r_done' ?_
        | (refine r_id ?_; first
          | refine r_len tab_ok rfl rfl rfl rfl rfl rfl rfl ?_
          | refine r_ev tab_ok rfl rfl rfl rfl (by first | exact trivial | exact ⟨by omega, by omega⟩ | omega | exact ⟨by omega, by omega, by omega, by omega⟩ | exact Nat.le_of_ble_eq_true rfl) rfl ?_
          | refine r_ld tab_ok rfl rfl rfl rfl rfl ?_
          | refine r_idx tab_ok rfl rfl rfl rfl rfl rfl rfl (by first | exact ⟨by omega, by omega⟩ | (simp; omega)) rfl rfl ?_
          | refine r_idxd tab_ok rfl rfl rfl rfl rfl rfl rfl (by decide) rfl rfl rfl ?_
          | refine r_wr tab_ok rfl rfl rfl rfl rfl ?_
          | refine r_st tab_ok rfl rfl rfl rfl ?_
          | refine r_len_cnd tab_ok rfl rfl rfl rfl rfl rfl (by first | exact fun _ => rfl | exact cs1) rfl rfl rfl ?_
          | refine r_ev_cnd tab_ok rfl rfl rfl rfl rfl rfl (by first | exact fun _ => rfl | exact cs1 | exact cs2 | exact cs3) (by first | exact fun _ => trivial | (intro h; simp at h; first | exact ⟨by omega, by omega⟩ | omega)) rfl ?_
          | refine r_ld_cnd tab_ok rfl rfl rfl rfl rfl rfl (by first | exact fun _ => rfl | exact cs1 | exact cs2 | exact cs3) rfl ?_
          | refine r_idx_cnd tab_ok rfl rfl rfl rfl rfl rfl rfl (by first | exact fun _ => rfl | exact cs1 | exact cs2) rfl rfl (by exact ⟨by omega, by omega⟩) rfl rfl ?_
          | refine r_idx_cnd' tab_ok rfl rfl rfl rfl rfl rfl rfl (by first | exact fun _ => rfl | exact cs1 | exact cs2) rfl rfl (by intro h; simp at h; exact ⟨by omega, by omega⟩) rfl rfl ?_
          | refine r_and_cnd rfl rfl rfl rfl rfl rfl rfl rfl rfl rfl ?_
          | refine r_or_cnd rfl rfl rfl rfl rfl rfl rfl rfl rfl rfl ?_
          | refine r_or rfl rfl rfl rfl rfl rfl rfl rfl ?_
          | refine r_and rfl rfl rfl rfl rfl rfl rfl rfl ?_
          | refine r_pick_t rfl rfl rfl rfl rfl rfl rfl ?_
          | refine r_pick_f rfl rfl rfl rfl rfl rfl rfl ?_
          | refine r_off rfl rfl rfl rfl rfl rfl ?_
          | refine r_len_on tab_ok rfl rfl rfl rfl rfl rfl rfl rfl rfl ?_
          | refine r_ev_on tab_ok rfl rfl rfl rfl rfl rfl (by first | exact trivial | exact ⟨by omega, by omega⟩ | omega) rfl ?_
          | refine r_ld_on tab_ok rfl rfl rfl rfl rfl rfl rfl ?_
          | refine r_build tab_ok rfl rfl rfl rfl rfl rfl ?_
          | refine r_bstr tab_ok rfl rfl rfl rfl rfl rfl rfl rfl rfl rfl ?_
          | refine r_build_cnd tab_ok rfl rfl rfl rfl rfl (by first | exact fun _ => rfl | exact cs1) rfl rfl rfl ?_
          | refine r_built_cnd tab_ok rfl rfl rfl rfl rfl rfl rfl rfl (by first | exact fun _ => rfl | exact cs1) rfl rfl rfl ?_
          | refine r_rem rfl rfl rfl rfl rfl rfl (by omega) rfl ?_
          | refine r_built0 tab_ok rfl rfl rfl rfl rfl rfl rfl ?_
          | refine r_built tab_ok rfl rfl rfl rfl rfl rfl rfl rfl rfl ?_
          | refine r_range tab_ok rfl rfl rfl rfl rfl rfl rfl ?_
          | refine r_next rfl rfl rfl rfl (by assumption) rfl rfl rfl ?_
          | refine r_next_end rfl rfl rfl rfl (by assumption) rfl rfl rfl ?_
          | refine r_nilck rfl rfl rfl rfl rfl rfl rfl ?_
          | refine r_rstr tab_ok rfl rfl rfl rfl rfl rfl rfl rfl ?_
          | refine r_rsstr tab_ok rfl rfl rfl rfl rfl rfl rfl rfl rfl rfl ?_
          | refine r_bstr' tab_ok rfl rfl rfl rfl rfl rfl rfl rfl rfl ?_
          | refine r_rowstr tab_ok rfl rfl rfl rfl rfl rfl rfl rfl rfl rfl ?_
          | refine r_strd tab_ok rfl rfl rfl rfl rfl rfl (by omega) rfl rfl rfl ?_
          | refine r_idxr tab_ok rfl rfl rfl rfl rfl rfl rfl rfl (by first | exact ⟨by omega, by omega⟩ | (simp; omega)) rfl ?_
          | refine r_lde tab_ok rfl rfl rfl rfl rfl (by omega) rfl rfl rfl rfl ?_
          | refine r_idxr_cnd tab_ok rfl rfl rfl rfl rfl rfl rfl rfl (by first | exact fun _ => rfl | exact cs1 | exact cs2) rfl rfl (by first | (intro _; exact ⟨by omega, by omega⟩) | (intro h; simp at h ⊢; omega)) rfl ?_
          | refine r_lde_cnd tab_ok rfl rfl rfl rfl rfl rfl rfl (by first | exact fun _ => rfl | exact cs1 | exact cs2) (by omega) rfl rfl rfl rfl ?_
          | refine r_cut tab_ok rfl rfl rfl rfl rfl rfl rfl rfl (by first | exact ⟨by simp, by simp; omega, by simp⟩ | (simp; omega)) rfl ?_
          | refine r_append tab_ok rfl rfl rfl rfl rfl rfl rfl rfl rfl (by first | omega | (simp; omega)) rfl ?_
          | refine r_append_nil tab_ok rfl rfl rfl rfl rfl rfl rfl rfl (by first | omega | (simp; omega)) rfl ?_)
        | refine ret1 (by first | exact .inl rfl | exact .inr rfl) rfl rfl rfl ?_
        | refine ret1_row (by first | exact .inl rfl | exact .inr rfl) rfl rfl rfl ?_
        | refine ret2 (by first | exact .inl rfl | exact .inr rfl) rfl rfl rfl rfl ?_ ?_
        | refine retM1 (by first | exact .inl rfl | exact .inr rfl) rfl rfl rfl rfl rfl ?_
        | exact retM0 (by first | exact .inl rfl | exact .inr rfl) rfl rfl rfl
        | refine awp_cond_t rfl ?_
        | refine awp_cond_f rfl ?_)
      exact ⟨⟨q, decide (r = 13), out, by rw [← hle, hst]; simp, fun h => by omega⟩, by dsimp only; omega, fits_conv (by repeat' first | exact trivial | exact rfl | (rw [List.map_append]; first | done | rfl) | exact c_sub rfl (Sub.refl _) rfl | exact c_nil rfl rfl | exact c_thaw rfl rfl rfl | exact c_row rfl rfl rfl | exact c_row rfl rfl (by rw [List.map_append]; first | done | rfl) | exact c_ptr rfl rfl rfl rfl | exact Or.inl ⟨c_sub rfl (Sub.refl _) rfl, c_ptr rfl rfl rfl rfl⟩ | exact c_alt rfl rfl rfl rfl | exact c_sub rfl (Sub.altl _ _) rfl | refine ⟨_, _, rfl, ?_, ?_⟩ | apply And.intro) (by repeat' first | exact trivial | exact rfl | (rw [List.map_append]; first | done | rfl) | exact c_sub rfl (Sub.refl _) rfl | exact c_nil rfl rfl | exact c_thaw rfl rfl rfl | exact c_row rfl rfl rfl | exact c_row rfl rfl (by rw [List.map_append]; first | done | rfl) | exact c_ptr rfl rfl rfl rfl | exact Or.inl ⟨c_sub rfl (Sub.refl _) rfl, c_ptr rfl rfl rfl rfl⟩ | exact c_alt rfl rfl rfl rfl | exact c_sub rfl (Sub.altl _ _) rfl | refine ⟨_, _, rfl, ?_, ?_⟩ | apply And.intro)⟩
    · simp at h1
      repeat (first
        | refine awp_seq ?_
        | refine thenA_normal ?_
        | refine awp_block ?_
        | refine a_region ?_
        | refine a_draw1 mixed_ok (by kernel_rfl) ?_
        | refine awp_ret ?_
        | refine awp_exit ?_
        | refine thenA_exit ?_
        | refine thenA_ret ?_
        | refine blockA_normal ?_
        | refine blockA_ret ?_
        | refine blockA_hit rfl ?_
        | refine blockA_miss rfl ?_
        | refine awp_skip ?_
        | refine r_done ?_
        | refine r_done' ?_
        | (refine r_id ?_; first
          | refine r_len tab_ok rfl rfl rfl rfl rfl rfl rfl ?_
          | refine r_ev tab_ok rfl rfl rfl rfl (by first | exact trivial | exact ⟨by omega, by omega⟩ | omega | exact ⟨by omega, by omega, by omega, by omega⟩ | exact Nat.le_of_ble_eq_true rfl) rfl ?_
          | refine r_ld tab_ok rfl rfl rfl rfl rfl ?_
          | refine r_idx tab_ok rfl rfl rfl rfl rfl rfl rfl (by first | exact ⟨by omega, by omega⟩ | (simp; omega)) rfl rfl ?_
          | refine r_idxd tab_ok rfl rfl rfl rfl rfl rfl rfl (by decide) rfl rfl rfl ?_
          | refine r_wr tab_ok rfl rfl rfl rfl rfl ?_
          | refine r_st tab_ok rfl rfl rfl rfl ?_
          | refine r_len_cnd tab_ok rfl rfl rfl rfl rfl rfl (by first | exact fun _ => rfl | exact cs1) rfl rfl rfl ?_
          | refine r_ev_cnd tab_ok rfl rfl rfl rfl rfl rfl (by first | exact fun _ => rfl | exact cs1 | exact cs2 | exact cs3) (by first | exact fun _ => trivial | (intro h; simp at h; first | exact ⟨by omega, by omega⟩ | omega)) rfl ?_
          | refine r_ld_cnd tab_ok rfl rfl rfl rfl rfl rfl (by first | exact fun _ => rfl | exact cs1 | exact cs2 | exact cs3) rfl ?_
          | refine r_idx_cnd tab_ok rfl rfl rfl rfl rfl rfl rfl (by first | exact fun _ => rfl | exact cs1 | exact cs2) rfl rfl (by exact ⟨by omega, by omega⟩) rfl rfl ?_
          | refine r_idx_cnd' tab_ok rfl rfl rfl rfl rfl rfl rfl (by first | exact fun _ => rfl | exact cs1 | exact cs2) rfl rfl (by intro h; simp at h; exact ⟨by omega, by omega⟩) rfl rfl ?_
          | refine r_and_cnd rfl rfl rfl rfl rfl rfl rfl rfl rfl rfl ?_
          | refine r_or_cnd rfl rfl rfl rfl rfl rfl rfl rfl rfl rfl ?_
          | refine r_or rfl rfl rfl rfl rfl rfl rfl rfl ?_
          | refine r_and rfl rfl rfl rfl rfl rfl rfl rfl ?_
          | refine r_pick_t rfl rfl rfl rfl rfl rfl rfl ?_
          | refine r_pick_f rfl rfl rfl rfl rfl rfl rfl ?_
          | refine r_off rfl rfl rfl rfl rfl rfl ?_
          | refine r_len_on tab_ok rfl rfl rfl rfl rfl rfl rfl rfl rfl ?_
          | refine r_ev_on tab_ok rfl rfl rfl rfl rfl rfl (by first | exact trivial | exact ⟨by omega, by omega⟩ | omega) rfl ?_
          | refine r_ld_on tab_ok rfl rfl rfl rfl rfl rfl rfl ?_
          | refine r_build tab_ok rfl rfl rfl rfl rfl rfl ?_
          | refine r_bstr tab_ok rfl rfl rfl rfl rfl rfl rfl rfl rfl rfl ?_
          | refine r_build_cnd tab_ok rfl rfl rfl rfl rfl (by first | exact fun _ => rfl | exact cs1) rfl rfl rfl ?_
          | refine r_built_cnd tab_ok rfl rfl rfl rfl rfl rfl rfl rfl (by first | exact fun _ => rfl | exact cs1) rfl rfl rfl ?_
          | refine r_rem rfl rfl rfl rfl rfl rfl (by omega) rfl ?_
          | refine r_built0 tab_ok rfl rfl rfl rfl rfl rfl rfl ?_
          | refine r_built tab_ok rfl rfl rfl rfl rfl rfl rfl rfl rfl ?_
          | refine r_range tab_ok rfl rfl rfl rfl rfl rfl rfl ?_
          | refine r_next rfl rfl rfl rfl (by assumption) rfl rfl rfl ?_
          | refine r_next_end rfl rfl rfl rfl (by assumption) rfl rfl rfl ?_
          | refine r_nilck rfl rfl rfl rfl rfl rfl rfl ?_
          | refine r_rstr tab_ok rfl rfl rfl rfl rfl rfl rfl rfl ?_
          | refine r_rsstr tab_ok rfl rfl rfl rfl rfl rfl rfl rfl rfl rfl ?_
          | refine r_bstr' tab_ok rfl rfl rfl rfl rfl rfl rfl rfl rfl ?_
          | refine r_rowstr tab_ok rfl rfl rfl rfl rfl rfl rfl rfl rfl rfl ?_
          | refine r_strd tab_ok rfl rfl rfl rfl rfl rfl (by omega) rfl rfl rfl ?_
          | refine r_idxr tab_ok rfl rfl rfl rfl rfl rfl rfl rfl (by first | exact ⟨by omega, by omega⟩ | (simp; omega)) rfl ?_
          | refine r_lde tab_ok rfl rfl rfl rfl rfl (by omega) rfl rfl rfl rfl ?_
          | refine r_idxr_cnd tab_ok rfl rfl rfl rfl rfl rfl rfl rfl (by first | exact fun _ => rfl | exact cs1 | exact cs2) rfl rfl (by first | (intro _; exact ⟨by omega, by omega⟩) | (intro h; simp at h ⊢; omega)) rfl ?_
          | refine r_lde_cnd tab_ok rfl rfl rfl rfl rfl rfl rfl (by first | exact fun _ => rfl | exact cs1 | exact cs2) (by omega) rfl rfl rfl rfl ?_
          | refine r_cut tab_ok rfl rfl rfl rfl rfl rfl rfl rfl (by first | exact ⟨by simp, by simp; omega, by simp⟩ | (simp; omega)) rfl ?_
          | refine r_append tab_ok rfl rfl rfl rfl rfl rfl rfl rfl rfl (by first | omega | (simp; omega)) rfl ?_
          | refine r_append_nil tab_ok rfl rfl rfl rfl rfl rfl rfl rfl (by first | omega | (simp; omega)) rfl ?_)
        | refine ret1 (by first | exact .inl rfl | exact .inr rfl) rfl rfl rfl ?_
        | refine ret1_row (by first | exact .inl rfl | exact .inr rfl) rfl rfl rfl ?_
        | refine ret2 (by first | exact .inl rfl | exact .inr rfl) rfl rfl rfl rfl ?_ ?_
        | refine retM1 (by first | exact .inl rfl | exact .inr rfl) rfl rfl rfl rfl rfl ?_
        | exact retM0 (by first | exact .inl rfl | exact .inr rfl) rfl rfl rfl
        | refine awp_cond_t rfl ?_
        | refine awp_cond_f rfl ?_)
      refine awp_cond rfl (fun h2 => ?_) (fun h2 => ?_)
      · simp at h2
        rw [if_pos (.inr h2)] at hst
        repeat (first
          | refine awp_seq ?_
          | refine thenA_normal ?_
          | refine awp_block ?_
          | refine a_region ?_
          | refine a_draw1 mixed_ok (by kernel_rfl) ?_
          | refine awp_ret ?_
          | refine awp_exit ?_
          | refine thenA_exit ?_
          | refine thenA_ret ?_
          | refine blockA_normal ?_
          | refine blockA_ret ?_
          | refine blockA_hit rfl ?_
          | refine blockA_miss rfl ?_
          | refine awp_skip ?_
          | refine r_done ?_
          | refine r_done' ?_
          | (refine r_id ?_; first
            | refine r_len tab_ok rfl rfl rfl rfl rfl rfl rfl ?_
            | refine r_ev tab_ok rfl rfl rfl rfl (by first | exact trivial | exact ⟨by omega, by omega⟩ | omega | exact ⟨by omega, by omega, by omega, by omega⟩ | exact Nat.le_of_ble_eq_true rfl) rfl ?_
            | refine r_ld tab_ok rfl rfl rfl rfl rfl ?_
            | refine r_idx tab_ok rfl rfl rfl rfl rfl rfl rfl (by first | exact ⟨by omega, by omega⟩ | (simp; omega)) rfl rfl ?_
            | refine r_idxd tab_ok rfl rfl rfl rfl rfl rfl rfl (by decide) rfl rfl rfl ?_
            | refine r_wr tab_ok rfl rfl rfl rfl rfl ?_
            | refine r_st tab_ok rfl rfl rfl rfl ?_
            | refine r_len_cnd tab_ok rfl rfl rfl rfl rfl rfl (by first | exact fun _ => rfl | exact cs1) rfl rfl rfl ?_
            | refine r_ev_cnd tab_ok rfl rfl rfl rfl rfl rfl (by first | exact fun _ => rfl | exact cs1 | exact cs2 | exact cs3) (by first | exact fun _ => trivial | (intro h; simp at h; first | exact ⟨by omega, by omega⟩ | omega)) rfl ?_
            | refine r_ld_cnd tab_ok rfl rfl rfl rfl rfl rfl (by first | exact fun _ => rfl | exact cs1 | exact cs2 | exact cs3) rfl ?_
            | refine r_idx_cnd tab_ok rfl rfl rfl rfl rfl rfl rfl (by first | exact fun _ => rfl | exact cs1 | exact cs2) rfl rfl (by exact ⟨by omega, by omega⟩) rfl rfl ?_
            | refine r_idx_cnd' tab_ok rfl rfl rfl rfl rfl rfl rfl (by first | exact fun _ => rfl | exact cs1 | exact cs2) rfl rfl (by intro h; simp at h; exact ⟨by omega, by omega⟩) rfl rfl ?_
            | refine r_and_cnd rfl rfl rfl rfl rfl rfl rfl rfl rfl rfl ?_
            | refine r_or_cnd rfl rfl rfl rfl rfl rfl rfl rfl rfl rfl ?_
            | refine r_or rfl rfl rfl rfl rfl rfl rfl rfl ?_
            | refine r_and rfl rfl rfl rfl rfl rfl rfl rfl ?_
            | refine r_pick_t rfl rfl rfl rfl rfl rfl rfl ?_
            | refine r_pick_f rfl rfl rfl rfl rfl rfl rfl ?_
            | refine r_off rfl rfl rfl rfl rfl rfl ?_
            | refine r_len_on tab_ok rfl rfl rfl rfl rfl rfl rfl rfl rfl ?_
            | refine r_ev_on tab_ok rfl rfl rfl rfl rfl rfl (by first | exact trivial | exact ⟨by omega, by omega⟩ | omega) rfl ?_
            | refine r_ld_on tab_ok rfl rfl rfl rfl rfl rfl rfl ?_
            | refine r_build tab_ok rfl rfl rfl rfl rfl rfl ?_
            | refine r_bstr tab_ok rfl rfl rfl rfl rfl rfl rfl rfl rfl rfl ?_
            | refine r_build_cnd tab_ok rfl rfl rfl rfl rfl (by first | exact fun _ => rfl | exact cs1) rfl rfl rfl ?_
            | refine r_built_cnd tab_ok rfl rfl rfl rfl rfl rfl rfl rfl (by first | exact fun _ => rfl | exact cs1) rfl rfl rfl ?_
            | refine r_rem rfl rfl rfl rfl rfl rfl (by omega) rfl ?_
            | refine r_built0 tab_ok rfl rfl rfl rfl rfl rfl rfl ?_
            | refine r_built tab_ok rfl rfl rfl rfl rfl rfl rfl rfl rfl ?_
            | refine r_range tab_ok rfl rfl rfl rfl rfl rfl rfl ?_
            | refine r_next rfl rfl rfl rfl (by assumption) rfl rfl rfl ?_
            | refine r_next_end rfl rfl rfl rfl (by assumption) rfl rfl rfl ?_
            | refine r_nilck rfl rfl rfl rfl rfl rfl rfl ?_
            | refine r_rstr tab_ok rfl rfl rfl rfl rfl rfl rfl rfl ?_
            | refine r_rsstr tab_ok rfl rfl rfl rfl rfl rfl rfl rfl rfl rfl ?_
            | refine r_bstr' tab_ok rfl rfl rfl rfl rfl rfl rfl rfl rfl ?_
            | refine r_rowstr tab_ok rfl rfl rfl rfl rfl rfl rfl rfl rfl rfl ?_
            | refine r_strd tab_ok rfl rfl rfl rfl rfl rfl (by omega) rfl rfl rfl ?_
            | refine r_idxr tab_ok rfl rfl rfl rfl rfl rfl rfl rfl (by first | exact ⟨by omega, by omega⟩ | (simp; omega)) rfl ?_
            | refine r_lde tab_ok rfl rfl rfl rfl rfl (by omega) rfl rfl rfl rfl ?_
            | refine r_idxr_cnd tab_ok rfl rfl rfl rfl rfl rfl rfl rfl (by first | exact fun _ => rfl | exact cs1 | exact cs2) rfl rfl (by first | (intro _; exact ⟨by omega, by omega⟩) | (intro h; simp at h ⊢; omega)) rfl ?_
            | refine r_lde_cnd tab_ok rfl rfl rfl rfl rfl rfl rfl (by first | exact fun _ => rfl | exact cs1 | exact cs2) (by omega) rfl rfl rfl rfl ?_
            | refine r_cut tab_ok rfl rfl rfl rfl rfl rfl rfl rfl (by first | exact ⟨by simp, by simp; omega, by simp⟩ | (simp; omega)) rfl ?_
            | refine r_append tab_ok rfl rfl rfl rfl rfl rfl rfl rfl rfl (by first | omega | (simp; omega)) rfl ?_
            | refine r_append_nil tab_ok rfl rfl rfl rfl rfl rfl rfl rfl (by first | omega | (simp; omega)) rfl ?_)
          | refine ret1 (by first | exact .inl rfl | exact .inr rfl) rfl rfl rfl ?_
          | refine ret1_row (by first | exact .inl rfl | exact .inr rfl) rfl rfl rfl ?_
          | refine ret2 (by first | exact .inl rfl | exact .inr rfl) rfl rfl rfl rfl ?_ ?_
          | refine retM1 (by first | exact .inl rfl | exact .inr rfl) rfl rfl rfl rfl rfl ?_
          | exact retM0 (by first | exact .inl rfl | exact .inr rfl) rfl rfl rfl
          | refine awp_cond_t rfl ?_
          | refine awp_cond_f rfl ?_)
        exact ⟨⟨q, decide (r = 13), out, by rw [← hle, hst]; simp, fun h => by omega⟩, by dsimp only; omega, fits_conv (by repeat' first | exact trivial | exact rfl | (rw [List.map_append]; first | done | rfl) | exact c_sub rfl (Sub.refl _) rfl | exact c_nil rfl rfl | exact c_thaw rfl rfl rfl | exact c_row rfl rfl rfl | exact c_row rfl rfl (by rw [List.map_append]; first | done | rfl) | exact c_ptr rfl rfl rfl rfl | exact Or.inl ⟨c_sub rfl (Sub.refl _) rfl, c_ptr rfl rfl rfl rfl⟩ | exact c_alt rfl rfl rfl rfl | exact c_sub rfl (Sub.altl _ _) rfl | refine ⟨_, _, rfl, ?_, ?_⟩ | apply And.intro) (by repeat' first | exact trivial | exact rfl | (rw [List.map_append]; first | done | rfl) | exact c_sub rfl (Sub.refl _) rfl | exact c_nil rfl rfl | exact c_thaw rfl rfl rfl | exact c_row rfl rfl rfl | exact c_row rfl rfl (by rw [List.map_append]; first | done | rfl) | exact c_ptr rfl rfl rfl rfl | exact Or.inl ⟨c_sub rfl (Sub.refl _) rfl, c_ptr rfl rfl rfl rfl⟩ | exact c_alt rfl rfl rfl rfl | exact c_sub rfl (Sub.altl _ _) rfl | refine ⟨_, _, rfl, ?_, ?_⟩ | apply And.intro)⟩
      · have h3 : ¬ (r = 10 ∧ cr = true) := by simpa using h2
        rw [if_neg (by rintro (h | h); exact h1 (by omega) h.2; exact h3 h)] at hst
        repeat (first
          | refine awp_seq ?_
          | refine thenA_normal ?_
          | refine awp_block ?_
          | refine a_region ?_
          | refine a_draw1 mixed_ok (by kernel_rfl) ?_
          | refine awp_ret ?_
          | refine awp_exit ?_
          | refine thenA_exit ?_
          | refine thenA_ret ?_
          | refine blockA_normal ?_
          | refine blockA_ret ?_
          | refine blockA_hit rfl ?_
          | refine blockA_miss rfl ?_
          | refine awp_skip ?_
          | refine r_done ?_
          | refine r_done' ?_
          | (refine r_id ?_; first
            | refine r_len tab_ok rfl rfl rfl rfl rfl rfl rfl ?_
            | refine r_ev tab_ok rfl rfl rfl rfl (by first | exact trivial | exact ⟨by omega, by omega⟩ | omega | exact ⟨by omega, by omega, by omega, by omega⟩ | exact Nat.le_of_ble_eq_true rfl) rfl ?_
            | refine r_ld tab_ok rfl rfl rfl rfl rfl ?_
            | refine r_idx tab_ok rfl rfl rfl rfl rfl rfl rfl (by first | exact ⟨by omega, by omega⟩ | (simp; omega)) rfl rfl ?_
            | refine r_idxd tab_ok rfl rfl rfl rfl rfl rfl rfl (by decide) rfl rfl rfl ?_
            | refine r_wr tab_ok rfl rfl rfl rfl rfl ?_
            | refine r_st tab_ok rfl rfl rfl rfl ?_
            | refine r_len_cnd tab_ok rfl rfl rfl rfl rfl rfl (by first | exact fun _ => rfl | exact cs1) rfl rfl rfl ?_
            | refine r_ev_cnd tab_ok rfl rfl rfl rfl rfl rfl (by first | exact fun _ => rfl | exact cs1 | exact cs2 | exact cs3) (by first | exact fun _ => trivial | (intro h; simp at h; first | exact ⟨by omega, by omega⟩ | omega)) rfl ?_
            | refine r_ld_cnd tab_ok rfl rfl rfl rfl rfl rfl (by first | exact fun _ => rfl | exact cs1 | exact cs2 | exact cs3) rfl ?_
            | refine r_idx_cnd tab_ok rfl rfl rfl rfl rfl rfl rfl (by first | exact fun _ => rfl | exact cs1 | exact cs2) rfl rfl (by exact ⟨by omega, by omega⟩) rfl rfl ?_
            | refine r_idx_cnd' tab_ok rfl rfl rfl rfl rfl rfl rfl (by first | exact fun _ => rfl | exact cs1 | exact cs2) rfl rfl (by intro h; simp at h; exact ⟨by omega, by omega⟩) rfl rfl ?_
            | refine r_and_cnd rfl rfl rfl rfl rfl rfl rfl rfl rfl rfl ?_
            | refine r_or_cnd rfl rfl rfl rfl rfl rfl rfl rfl rfl rfl ?_
            | refine r_or rfl rfl rfl rfl rfl rfl rfl rfl ?_
            | refine r_and rfl rfl rfl rfl rfl rfl rfl rfl ?_
            | refine r_pick_t rfl rfl rfl rfl rfl rfl rfl ?_
            | refine r_pick_f rfl rfl rfl rfl rfl rfl rfl ?_
            | refine r_off rfl rfl rfl rfl rfl rfl ?_
            | refine r_len_on tab_ok rfl rfl rfl rfl rfl rfl rfl rfl rfl ?_
            | refine r_ev_on tab_ok rfl rfl rfl rfl rfl rfl (by first | exact trivial | exact ⟨by omega, by omega⟩ | omega) rfl ?_
            | refine r_ld_on tab_ok rfl rfl rfl rfl rfl rfl rfl ?_
            | refine r_build tab_ok rfl rfl rfl rfl rfl rfl ?_
            | refine r_bstr tab_ok rfl rfl rfl rfl rfl rfl rfl rfl rfl rfl ?_
            | refine r_build_cnd tab_ok rfl rfl rfl rfl rfl (by first | exact fun _ => rfl | exact cs1) rfl rfl rfl ?_
            | refine r_built_cnd tab_ok rfl rfl rfl rfl rfl rfl rfl rfl (by first | exact fun _ => rfl | exact cs1) rfl rfl rfl ?_
            | refine r_rem rfl rfl rfl rfl rfl rfl (by omega) rfl ?_
            | refine r_built0 tab_ok rfl rfl rfl rfl rfl rfl rfl ?_
            | refine r_built tab_ok rfl rfl rfl rfl rfl rfl rfl rfl rfl ?_
            | refine r_range tab_ok rfl rfl rfl rfl rfl rfl rfl ?_
            | refine r_next rfl rfl rfl rfl (by assumption) rfl rfl rfl ?_
            | refine r_next_end rfl rfl rfl rfl (by assumption) rfl rfl rfl ?_
            | refine r_nilck rfl rfl rfl rfl rfl rfl rfl ?_
            | refine r_rstr tab_ok rfl rfl rfl rfl rfl rfl rfl rfl ?_
            | refine r_rsstr tab_ok rfl rfl rfl rfl rfl rfl rfl rfl rfl rfl ?_
            | refine r_bstr' tab_ok rfl rfl rfl rfl rfl rfl rfl rfl rfl ?_
            | refine r_rowstr tab_ok rfl rfl rfl rfl rfl rfl rfl rfl rfl rfl ?_
            | refine r_strd tab_ok rfl rfl rfl rfl rfl rfl (by omega) rfl rfl rfl ?_
            | refine r_idxr tab_ok rfl rfl rfl rfl rfl rfl rfl rfl (by first | exact ⟨by omega, by omega⟩ | (simp; omega)) rfl ?_
            | refine r_lde tab_ok rfl rfl rfl rfl rfl (by omega) rfl rfl rfl rfl ?_
            | refine r_idxr_cnd tab_ok rfl rfl rfl rfl rfl rfl rfl rfl (by first | exact fun _ => rfl | exact cs1 | exact cs2) rfl rfl (by first | (intro _; exact ⟨by omega, by omega⟩) | (intro h; simp at h ⊢; omega)) rfl ?_
            | refine r_lde_cnd tab_ok rfl rfl rfl rfl rfl rfl rfl (by first | exact fun _ => rfl | exact cs1 | exact cs2) (by omega) rfl rfl rfl rfl ?_
            | refine r_cut tab_ok rfl rfl rfl rfl rfl rfl rfl rfl (by first | exact ⟨by simp, by simp; omega, by simp⟩ | (simp; omega)) rfl ?_
            | refine r_append tab_ok rfl rfl rfl rfl rfl rfl rfl rfl rfl (by first | omega | (simp; omega)) rfl ?_
            | refine r_append_nil tab_ok rfl rfl rfl rfl rfl rfl rfl rfl (by first | omega | (simp; omega)) rfl ?_)
          | refine ret1 (by first | exact .inl rfl | exact .inr rfl) rfl rfl rfl ?_
          | refine ret1_row (by first | exact .inl rfl | exact .inr rfl) rfl rfl rfl ?_
          | refine ret2 (by first | exact .inl rfl | exact .inr rfl) rfl rfl rfl rfl ?_ ?_
          | refine retM1 (by first | exact .inl rfl | exact .inr rfl) rfl rfl rfl rfl rfl ?_
          | exact retM0 (by first | exact .inl rfl | exact .inr rfl) rfl rfl rfl
          | refine awp_cond_t rfl ?_
          | refine awp_cond_f rfl ?_)
        refine awp_cond rfl (fun h4 => ?_) (fun h4 => ?_)
        · simp at h4
          rw [if_pos h4] at hst
          repeat (first
            | refine awp_seq ?_
            | refine thenA_normal ?_
            | refine awp_block ?_
            | refine a_region ?_
            | refine a_draw1 mixed_ok (by kernel_rfl) ?_
            | refine awp_ret ?_
            | refine awp_exit ?_
            | refine thenA_exit ?_
            | refine thenA_ret ?_
            | refine blockA_normal ?_
            | refine blockA_ret ?_
            | refine blockA_hit rfl ?_
            | refine blockA_miss rfl ?_
            | refine awp_skip ?_
            | refine r_done ?_
            | refine r_done' ?_
            | (refine r_id ?_; first
              | refine r_len tab_ok rfl rfl rfl rfl rfl rfl rfl ?_
              | refine r_ev tab_ok rfl rfl rfl rfl (by first | exact trivial | exact ⟨by omega, by omega⟩ | omega | exact ⟨by omega, by omega, by omega, by omega⟩ | exact Nat.le_of_ble_eq_true rfl) rfl ?_
              | refine r_ld tab_ok rfl rfl rfl rfl rfl ?_
              | refine r_idx tab_ok rfl rfl rfl rfl rfl rfl rfl (by first | exact ⟨by omega, by omega⟩ | (simp; omega)) rfl rfl ?_
              | refine r_idxd tab_ok rfl rfl rfl rfl rfl rfl rfl (by decide) rfl rfl rfl ?_
              | refine r_wr tab_ok rfl rfl rfl rfl rfl ?_
              | refine r_st tab_ok rfl rfl rfl rfl ?_
              | refine r_len_cnd tab_ok rfl rfl rfl rfl rfl rfl (by first | exact fun _ => rfl | exact cs1) rfl rfl rfl ?_
              | refine r_ev_cnd tab_ok rfl rfl rfl rfl rfl rfl (by first | exact fun _ => rfl | exact cs1 | exact cs2 | exact cs3) (by first | exact fun _ => trivial | (intro h; simp at h; first | exact ⟨by omega, by omega⟩ | omega)) rfl ?_
              | refine r_ld_cnd tab_ok rfl rfl rfl rfl rfl rfl (by first | exact fun _ => rfl | exact cs1 | exact cs2 | exact cs3) rfl ?_
              | refine r_idx_cnd tab_ok rfl rfl rfl rfl rfl rfl rfl (by first | exact fun _ => rfl | exact cs1 | exact cs2) rfl rfl (by exact ⟨by omega, by omega⟩) rfl rfl ?_
              | refine r_idx_cnd' tab_ok rfl rfl rfl rfl rfl rfl rfl (by first | exact fun _ => rfl | exact cs1 | exact cs2) rfl rfl (by intro h; simp at h; exact ⟨by omega, by omega⟩) rfl rfl ?_
              | refine r_and_cnd rfl rfl rfl rfl rfl rfl rfl rfl rfl rfl ?_
              | refine r_or_cnd rfl rfl rfl rfl rfl rfl rfl rfl rfl rfl ?_
              | refine r_or rfl rfl rfl rfl rfl rfl rfl rfl ?_
              | refine r_and rfl rfl rfl rfl rfl rfl rfl rfl ?_
              | refine r_pick_t rfl rfl rfl rfl rfl rfl rfl ?_
              | refine r_pick_f rfl rfl rfl rfl rfl rfl rfl ?_
              | refine r_off rfl rfl rfl rfl rfl rfl ?_
              | refine r_len_on tab_ok rfl rfl rfl rfl rfl rfl rfl rfl rfl ?_
              | refine r_ev_on tab_ok rfl rfl rfl rfl rfl rfl (by first | exact trivial | exact ⟨by omega, by omega⟩ | omega) rfl ?_
              | refine r_ld_on tab_ok rfl rfl rfl rfl rfl rfl rfl ?_
              | refine r_build tab_ok rfl rfl rfl rfl rfl rfl ?_
              | refine r_bstr tab_ok rfl rfl rfl rfl rfl rfl rfl rfl rfl rfl ?_
              | refine r_build_cnd tab_ok rfl rfl rfl rfl rfl (by first | exact fun _ => rfl | exact cs1) rfl rfl rfl ?_
              | refine r_built_cnd tab_ok rfl rfl rfl rfl rfl rfl rfl rfl (by first | exact fun _ => rfl | exact cs1) rfl rfl rfl ?_
              | refine r_rem rfl rfl rfl rfl rfl rfl (by omega) rfl ?_
              | refine r_built0 tab_ok rfl rfl rfl rfl rfl rfl rfl ?_
              | refine r_built tab_ok rfl rfl rfl rfl rfl rfl rfl rfl rfl ?_
              | refine r_range tab_ok rfl rfl rfl rfl rfl rfl rfl ?_
              | refine r_next rfl rfl rfl rfl (by assumption) rfl rfl rfl ?_
              | refine r_next_end rfl rfl rfl rfl (by assumption) rfl rfl rfl ?_
              | refine r_nilck rfl rfl rfl rfl rfl rfl rfl ?_
              | refine r_rstr tab_ok rfl rfl rfl rfl rfl rfl rfl rfl ?_
              | refine r_rsstr tab_ok rfl rfl rfl rfl rfl rfl rfl rfl rfl rfl ?_
              | refine r_bstr' tab_ok rfl rfl rfl rfl rfl rfl rfl rfl rfl ?_
              | refine r_rowstr tab_ok rfl rfl rfl rfl rfl rfl rfl rfl rfl rfl ?_
              | refine r_strd tab_ok rfl rfl rfl rfl rfl rfl (by omega) rfl rfl rfl ?_
              | refine r_idxr tab_ok rfl rfl rfl rfl rfl rfl rfl rfl (by first | exact ⟨by omega, by omega⟩ | (simp; omega)) rfl ?_
              | refine r_lde tab_ok rfl rfl rfl rfl rfl (by omega) rfl rfl rfl rfl ?_
              | refine r_idxr_cnd tab_ok rfl rfl rfl rfl rfl rfl rfl rfl (by first | exact fun _ => rfl | exact cs1 | exact cs2) rfl rfl (by first | (intro _; exact ⟨by omega, by omega⟩) | (intro h; simp at h ⊢; omega)) rfl ?_
              | refine r_lde_cnd tab_ok rfl rfl rfl rfl rfl rfl rfl (by first | exact fun _ => rfl | exact cs1 | exact cs2) (by omega) rfl rfl rfl rfl ?_
              | refine r_cut tab_ok rfl rfl rfl rfl rfl rfl rfl rfl (by first | exact ⟨by simp, by simp; omega, by simp⟩ | (simp; omega)) rfl ?_
              | refine r_append tab_ok rfl rfl rfl rfl rfl rfl rfl rfl rfl (by first | omega | (simp; omega)) rfl ?_
              | refine r_append_nil tab_ok rfl rfl rfl rfl rfl rfl rfl rfl (by first | omega | (simp; omega)) rfl ?_)
            | refine ret1 (by first | exact .inl rfl | exact .inr rfl) rfl rfl rfl ?_
            | refine ret1_row (by first | exact .inl rfl | exact .inr rfl) rfl rfl rfl ?_
            | refine ret2 (by first | exact .inl rfl | exact .inr rfl) rfl rfl rfl rfl ?_ ?_
            | refine retM1 (by first | exact .inl rfl | exact .inr rfl) rfl rfl rfl rfl rfl ?_
            | exact retM0 (by first | exact .inl rfl | exact .inr rfl) rfl rfl rfl
            | refine awp_cond_t rfl ?_
            | refine awp_cond_f rfl ?_)
          exact ⟨⟨q, decide (r = 13), out ++ [10], by rw [← hle, hst]; simp, fun h => by omega⟩, by dsimp only; omega, fits_conv (by repeat' first | exact trivial | exact rfl | (rw [List.map_append]; first | done | rfl) | exact c_sub rfl (Sub.refl _) rfl | exact c_nil rfl rfl | exact c_thaw rfl rfl rfl | exact c_row rfl rfl rfl | exact c_row rfl rfl (by rw [List.map_append]; first | done | rfl) | exact c_ptr rfl rfl rfl rfl | exact Or.inl ⟨c_sub rfl (Sub.refl _) rfl, c_ptr rfl rfl rfl rfl⟩ | exact c_alt rfl rfl rfl rfl | exact c_sub rfl (Sub.altl _ _) rfl | refine ⟨_, _, rfl, ?_, ?_⟩ | apply And.intro) (by repeat' first | exact trivial | exact rfl | (rw [List.map_append]; first | done | rfl) | exact c_sub rfl (Sub.refl _) rfl | exact c_nil rfl rfl | exact c_thaw rfl rfl rfl | exact c_row rfl rfl rfl | exact c_row rfl rfl (by rw [List.map_append]; first | done | rfl) | exact c_ptr rfl rfl rfl rfl | exact Or.inl ⟨c_sub rfl (Sub.refl _) rfl, c_ptr rfl rfl rfl rfl⟩ | exact c_alt rfl rfl rfl rfl | exact c_sub rfl (Sub.altl _ _) rfl | refine ⟨_, _, rfl, ?_, ?_⟩ | apply And.intro)⟩
        · simp at h4
          rw [if_neg (by omega)] at hst
          repeat (first
            | refine awp_seq ?_
            | refine thenA_normal ?_
            | refine awp_block ?_
            | refine a_region ?_
            | refine a_draw1 mixed_ok (by kernel_rfl) ?_
            | refine awp_ret ?_
            | refine awp_exit ?_
            | refine thenA_exit ?_
            | refine thenA_ret ?_
            | refine blockA_normal ?_
            | refine blockA_ret ?_
            | refine blockA_hit rfl ?_
            | refine blockA_miss rfl ?_
            | refine awp_skip ?_
            | refine r_done ?_
            | refine r_done' ?_
            | (refine r_id ?_; first
              | refine r_len tab_ok rfl rfl rfl rfl rfl rfl rfl ?_
              | refine r_ev tab_ok rfl rfl rfl rfl (by first | exact trivial | exact ⟨by omega, by omega⟩ | omega | exact ⟨by omega, by omega, by omega, by omega⟩ | exact Nat.le_of_ble_eq_true rfl) rfl ?_
              | refine r_ld tab_ok rfl rfl rfl rfl rfl ?_
              | refine r_idx tab_ok rfl rfl rfl rfl rfl rfl rfl (by first | exact ⟨by omega, by omega⟩ | (simp; omega)) rfl rfl ?_
              | refine r_idxd tab_ok rfl rfl rfl rfl rfl rfl rfl (by decide) rfl rfl rfl ?_
              | refine r_wr tab_ok rfl rfl rfl rfl rfl ?_
              | refine r_st tab_ok rfl rfl rfl rfl ?_
              | refine r_len_cnd tab_ok rfl rfl rfl rfl rfl rfl (by first | exact fun _ => rfl | exact cs1) rfl rfl rfl ?_
              | refine r_ev_cnd tab_ok rfl rfl rfl rfl rfl rfl (by first | exact fun _ => rfl | exact cs1 | exact cs2 | exact cs3) (by first | exact fun _ => trivial | (intro h; simp at h; first | exact ⟨by omega, by omega⟩ | omega)) rfl ?_
              | refine r_ld_cnd tab_ok rfl rfl rfl rfl rfl rfl (by first | exact fun _ => rfl | exact cs1 | exact cs2 | exact cs3) rfl ?_
              | refine r_idx_cnd tab_ok rfl rfl rfl rfl rfl rfl rfl (by first | exact fun _ => rfl | exact cs1 | exact cs2) rfl rfl (by exact ⟨by omega, by omega⟩) rfl rfl ?_
              | refine r_idx_cnd' tab_ok rfl rfl rfl rfl rfl rfl rfl (by first | exact fun _ => rfl | exact cs1 | exact cs2) rfl rfl (by intro h; simp at h; exact ⟨by omega, by omega⟩) rfl rfl ?_
              | refine r_and_cnd rfl rfl rfl rfl rfl rfl rfl rfl rfl rfl ?_
              | refine r_or_cnd rfl rfl rfl rfl rfl rfl rfl rfl rfl rfl ?_
              | refine r_or rfl rfl rfl rfl rfl rfl rfl rfl ?_
              | refine r_and rfl rfl rfl rfl rfl rfl rfl rfl ?_
              | refine r_pick_t rfl rfl rfl rfl rfl rfl rfl ?_
              | refine r_pick_f rfl rfl rfl rfl rfl rfl rfl ?_
              | refine r_off rfl rfl rfl rfl rfl rfl ?_
              | refine r_len_on tab_ok rfl rfl rfl rfl rfl rfl rfl rfl rfl ?_
              | refine r_ev_on tab_ok rfl rfl rfl rfl rfl rfl (by first | exact trivial | exact ⟨by omega, by omega⟩ | omega) rfl ?_
              | refine r_ld_on tab_ok rfl rfl rfl rfl rfl rfl rfl ?_
              | refine r_build tab_ok rfl rfl rfl rfl rfl rfl ?_
              | refine r_bstr tab_ok rfl rfl rfl rfl rfl rfl rfl rfl rfl rfl ?_
              | refine r_build_cnd tab_ok rfl rfl rfl rfl rfl (by first | exact fun _ => rfl | exact cs1) rfl rfl rfl ?_
              | refine r_built_cnd tab_ok rfl rfl rfl rfl rfl rfl rfl rfl (by first | exact fun _ => rfl | exact cs1) rfl rfl rfl ?_
              | refine r_rem rfl rfl rfl rfl rfl rfl (by omega) rfl ?_
              | refine r_built0 tab_ok rfl rfl rfl rfl rfl rfl rfl ?_
              | refine r_built tab_ok rfl rfl rfl rfl rfl rfl rfl rfl rfl ?_
              | refine r_range tab_ok rfl rfl rfl rfl rfl rfl rfl ?_
              | refine r_next rfl rfl rfl rfl (by assumption) rfl rfl rfl ?_
              | refine r_next_end rfl rfl rfl rfl (by assumption) rfl rfl rfl ?_
              | refine r_nilck rfl rfl rfl rfl rfl rfl rfl ?_
              | refine r_rstr tab_ok rfl rfl rfl rfl rfl rfl rfl rfl ?_
              | refine r_rsstr tab_ok rfl rfl rfl rfl rfl rfl rfl rfl rfl rfl ?_
              | refine r_bstr' tab_ok rfl rfl rfl rfl rfl rfl rfl rfl rfl ?_
              | refine r_rowstr tab_ok rfl rfl rfl rfl rfl rfl rfl rfl rfl rfl ?_
              | refine r_strd tab_ok rfl rfl rfl rfl rfl rfl (by omega) rfl rfl rfl ?_
              | refine r_idxr tab_ok rfl rfl rfl rfl rfl rfl rfl rfl (by first | exact ⟨by omega, by omega⟩ | (simp; omega)) rfl ?_
              | refine r_lde tab_ok rfl rfl rfl rfl rfl (by omega) rfl rfl rfl rfl ?_
              | refine r_idxr_cnd tab_ok rfl rfl rfl rfl rfl rfl rfl rfl (by first | exact fun _ => rfl | exact cs1 | exact cs2) rfl rfl (by first | (intro _; exact ⟨by omega, by omega⟩) | (intro h; simp at h ⊢; omega)) rfl ?_
              | refine r_lde_cnd tab_ok rfl rfl rfl rfl rfl rfl rfl (by first | exact fun _ => rfl | exact cs1 | exact cs2) (by omega) rfl rfl rfl rfl ?_
              | refine r_cut tab_ok rfl rfl rfl rfl rfl rfl rfl rfl (by first | exact ⟨by simp, by simp; omega, by simp⟩ | (simp; omega)) rfl ?_
              | refine r_append tab_ok rfl rfl rfl rfl rfl rfl rfl rfl rfl (by first | omega | (simp; omega)) rfl ?_
              | refine r_append_nil tab_ok rfl rfl rfl rfl rfl rfl rfl rfl (by first | omega | (simp; omega)) rfl ?_)
            | refine ret1 (by first | exact .inl rfl | exact .inr rfl) rfl rfl rfl ?_
            | refine ret1_row (by first | exact .inl rfl | exact .inr rfl) rfl rfl rfl ?_
            | refine ret2 (by first | exact .inl rfl | exact .inr rfl) rfl rfl rfl rfl ?_ ?_
            | refine retM1 (by first | exact .inl rfl | exact .inr rfl) rfl rfl rfl rfl rfl ?_
            | exact retM0 (by first | exact .inl rfl | exact .inr rfl) rfl rfl rfl
            | refine awp_cond_t rfl ?_
            | refine awp_cond_f rfl ?_)
          refine awp_cond_p rfl (fun h5 => ?_) (fun h5 => ?_)
          · rw [if_pos h5] at hst
            repeat (first
              | refine awp_seq ?_
              | refine thenA_normal ?_
              | refine awp_block ?_
              | refine a_region ?_
              | refine a_draw1 mixed_ok (by kernel_rfl) ?_
              | refine awp_ret ?_
              | refine awp_exit ?_
              | refine thenA_exit ?_
              | refine thenA_ret ?_
              | refine blockA_normal ?_
              | refine blockA_ret ?_
              | refine blockA_hit rfl ?_
              | refine blockA_miss rfl ?_
              | refine awp_skip ?_
              | refine r_done ?_
              | refine r_done' ?_
              | (refine r_id ?_; first
                | refine r_len tab_ok rfl rfl rfl rfl rfl rfl rfl ?_
                | refine r_ev tab_ok rfl rfl rfl rfl (by first | exact trivial | exact ⟨by omega, by omega⟩ | omega | exact ⟨by omega, by omega, by omega, by omega⟩ | exact Nat.le_of_ble_eq_true rfl) rfl ?_
                | refine r_ld tab_ok rfl rfl rfl rfl rfl ?_
                | refine r_idx tab_ok rfl rfl rfl rfl rfl rfl rfl (by first | exact ⟨by omega, by omega⟩ | (simp; omega)) rfl rfl ?_
                | refine r_idxd tab_ok rfl rfl rfl rfl rfl rfl rfl (by decide) rfl rfl rfl ?_
                | refine r_wr tab_ok rfl rfl rfl rfl rfl ?_
                | refine r_st tab_ok rfl rfl rfl rfl ?_
                | refine r_len_cnd tab_ok rfl rfl rfl rfl rfl rfl (by first | exact fun _ => rfl | exact cs1) rfl rfl rfl ?_
                | refine r_ev_cnd tab_ok rfl rfl rfl rfl rfl rfl (by first | exact fun _ => rfl | exact cs1 | exact cs2 | exact cs3) (by first | exact fun _ => trivial | (intro h; simp at h; first | exact ⟨by omega, by omega⟩ | omega)) rfl ?_
                | refine r_ld_cnd tab_ok rfl rfl rfl rfl rfl rfl (by first | exact fun _ => rfl | exact cs1 | exact cs2 | exact cs3) rfl ?_
                | refine r_idx_cnd tab_ok rfl rfl rfl rfl rfl rfl rfl (by first | exact fun _ => rfl | exact cs1 | exact cs2) rfl rfl (by exact ⟨by omega, by omega⟩) rfl rfl ?_
                | refine r_idx_cnd' tab_ok rfl rfl rfl rfl rfl rfl rfl (by first | exact fun _ => rfl | exact cs1 | exact cs2) rfl rfl (by intro h; simp at h; exact ⟨by omega, by omega⟩) rfl rfl ?_
                | refine r_and_cnd rfl rfl rfl rfl rfl rfl rfl rfl rfl rfl ?_
                | refine r_or_cnd rfl rfl rfl rfl rfl rfl rfl rfl rfl rfl ?_
                | refine r_or rfl rfl rfl rfl rfl rfl rfl rfl ?_
                | refine r_and rfl rfl rfl rfl rfl rfl rfl rfl ?_
                | refine r_pick_t rfl rfl rfl rfl rfl rfl rfl ?_
                | refine r_pick_f rfl rfl rfl rfl rfl rfl rfl ?_
                | refine r_off rfl rfl rfl rfl rfl rfl ?_
                | refine r_len_on tab_ok rfl rfl rfl rfl rfl rfl rfl rfl rfl ?_
                | refine r_ev_on tab_ok rfl rfl rfl rfl rfl rfl (by first | exact trivial | exact ⟨by omega, by omega⟩ | omega) rfl ?_
                | refine r_ld_on tab_ok rfl rfl rfl rfl rfl rfl rfl ?_
                | refine r_build tab_ok rfl rfl rfl rfl rfl rfl ?_
                | refine r_bstr tab_ok rfl rfl rfl rfl rfl rfl rfl rfl rfl rfl ?_
                | refine r_build_cnd tab_ok rfl rfl rfl rfl rfl (by first | exact fun _ => rfl | exact cs1) rfl rfl rfl ?_
                | refine r_built_cnd tab_ok rfl rfl rfl rfl rfl rfl rfl rfl (by first | exact fun _ => rfl | exact cs1) rfl rfl rfl ?_
                | refine r_rem rfl rfl rfl rfl rfl rfl (by omega) rfl ?_
                | refine r_built0 tab_ok rfl rfl rfl rfl rfl rfl rfl ?_
                | refine r_built tab_ok rfl rfl rfl rfl rfl rfl rfl rfl rfl ?_
                | refine r_range tab_ok rfl rfl rfl rfl rfl rfl rfl ?_
                | refine r_next rfl rfl rfl rfl (by assumption) rfl rfl rfl ?_
                | refine r_next_end rfl rfl rfl rfl (by assumption) rfl rfl rfl ?_
                | refine r_nilck rfl rfl rfl rfl rfl rfl rfl ?_
                | refine r_rstr tab_ok rfl rfl rfl rfl rfl rfl rfl rfl ?_
                | refine r_rsstr tab_ok rfl rfl rfl rfl rfl rfl rfl rfl rfl rfl ?_
                | refine r_bstr' tab_ok rfl rfl rfl rfl rfl rfl rfl rfl rfl ?_
                | refine r_rowstr tab_ok rfl rfl rfl rfl rfl rfl rfl rfl rfl rfl ?_
                | refine r_strd tab_ok rfl rfl rfl rfl rfl rfl (by omega) rfl rfl rfl ?_
                | refine r_idxr tab_ok rfl rfl rfl rfl rfl rfl rfl rfl (by first | exact ⟨by omega, by omega⟩ | (simp; omega)) rfl ?_
                | refine r_lde tab_ok rfl rfl rfl rfl rfl (by omega) rfl rfl rfl rfl ?_
                | refine r_idxr_cnd tab_ok rfl rfl rfl rfl rfl rfl rfl rfl (by first | exact fun _ => rfl | exact cs1 | exact cs2) rfl rfl (by first | (intro _; exact ⟨by omega, by omega⟩) | (intro h; simp at h ⊢; omega)) rfl ?_
                | refine r_lde_cnd tab_ok rfl rfl rfl rfl rfl rfl rfl (by first | exact fun _ => rfl | exact cs1 | exact cs2) (by omega) rfl rfl rfl rfl ?_
                | refine r_cut tab_ok rfl rfl rfl rfl rfl rfl rfl rfl (by first | exact ⟨by simp, by simp; omega, by simp⟩ | (simp; omega)) rfl ?_
                | refine r_append tab_ok rfl rfl rfl rfl rfl rfl rfl rfl rfl (by first | omega | (simp; omega)) rfl ?_
                | refine r_append_nil tab_ok rfl rfl rfl rfl rfl rfl rfl rfl (by first | omega | (simp; omega)) rfl ?_)
              | refine ret1 (by first | exact .inl rfl | exact .inr rfl) rfl rfl rfl ?_
              | refine ret1_row (by first | exact .inl rfl | exact .inr rfl) rfl rfl rfl ?_
              | refine ret2 (by first | exact .inl rfl | exact .inr rfl) rfl rfl rfl rfl ?_ ?_
              | refine retM1 (by first | exact .inl rfl | exact .inr rfl) rfl rfl rfl rfl rfl ?_
              | exact retM0 (by first | exact .inl rfl | exact .inr rfl) rfl rfl rfl
              | refine awp_cond_t rfl ?_
              | refine awp_cond_f rfl ?_)
            exact ⟨⟨q, decide (r = 13), out ++ [65533], by rw [← hle, hst]; simp, fun h => by omega⟩, by dsimp only; omega, fits_conv (by repeat' first | exact trivial | exact rfl | (rw [List.map_append]; first | done | rfl) | exact c_sub rfl (Sub.refl _) rfl | exact c_nil rfl rfl | exact c_thaw rfl rfl rfl | exact c_row rfl rfl rfl | exact c_row rfl rfl (by rw [List.map_append]; first | done | rfl) | exact c_ptr rfl rfl rfl rfl | exact Or.inl ⟨c_sub rfl (Sub.refl _) rfl, c_ptr rfl rfl rfl rfl⟩ | exact c_alt rfl rfl rfl rfl | exact c_sub rfl (Sub.altl _ _) rfl | refine ⟨_, _, rfl, ?_, ?_⟩ | apply And.intro) (by repeat' first | exact trivial | exact rfl | (rw [List.map_append]; first | done | rfl) | exact c_sub rfl (Sub.refl _) rfl | exact c_nil rfl rfl | exact c_thaw rfl rfl rfl | exact c_row rfl rfl rfl | exact c_row rfl rfl (by rw [List.map_append]; first | done | rfl) | exact c_ptr rfl rfl rfl rfl | exact Or.inl ⟨c_sub rfl (Sub.refl _) rfl, c_ptr rfl rfl rfl rfl⟩ | exact c_alt rfl rfl rfl rfl | exact c_sub rfl (Sub.altl _ _) rfl | refine ⟨_, _, rfl, ?_, ?_⟩ | apply And.intro)⟩
          · rw [if_neg h5] at hst
            repeat (first
              | refine awp_seq ?_
              | refine thenA_normal ?_
              | refine awp_block ?_
              | refine a_region ?_
              | refine a_draw1 mixed_ok (by kernel_rfl) ?_
              | refine awp_ret ?_
              | refine awp_exit ?_
              | refine thenA_exit ?_
              | refine thenA_ret ?_
              | refine blockA_normal ?_
              | refine blockA_ret ?_
              | refine blockA_hit rfl ?_
              | refine blockA_miss rfl ?_
              | refine awp_skip ?_
              | refine r_done ?_
              | refine r_done' ?_
              | (refine r_id ?_; first
                | refine r_len tab_ok rfl rfl rfl rfl rfl rfl rfl ?_
                | refine r_ev tab_ok rfl rfl rfl rfl (by first | exact trivial | exact ⟨by omega, by omega⟩ | omega | exact ⟨by omega, by omega, by omega, by omega⟩ | exact Nat.le_of_ble_eq_true rfl) rfl ?_
                | refine r_ld tab_ok rfl rfl rfl rfl rfl ?_
                | refine r_idx tab_ok rfl rfl rfl rfl rfl rfl rfl (by first | exact ⟨by omega, by omega⟩ | (simp; omega)) rfl rfl ?_
                | refine r_idxd tab_ok rfl rfl rfl rfl rfl rfl rfl (by decide) rfl rfl rfl ?_
                | refine r_wr tab_ok rfl rfl rfl rfl rfl ?_
                | refine r_st tab_ok rfl rfl rfl rfl ?_
                | refine r_len_cnd tab_ok rfl rfl rfl rfl rfl rfl (by first | exact fun _ => rfl | exact cs1) rfl rfl rfl ?_
                | refine r_ev_cnd tab_ok rfl rfl rfl rfl rfl rfl (by first | exact fun _ => rfl | exact cs1 | exact cs2 | exact cs3) (by first | exact fun _ => trivial | (intro h; simp at h; first | exact ⟨by omega, by omega⟩ | omega)) rfl ?_
                | refine r_ld_cnd tab_ok rfl rfl rfl rfl rfl rfl (by first | exact fun _ => rfl | exact cs1 | exact cs2 | exact cs3) rfl ?_
                | refine r_idx_cnd tab_ok rfl rfl rfl rfl rfl rfl rfl (by first | exact fun _ => rfl | exact cs1 | exact cs2) rfl rfl (by exact ⟨by omega, by omega⟩) rfl rfl ?_
                | refine r_idx_cnd' tab_ok rfl rfl rfl rfl rfl rfl rfl (by first | exact fun _ => rfl | exact cs1 | exact cs2) rfl rfl (by intro h; simp at h; exact ⟨by omega, by omega⟩) rfl rfl ?_
                | refine r_and_cnd rfl rfl rfl rfl rfl rfl rfl rfl rfl rfl ?_
                | refine r_or_cnd rfl rfl rfl rfl rfl rfl rfl rfl rfl rfl ?_
                | refine r_or rfl rfl rfl rfl rfl rfl rfl rfl ?_
                | refine r_and rfl rfl rfl rfl rfl rfl rfl rfl ?_
                | refine r_pick_t rfl rfl rfl rfl rfl rfl rfl ?_
                | refine r_pick_f rfl rfl rfl rfl rfl rfl rfl ?_
                | refine r_off rfl rfl rfl rfl rfl rfl ?_
                | refine r_len_on tab_ok rfl rfl rfl rfl rfl rfl rfl rfl rfl ?_
                | refine r_ev_on tab_ok rfl rfl rfl rfl rfl rfl (by first | exact trivial | exact ⟨by omega, by omega⟩ | omega) rfl ?_
                | refine r_ld_on tab_ok rfl rfl rfl rfl rfl rfl rfl ?_
                | refine r_build tab_ok rfl rfl rfl rfl rfl rfl ?_
                | refine r_bstr tab_ok rfl rfl rfl rfl rfl rfl rfl rfl rfl rfl ?_
                | refine r_build_cnd tab_ok rfl rfl rfl rfl rfl (by first | exact fun _ => rfl | exact cs1) rfl rfl rfl ?_
                | refine r_built_cnd tab_ok rfl rfl rfl rfl rfl rfl rfl rfl (by first | exact fun _ => rfl | exact cs1) rfl rfl rfl ?_
                | refine r_rem rfl rfl rfl rfl rfl rfl (by omega) rfl ?_
                | refine r_built0 tab_ok rfl rfl rfl rfl rfl rfl rfl ?_
                | refine r_built tab_ok rfl rfl rfl rfl rfl rfl rfl rfl rfl ?_
                | refine r_range tab_ok rfl rfl rfl rfl rfl rfl rfl ?_
                | refine r_next rfl rfl rfl rfl (by assumption) rfl rfl rfl ?_
                | refine r_next_end rfl rfl rfl rfl (by assumption) rfl rfl rfl ?_
                | refine r_nilck rfl rfl rfl rfl rfl rfl rfl ?_
                | refine r_rstr tab_ok rfl rfl rfl rfl rfl rfl rfl rfl ?_
                | refine r_rsstr tab_ok rfl rfl rfl rfl rfl rfl rfl rfl rfl rfl ?_
                | refine r_bstr' tab_ok rfl rfl rfl rfl rfl rfl rfl rfl rfl ?_
                | refine r_rowstr tab_ok rfl rfl rfl rfl rfl rfl rfl rfl rfl rfl ?_
                | refine r_strd tab_ok rfl rfl rfl rfl rfl rfl (by omega) rfl rfl rfl ?_
                | refine r_idxr tab_ok rfl rfl rfl rfl rfl rfl rfl rfl (by first | exact ⟨by omega, by omega⟩ | (simp; omega)) rfl ?_
                | refine r_lde tab_ok rfl rfl rfl rfl rfl (by omega) rfl rfl rfl rfl ?_
                | refine r_idxr_cnd tab_ok rfl rfl rfl rfl rfl rfl rfl rfl (by first | exact fun _ => rfl | exact cs1 | exact cs2) rfl rfl (by first | (intro _; exact ⟨by omega, by omega⟩) | (intro h; simp at h ⊢; omega)) rfl ?_
                | refine r_lde_cnd tab_ok rfl rfl rfl rfl rfl rfl rfl (by first | exact fun _ => rfl | exact cs1 | exact cs2) (by omega) rfl rfl rfl rfl ?_
                | refine r_cut tab_ok rfl rfl rfl rfl rfl rfl rfl rfl (by first | exact ⟨by simp, by simp; omega, by simp⟩ | (simp; omega)) rfl ?_
                | refine r_append tab_ok rfl rfl rfl rfl rfl rfl rfl rfl rfl (by first | omega | (simp; omega)) rfl ?_
                | refine r_append_nil tab_ok rfl rfl rfl rfl rfl rfl rfl rfl (by first | omega | (simp; omega)) rfl ?_)
              | refine ret1 (by first | exact .inl rfl | exact .inr rfl) rfl rfl rfl ?_
              | refine ret1_row (by first | exact .inl rfl | exact .inr rfl) rfl rfl rfl ?_
              | refine ret2 (by first | exact .inl rfl | exact .inr rfl) rfl rfl rfl rfl ?_ ?_
              | refine retM1 (by first | exact .inl rfl | exact .inr rfl) rfl rfl rfl rfl rfl ?_
              | exact retM0 (by first | exact .inl rfl | exact .inr rfl) rfl rfl rfl
              | refine awp_cond_t rfl ?_
              | refine awp_cond_f rfl ?_)
            exact ⟨⟨q, decide (r = 13), out ++ [r], by rw [← hle, hst]; simp, fun h => by omega⟩, by dsimp only; omega, fits_conv (by repeat' first | exact trivial | exact rfl | (rw [List.map_append]; first | done | rfl) | exact c_sub rfl (Sub.refl _) rfl | exact c_nil rfl rfl | exact c_thaw rfl rfl rfl | exact c_row rfl rfl rfl | exact c_row rfl rfl (by rw [List.map_append]; first | done | rfl) | exact c_ptr rfl rfl rfl rfl | exact Or.inl ⟨c_sub rfl (Sub.refl _) rfl, c_ptr rfl rfl rfl rfl⟩ | exact c_alt rfl rfl rfl rfl | exact c_sub rfl (Sub.altl _ _) rfl | refine ⟨_, _, rfl, ?_, ?_⟩ | apply And.intro) (by repeat' first | exact trivial | exact rfl | (rw [List.map_append]; first | done | rfl) | exact c_sub rfl (Sub.refl _) rfl | exact c_nil rfl rfl | exact c_thaw rfl rfl rfl | exact c_row rfl rfl rfl | exact c_row rfl rfl (by rw [List.map_append]; first | done | rfl) | exact c_ptr rfl rfl rfl rfl | exact Or.inl ⟨c_sub rfl (Sub.refl _) rfl, c_ptr rfl rfl rfl rfl⟩ | exact c_alt rfl rfl rfl rfl | exact c_sub rfl (Sub.altl _ _) rfl | refine ⟨_, _, rfl, ?_, ?_⟩ | apply And.intro)⟩
  · rw [rdAt_end hp, List.append_nil] at hle
    subst hle
    repeat (first
      | refine awp_seq ?_
      | refine thenA_normal ?_
      | refine awp_block ?_
      | refine a_region ?_
      | refine a_draw1 mixed_ok (by kernel_rfl) ?_
      | refine awp_ret ?_
      | refine awp_exit ?_
      | refine thenA_exit ?_
      | refine thenA_ret ?_
      | refine blockA_normal ?_
      | refine blockA_ret ?_
      | refine blockA_hit rfl ?_
      | refine blockA_miss rfl ?_
      | refine awp_skip ?_
      | refine r_done ?_
      | refine r_done' ?_
      | (refine r_id ?_; first
        | refine r_len tab_ok rfl rfl rfl rfl rfl rfl rfl ?_
        | refine r_ev tab_ok rfl rfl rfl rfl (by first | exact trivial | exact ⟨by omega, by omega⟩ | omega | exact ⟨by omega, by omega, by omega, by omega⟩ | exact Nat.le_of_ble_eq_true rfl) rfl ?_
        | refine r_ld tab_ok rfl rfl rfl rfl rfl ?_
        | refine r_idx tab_ok rfl rfl rfl rfl rfl rfl rfl (by first | exact ⟨by omega, by omega⟩ | (simp; omega)) rfl rfl ?_
        | refine r_idxd tab_ok rfl rfl rfl rfl rfl rfl rfl (by decide) rfl rfl rfl ?_
        | refine r_wr tab_ok rfl rfl rfl rfl rfl ?_
        | refine r_st tab_ok rfl rfl rfl rfl ?_
        | refine r_len_cnd tab_ok rfl rfl rfl rfl rfl rfl (by first | exact fun _ => rfl | exact cs1) rfl rfl rfl ?_
        | refine r_ev_cnd tab_ok rfl rfl rfl rfl rfl rfl (by first | exact fun _ => rfl | exact cs1 | exact cs2 | exact cs3) (by first | exact fun _ => trivial | (intro h; simp at h; first | exact ⟨by omega, by omega⟩ | omega)) rfl ?_
        | refine r_ld_cnd tab_ok rfl rfl rfl rfl rfl rfl (by first | exact fun _ => rfl | exact cs1 | exact cs2 | exact cs3) rfl ?_
        | refine r_idx_cnd tab_ok rfl rfl rfl rfl rfl rfl rfl (by first | exact fun _ => rfl | exact cs1 | exact cs2) rfl rfl (by exact ⟨by omega, by omega⟩) rfl rfl ?_
        | refine r_idx_cnd' tab_ok rfl rfl rfl rfl rfl rfl rfl (by first | exact fun _ => rfl | exact cs1 | exact cs2) rfl rfl (by intro h; simp at h; exact ⟨by omega, by omega⟩) rfl rfl ?_
        | refine r_and_cnd rfl rfl rfl rfl rfl rfl rfl rfl rfl rfl ?_
        | refine r_or_cnd rfl rfl rfl rfl rfl rfl rfl rfl rfl rfl ?_
        | refine r_or rfl rfl rfl rfl rfl rfl rfl rfl ?_
        | refine r_and rfl rfl rfl rfl rfl rfl rfl rfl ?_
        | refine r_pick_t rfl rfl rfl rfl rfl rfl rfl ?_
        | refine r_pick_f rfl rfl rfl rfl rfl rfl rfl ?_
        | refine r_off rfl rfl rfl rfl rfl rfl ?_
        | refine r_len_on tab_ok rfl rfl rfl rfl rfl rfl rfl rfl rfl ?_
        | refine r_ev_on tab_ok rfl rfl rfl rfl rfl rfl (by first | exact trivial | exact ⟨by omega, by omega⟩ | omega) rfl ?_
        | refine r_ld_on tab_ok rfl rfl rfl rfl rfl rfl rfl ?_
        | refine r_build tab_ok rfl rfl rfl rfl rfl rfl ?_
        | refine r_bstr tab_ok rfl rfl rfl rfl rfl rfl rfl rfl rfl rfl ?_
        | refine r_build_cnd tab_ok rfl rfl rfl rfl rfl (by first | exact fun _ => rfl | exact cs1) rfl rfl rfl ?_
        | refine r_built_cnd tab_ok rfl rfl rfl rfl rfl rfl rfl rfl (by first | exact fun _ => rfl | exact cs1) rfl rfl rfl ?_
        | refine r_rem rfl rfl rfl rfl rfl rfl (by omega) rfl ?_
        | refine r_built0 tab_ok rfl rfl rfl rfl rfl rfl rfl ?_
        | refine r_built tab_ok rfl rfl rfl rfl rfl rfl rfl rfl rfl ?_
        | refine r_range tab_ok rfl rfl rfl rfl rfl rfl rfl ?_
        | refine r_next rfl rfl rfl rfl (by assumption) rfl rfl rfl ?_
        | refine r_next_end rfl rfl rfl rfl (by assumption) rfl rfl rfl ?_
        | refine r_nilck rfl rfl rfl rfl rfl rfl rfl ?_
        | refine r_rstr tab_ok rfl rfl rfl rfl rfl rfl rfl rfl ?_
        | refine r_rsstr tab_ok rfl rfl rfl rfl rfl rfl rfl rfl rfl rfl ?_
        | refine r_bstr' tab_ok rfl rfl rfl rfl rfl rfl rfl rfl rfl ?_
        | refine r_rowstr tab_ok rfl rfl rfl rfl rfl rfl rfl rfl rfl rfl ?_
        | refine r_strd tab_ok rfl rfl rfl rfl rfl rfl (by omega) rfl rfl rfl ?_
        | refine r_idxr tab_ok rfl rfl rfl rfl rfl rfl rfl rfl (by first | exact ⟨by omega, by omega⟩ | (simp; omega)) rfl ?_
        | refine r_lde tab_ok rfl rfl rfl rfl rfl (by omega) rfl rfl rfl rfl ?_
        | refine r_idxr_cnd tab_ok rfl rfl rfl rfl rfl rfl rfl rfl (by first | exact fun _ => rfl | exact cs1 | exact cs2) rfl rfl (by first | (intro _; exact ⟨by omega, by omega⟩) | (intro h; simp at h ⊢; omega)) rfl ?_
        | refine r_lde_cnd tab_ok rfl rfl rfl rfl rfl rfl rfl (by first | exact fun _ => rfl | exact cs1 | exact cs2) (by omega) rfl rfl rfl rfl ?_
        | refine r_cut tab_ok rfl rfl rfl rfl rfl rfl rfl rfl (by first | exact ⟨by simp, by simp; omega, by simp⟩ | (simp; omega)) rfl ?_
        | refine r_append tab_ok rfl rfl rfl rfl rfl rfl rfl rfl rfl (by first | omega | (simp; omega)) rfl ?_
        | refine r_append_nil tab_ok rfl rfl rfl rfl rfl rfl rfl rfl (by first | omega | (simp; omega)) rfl ?_)
      | refine ret1 (by first | exact .inl rfl | exact .inr rfl) rfl rfl rfl ?_
      | refine ret1_row (by first | exact .inl rfl | exact .inr rfl) rfl rfl rfl ?_
      | refine ret2 (by first | exact .inl rfl | exact .inr rfl) rfl rfl rfl rfl ?_ ?_
      | refine retM1 (by first | exact .inl rfl | exact .inr rfl) rfl rfl rfl rfl rfl ?_
      | exact retM0 (by first | exact .inl rfl | exact .inr rfl) rfl rfl rfl
      | refine awp_cond_t rfl ?_
      | refine awp_cond_f rfl ?_)
    exact Sub.refl _
theorem read13 (b : List UInt8) (hb : b.length ≤ 17592186044416) : PCalls Try.prog 13 [.sl 1 (b.map bD)] (.sl 1 ((readL ⟨b.toArray⟩).map rD)) := by
  refine p_start Try.func13 Try.ntmps13 rfl rfl rfl fun S w => ?_
  have hs : (⟨b.toArray⟩ : ByteArray).size ≤ 17592186044416 := by simpa [ByteArray.size] using hb
  generalize hsd : (⟨b.toArray⟩ : ByteArray) = s at hs
  repeat (first
    | refine awp_seq ?_
    | refine thenA_normal ?_
    | refine awp_block ?_
    | refine a_region ?_
    | refine a_draw1 mixed_ok (by kernel_rfl) ?_
    | refine awp_ret ?_
    | refine awp_exit ?_
    | refine thenA_exit ?_
    | refine thenA_ret ?_
    | refine blockA_normal ?_
    | refine blockA_ret ?_
    | refine blockA_hit rfl ?_
    | refine blockA_miss rfl ?_
    | refine awp_skip ?_
    | refine r_done ?_
    | refine r_done' ?_
    | (refine r_id ?_; first
      | refine r_len tab_ok rfl rfl rfl rfl rfl rfl rfl ?_
      | refine r_ev tab_ok rfl rfl rfl rfl (by first | exact trivial | exact ⟨by omega, by omega⟩ | omega | exact ⟨by omega, by omega, by omega, by omega⟩ | exact Nat.le_of_ble_eq_true rfl) rfl ?_
      | refine r_ld tab_ok rfl rfl rfl rfl rfl ?_
      | refine r_idx tab_ok rfl rfl rfl rfl rfl rfl rfl (by first | exact ⟨by omega, by omega⟩ | (simp; omega)) rfl rfl ?_
      | refine r_idxd tab_ok rfl rfl rfl rfl rfl rfl rfl (by decide) rfl rfl rfl ?_
      | refine r_wr tab_ok rfl rfl rfl rfl rfl ?_
      | refine r_st tab_ok rfl rfl rfl rfl ?_
      | refine r_len_cnd tab_ok rfl rfl rfl rfl rfl rfl (by first | exact fun _ => rfl | exact cs1) rfl rfl rfl ?_
      | refine r_ev_cnd tab_ok rfl rfl rfl rfl rfl rfl (by first | exact fun _ => rfl | exact cs1 | exact cs2 | exact cs3) (by first | exact fun _ => trivial | (intro h; simp at h; first | exact ⟨by omega, by omega⟩ | omega)) rfl ?_
      | refine r_ld_cnd tab_ok rfl rfl rfl rfl rfl rfl (by first | exact fun _ => rfl | exact cs1 | exact cs2 | exact cs3) rfl ?_
      | refine r_idx_cnd tab_ok rfl rfl rfl rfl rfl rfl rfl (by first | exact fun _ => rfl | exact cs1 | exact cs2) rfl rfl (by exact ⟨by omega, by omega⟩) rfl rfl ?_
      | refine r_idx_cnd' tab_ok rfl rfl rfl rfl rfl rfl rfl (by first | exact fun _ => rfl | exact cs1 | exact cs2) rfl rfl (by intro h; simp at h; exact ⟨by omega, by omega⟩) rfl rfl ?_
      | refine r_and_cnd rfl rfl rfl rfl rfl rfl rfl rfl rfl rfl ?_
      | refine r_or_cnd rfl rfl rfl rfl rfl rfl rfl rfl rfl rfl ?_
      | refine r_or rfl rfl rfl rfl rfl rfl rfl rfl ?_
      | refine r_and rfl rfl rfl rfl rfl rfl rfl rfl ?_
      | refine r_pick_t rfl rfl rfl rfl rfl rfl rfl ?_
      | refine r_pick_f rfl rfl rfl rfl rfl rfl rfl ?_
      | refine r_off rfl rfl rfl rfl rfl rfl ?_
      | refine r_len_on tab_ok rfl rfl rfl rfl rfl rfl rfl rfl rfl ?_
      | refine r_ev_on tab_ok rfl rfl rfl rfl rfl rfl (by first | exact trivial | exact ⟨by omega, by omega⟩ | omega) rfl ?_
      | refine r_ld_on tab_ok rfl rfl rfl rfl rfl rfl rfl ?_
      | refine r_build tab_ok rfl rfl rfl rfl rfl rfl ?_
      | refine r_bstr tab_ok rfl rfl rfl rfl rfl rfl rfl rfl rfl rfl ?_
      | refine r_build_cnd tab_ok rfl rfl rfl rfl rfl (by first | exact fun _ => rfl | exact cs1) rfl rfl rfl ?_
      | refine r_built_cnd tab_ok rfl rfl rfl rfl rfl rfl rfl rfl (by first | exact fun _ => rfl | exact cs1) rfl rfl rfl ?_
      | refine r_rem rfl rfl rfl rfl rfl rfl (by omega) rfl ?_
      | refine r_built0 tab_ok rfl rfl rfl rfl rfl rfl rfl ?_
      | refine r_built tab_ok rfl rfl rfl rfl rfl rfl rfl rfl rfl ?_
      | refine r_range tab_ok rfl rfl rfl rfl rfl rfl rfl ?_
      | refine r_next rfl rfl rfl rfl (by assumption) rfl rfl rfl ?_
      | refine r_next_end rfl rfl rfl rfl (by assumption) rfl rfl rfl ?_
      | refine r_nilck rfl rfl rfl rfl rfl rfl rfl ?_
      | refine r_rstr tab_ok rfl rfl rfl rfl rfl rfl rfl rfl ?_
      | refine r_rsstr tab_ok rfl rfl rfl rfl rfl rfl rfl rfl rfl rfl ?_
      | refine r_bstr' tab_ok rfl rfl rfl rfl rfl rfl rfl rfl rfl ?_
      | refine r_rowstr tab_ok rfl rfl rfl rfl rfl rfl rfl rfl rfl rfl ?_
      | refine r_strd tab_ok rfl rfl rfl rfl rfl rfl (by omega) rfl rfl rfl ?_
      | refine r_idxr tab_ok rfl rfl rfl rfl rfl rfl rfl rfl (by first | exact ⟨by omega, by omega⟩ | (simp; omega)) rfl ?_
      | refine r_lde tab_ok rfl rfl rfl rfl rfl (by omega) rfl rfl rfl rfl ?_
      | refine r_idxr_cnd tab_ok rfl rfl rfl rfl rfl rfl rfl rfl (by first | exact fun _ => rfl | exact cs1 | exact cs2) rfl rfl (by first | (intro _; exact ⟨by omega, by omega⟩) | (intro h; simp at h ⊢; omega)) rfl ?_
      | refine r_lde_cnd tab_ok rfl rfl rfl rfl rfl rfl rfl (by first | exact fun _ => rfl | exact cs1 | exact cs2) (by omega) rfl rfl rfl rfl ?_
      | refine r_cut tab_ok rfl rfl rfl rfl rfl rfl rfl rfl (by first | exact ⟨by simp, by simp; omega, by simp⟩ | (simp; omega)) rfl ?_
      | refine r_append tab_ok rfl rfl rfl rfl rfl rfl rfl rfl rfl (by first | omega | (simp; omega)) rfl ?_
      | refine r_append_nil tab_ok rfl rfl rfl rfl rfl rfl rfl rfl (by first | omega | (simp; omega)) rfl ?_)
    | refine ret1 (by first | exact .inl rfl | exact .inr rfl) rfl rfl rfl ?_
    | refine ret1_row (by first | exact .inl rfl | exact .inr rfl) rfl rfl rfl ?_
    | refine ret2 (by first | exact .inl rfl | exact .inr rfl) rfl rfl rfl rfl ?_ ?_
    | refine retM1 (by first | exact .inl rfl | exact .inr rfl) rfl rfl rfl rfl rfl ?_
    | exact retM0 (by first | exact .inl rfl | exact .inr rfl) rfl rfl rfl
    | refine awp_cond_t rfl ?_
    | refine awp_cond_f rfl ?_)
  rw [hsd]
  repeat (first
    | refine awp_seq ?_
    | refine thenA_normal ?_
    | refine awp_block ?_
    | refine a_region ?_
    | refine a_draw1 mixed_ok (by kernel_rfl) ?_
    | refine awp_ret ?_
    | refine awp_exit ?_
    | refine thenA_exit ?_
    | refine thenA_ret ?_
    | refine blockA_normal ?_
    | refine blockA_ret ?_
    | refine blockA_hit rfl ?_
    | refine blockA_miss rfl ?_
    | refine awp_skip ?_
    | refine r_done ?_
    | refine r_done' ?_
    | (refine r_id ?_; first
      | refine r_len tab_ok rfl rfl rfl rfl rfl rfl rfl ?_
      | refine r_ev tab_ok rfl rfl rfl rfl (by first | exact trivial | exact ⟨by omega, by omega⟩ | omega | exact ⟨by omega, by omega, by omega, by omega⟩ | exact Nat.le_of_ble_eq_true rfl) rfl ?_
      | refine r_ld tab_ok rfl rfl rfl rfl rfl ?_
      | refine r_idx tab_ok rfl rfl rfl rfl rfl rfl rfl (by first | exact ⟨by omega, by omega⟩ | (simp; omega)) rfl rfl ?_
      | refine r_idxd tab_ok rfl rfl rfl rfl rfl rfl rfl (by decide) rfl rfl rfl ?_
      | refine r_wr tab_ok rfl rfl rfl rfl rfl ?_
      | refine r_st tab_ok rfl rfl rfl rfl ?_
      | refine r_len_cnd tab_ok rfl rfl rfl rfl rfl rfl (by first | exact fun _ => rfl | exact cs1) rfl rfl rfl ?_
      | refine r_ev_cnd tab_ok rfl rfl rfl rfl rfl rfl (by first | exact fun _ => rfl | exact cs1 | exact cs2 | exact cs3) (by first | exact fun _ => trivial | (intro h; simp at h; first | exact ⟨by omega, by omega⟩ | omega)) rfl ?_
      | refine r_ld_cnd tab_ok rfl rfl rfl rfl rfl rfl (by first | exact fun _ => rfl | exact cs1 | exact cs2 | exact cs3) rfl ?_
      | refine r_idx_cnd tab_ok rfl rfl rfl rfl rfl rfl rfl (by first | exact fun _ => rfl | exact cs1 | exact cs2) rfl rfl (by exact ⟨by omega, by omega⟩) rfl rfl ?_
      | refine r_idx_cnd' tab_ok rfl rfl rfl rfl rfl rfl rfl (by first | exact fun _ => rfl | exact cs1 | exact cs2) rfl rfl (by intro h; simp at h; exact ⟨by omega, by omega⟩) rfl rfl ?_
      | refine r_and_cnd rfl rfl rfl rfl rfl rfl rfl rfl rfl rfl ?_
      | refine r_or_cnd rfl rfl rfl rfl rfl rfl rfl rfl rfl rfl ?_
      | refine r_or rfl rfl rfl rfl rfl rfl rfl rfl ?_
      | refine r_and rfl rfl rfl rfl rfl rfl rfl rfl ?_
      | refine r_pick_t rfl rfl rfl rfl rfl rfl rfl ?_
      | refine r_pick_f rfl rfl rfl rfl rfl rfl rfl ?_
      | refine r_off rfl rfl rfl rfl rfl rfl ?_
      | refine r_len_on tab_ok rfl rfl rfl rfl rfl rfl rfl rfl rfl ?_
      | refine r_ev_on tab_ok rfl rfl rfl rfl rfl rfl (by first | exact trivial | exact ⟨by omega, by omega⟩ | omega) rfl ?_
      | refine r_ld_on tab_ok rfl rfl rfl rfl rfl rfl rfl ?_
      | refine r_build tab_ok rfl rfl rfl rfl rfl rfl ?_
      | refine r_bstr tab_ok rfl rfl rfl rfl rfl rfl rfl rfl rfl rfl ?_
      | refine r_build_cnd tab_ok rfl rfl rfl rfl rfl (by first | exact fun _ => rfl | exact cs1) rfl rfl rfl ?_
      | refine r_built_cnd tab_ok rfl rfl rfl rfl rfl rfl rfl rfl (by first | exact fun _ => rfl | exact cs1) rfl rfl rfl ?_
      | refine r_rem rfl rfl rfl rfl rfl rfl (by omega) rfl ?_
      | refine r_built0 tab_ok rfl rfl rfl rfl rfl rfl rfl ?_
      | refine r_built tab_ok rfl rfl rfl rfl rfl rfl rfl rfl rfl ?_
      | refine r_range tab_ok rfl rfl rfl rfl rfl rfl rfl ?_
      | refine r_next rfl rfl rfl rfl (by assumption) rfl rfl rfl ?_
      | refine r_next_end rfl rfl rfl rfl (by assumption) rfl rfl rfl ?_
      | refine r_nilck rfl rfl rfl rfl rfl rfl rfl ?_
      | refine r_rstr tab_ok rfl rfl rfl rfl rfl rfl rfl rfl ?_
      | refine r_rsstr tab_ok rfl rfl rfl rfl rfl rfl rfl rfl rfl rfl ?_
      | refine r_bstr' tab_ok rfl rfl rfl rfl rfl rfl rfl rfl rfl ?_
      | refine r_rowstr tab_ok rfl rfl rfl rfl rfl rfl rfl rfl rfl rfl ?_
      | refine r_strd tab_ok rfl rfl rfl rfl rfl rfl (by omega) rfl rfl rfl ?_
      | refine r_idxr tab_ok rfl rfl rfl rfl rfl rfl rfl rfl (by first | exact ⟨by omega, by omega⟩ | (simp; omega)) rfl ?_
      | refine r_lde tab_ok rfl rfl rfl rfl rfl (by omega) rfl rfl rfl rfl ?_
      | refine r_idxr_cnd tab_ok rfl rfl rfl rfl rfl rfl rfl rfl (by first | exact fun _ => rfl | exact cs1 | exact cs2) rfl rfl (by first | (intro _; exact ⟨by omega, by omega⟩) | (intro h; simp at h ⊢; omega)) rfl ?_
      | refine r_lde_cnd tab_ok rfl rfl rfl rfl rfl rfl rfl (by first | exact fun _ => rfl | exact cs1 | exact cs2) (by omega) rfl rfl rfl rfl ?_
      | refine r_cut tab_ok rfl rfl rfl rfl rfl rfl rfl rfl (by first | exact ⟨by simp, by simp; omega, by simp⟩ | (simp; omega)) rfl ?_
      | refine r_append tab_ok rfl rfl rfl rfl rfl rfl rfl rfl rfl (by first | omega | (simp; omega)) rfl ?_
      | refine r_append_nil tab_ok rfl rfl rfl rfl rfl rfl rfl rfl (by first | omega | (simp; omega)) rfl ?_)
    | refine ret1 (by first | exact .inl rfl | exact .inr rfl) rfl rfl rfl ?_
    | refine ret1_row (by first | exact .inl rfl | exact .inr rfl) rfl rfl rfl ?_
    | refine ret2 (by first | exact .inl rfl | exact .inr rfl) rfl rfl rfl rfl ?_ ?_
    | refine retM1 (by first | exact .inl rfl | exact .inr rfl) rfl rfl rfl rfl rfl ?_
    | exact retM0 (by first | exact .inl rfl | exact .inr rfl) rfl rfl rfl
    | refine awp_cond_t rfl ?_
    | refine awp_cond_f rfl ?_)
  refine a_loop (σ := RS s) (fun x => [.iter s x.pos, .row 0 21 1 (x.out.map rD)]) (fun x => [(3, .row 1 0), (4, .val (.bool (decide (x.pos = 0)))), (5, .val (.bool x.cr)), (10, .ptr 0 0)]) (fun x => s.size - x.pos) ⟨0, false, [], rfl, fun _ => rfl⟩ (fits_conv (by repeat' first | exact trivial | exact rfl | (rw [List.map_append]; first | done | rfl) | exact c_sub rfl (Sub.refl _) rfl | exact c_nil rfl rfl | exact c_thaw rfl rfl rfl | exact c_row rfl rfl rfl | exact c_row rfl rfl (by rw [List.map_append]; first | done | rfl) | exact c_ptr rfl rfl rfl rfl | exact Or.inl ⟨c_sub rfl (Sub.refl _) rfl, c_ptr rfl rfl rfl rfl⟩ | exact c_alt rfl rfl rfl rfl | exact c_sub rfl (Sub.altl _ _) rfl | refine ⟨_, _, rfl, ?_, ?_⟩ | apply And.intro) (by repeat' first | exact trivial | exact rfl | (rw [List.map_append]; first | done | rfl) | exact c_sub rfl (Sub.refl _) rfl | exact c_nil rfl rfl | exact c_thaw rfl rfl rfl | exact c_row rfl rfl rfl | exact c_row rfl rfl (by rw [List.map_append]; first | done | rfl) | exact c_ptr rfl rfl rfl rfl | exact Or.inl ⟨c_sub rfl (Sub.refl _) rfl, c_ptr rfl rfl rfl rfl⟩ | exact c_alt rfl rfl rfl rfl | exact c_sub rfl (Sub.altl _ _) rfl | refine ⟨_, _, rfl, ?_, ?_⟩ | apply And.intro)) ?_
  intro x
  have hxl := x.len
  obtain ⟨pos, cr, out, hle, hc0⟩ := x
  dsimp only at hxl ⊢
  by_cases hp : pos < s.size
  · have hst := rdAt_step (cr := cr) hp
    have hd1 := decode_one s pos hp
    repeat (first
      | refine awp_seq ?_
      | refine thenA_normal ?_
      | refine awp_block ?_
      | refine a_region ?_
      | refine a_draw1 mixed_ok (by kernel_rfl) ?_
      | refine awp_ret ?_
      | refine awp_exit ?_
      | refine thenA_exit ?_
      | refine thenA_ret ?_
      | refine blockA_normal ?_
      | refine blockA_ret ?_
      | refine blockA_hit rfl ?_
      | refine blockA_miss rfl ?_
      | refine awp_skip ?_
      | refine r_done ?_
      | refine r_done' ?_
      | (refine r_id ?_; first
        | refine r_len tab_ok rfl rfl rfl rfl rfl rfl rfl ?_
        | refine r_ev tab_ok rfl rfl rfl rfl (by first | exact trivial | exact ⟨by omega, by omega⟩ | omega | exact ⟨by omega, by omega, by omega, by omega⟩ | exact Nat.le_of_ble_eq_true rfl) rfl ?_
        | refine r_ld tab_ok rfl rfl rfl rfl rfl ?_
        | refine r_idx tab_ok rfl rfl rfl rfl rfl rfl rfl (by first | exact ⟨by omega, by omega⟩ | (simp; omega)) rfl rfl ?_
        | refine r_idxd tab_ok rfl rfl rfl rfl rfl rfl rfl (by decide) rfl rfl rfl ?_
        | refine r_wr tab_ok rfl rfl rfl rfl rfl ?_
        | refine r_st tab_ok rfl rfl rfl rfl ?_
        | refine r_len_cnd tab_ok rfl rfl rfl rfl rfl rfl (by first | exact fun _ => rfl | exact cs1) rfl rfl rfl ?_
        | refine r_ev_cnd tab_ok rfl rfl rfl rfl rfl rfl (by first | exact fun _ => rfl | exact cs1 | exact cs2 | exact cs3) (by first | exact fun _ => trivial | (intro h; simp at h; first | exact ⟨by omega, by omega⟩ | omega)) rfl ?_
        | refine r_ld_cnd tab_ok rfl rfl rfl rfl rfl rfl (by first | exact fun _ => rfl | exact cs1 | exact cs2 | exact cs3) rfl ?_
        | refine r_idx_cnd tab_ok rfl rfl rfl rfl rfl rfl rfl (by first | exact fun _ => rfl | exact cs1 | exact cs2) rfl rfl (by exact ⟨by omega, by omega⟩) rfl rfl ?_
        | refine r_idx_cnd' tab_ok rfl rfl rfl rfl rfl rfl rfl (by first | exact fun _ => rfl | exact cs1 | exact cs2) rfl rfl (by intro h; simp at h; exact ⟨by omega, by omega⟩) rfl rfl ?_
        | refine r_and_cnd rfl rfl rfl rfl rfl rfl rfl rfl rfl rfl ?_
        | refine r_or_cnd rfl rfl rfl rfl rfl rfl rfl rfl rfl rfl ?_
        | refine r_or rfl rfl rfl rfl rfl rfl rfl rfl ?_
        | refine r_and rfl rfl rfl rfl rfl rfl rfl rfl ?_
        | refine r_pick_t rfl rfl rfl rfl rfl rfl rfl ?_
        | refine r_pick_f rfl rfl rfl rfl rfl rfl rfl ?_
        | refine r_off rfl rfl rfl rfl rfl rfl ?_
        | refine r_len_on tab_ok rfl rfl rfl rfl rfl rfl rfl rfl rfl ?_
        | refine r_ev_on tab_ok rfl rfl rfl rfl rfl rfl (by first | exact trivial | exact ⟨by omega, by omega⟩ | omega) rfl ?_
        | refine r_ld_on tab_ok rfl rfl rfl rfl rfl rfl rfl ?_
        | refine r_build tab_ok rfl rfl rfl rfl rfl rfl ?_
        | refine r_bstr tab_ok rfl rfl rfl rfl rfl rfl rfl rfl rfl rfl ?_
        | refine r_build_cnd tab_ok rfl rfl rfl rfl rfl (by first | exact fun _ => rfl | exact cs1) rfl rfl rfl ?_
        | refine r_built_cnd tab_ok rfl rfl rfl rfl rfl rfl rfl rfl (by first | exact fun _ => rfl | exact cs1) rfl rfl rfl ?_
        | refine r_rem rfl rfl rfl rfl rfl rfl (by omega) rfl ?_
        | refine r_built0 tab_ok rfl rfl rfl rfl rfl rfl rfl ?_
        | refine r_built tab_ok rfl rfl rfl rfl rfl rfl rfl rfl rfl ?_
        | refine r_range tab_ok rfl rfl rfl rfl rfl rfl rfl ?_
        | refine r_next rfl rfl rfl rfl (by assumption) rfl rfl rfl ?_
        | refine r_next_end rfl rfl rfl rfl (by assumption) rfl rfl rfl ?_
        | refine r_nilck rfl rfl rfl rfl rfl rfl rfl ?_
        | refine r_rstr tab_ok rfl rfl rfl rfl rfl rfl rfl rfl ?_
        | refine r_rsstr tab_ok rfl rfl rfl rfl rfl rfl rfl rfl rfl rfl ?_
        | refine r_bstr' tab_ok rfl rfl rfl rfl rfl rfl rfl rfl rfl ?_
        | refine r_rowstr tab_ok rfl rfl rfl rfl rfl rfl rfl rfl rfl rfl ?_
        | refine r_strd tab_ok rfl rfl rfl rfl rfl rfl (by omega) rfl rfl rfl ?_
        | refine r_idxr tab_ok rfl rfl rfl rfl rfl rfl rfl rfl (by first | exact ⟨by omega, by omega⟩ | (simp; omega)) rfl ?_
        | refine r_lde tab_ok rfl rfl rfl rfl rfl (by omega) rfl rfl rfl rfl ?_
        | refine r_idxr_cnd tab_ok rfl rfl rfl rfl rfl rfl rfl rfl (by first | exact fun _ => rfl | exact cs1 | exact cs2) rfl rfl (by first | (intro _; exact ⟨by omega, by omega⟩) | (intro h; simp at h ⊢; omega)) rfl ?_
        | refine r_lde_cnd tab_ok rfl rfl rfl rfl rfl rfl rfl (by first | exact fun _ => rfl | exact cs1 | exact cs2) (by omega) rfl rfl rfl rfl ?_
        | refine r_cut tab_ok rfl rfl rfl rfl rfl rfl rfl rfl (by first | exact ⟨by simp, by simp; omega, by simp⟩ | (simp; omega)) rfl ?_
        | refine r_append tab_ok rfl rfl rfl rfl rfl rfl rfl rfl rfl (by first | omega | (simp; omega)) rfl ?_
        | refine r_append_nil tab_ok rfl rfl rfl rfl rfl rfl rfl rfl (by first | omega | (simp; omega)) rfl ?_)
      | refine ret1 (by first | exact .inl rfl | exact .inr rfl) rfl rfl rfl ?_
      | refine ret1_row (by first | exact .inl rfl | exact .inr rfl) rfl rfl rfl ?_
      | refine ret2 (by first | exact .inl rfl | exact .inr rfl) rfl rfl rfl rfl ?_ ?_
      | refine retM1 (by first | exact .inl rfl | exact .inr rfl) rfl rfl rfl rfl rfl ?_
      | exact retM0 (by first | exact .inl rfl | exact .inr rfl) rfl rfl rfl
      | refine awp_cond_t rfl ?_
      | refine awp_cond_f rfl ?_)
    generalize hr : ((Utf8.decode s pos).1 : Int) = r at hst ⊢
    generalize hq : pos + (Utf8.decode s pos).2 = q at hst ⊢
    have hq' : pos < q := by omega
    have hq0 : decide (q = 0) = false := by rw [decide_eq_false_iff_not]; omega
    refine awp_cond rfl (fun h1 => ?_) (fun h1 => ?_)
    · simp at h1
      rw [if_pos (.inl h1)] at hst
      have h13 : decide (r = 13) = false := by rw [decide_eq_false_iff_not]; omega
      rw [h13] at hst
      repeat (first
        | refine awp_seq ?_
        | refine thenA_normal ?_
        | refine awp_block ?_
        | refine a_region ?_
        | refine a_draw1 mixed_ok (by kernel_rfl) ?_
        | refine awp_ret ?_
        | refine awp_exit ?_
        | refine thenA_exit ?_
        | refine thenA_ret ?_
        | refine blockA_normal ?_
        | refine blockA_ret ?_
        | refine blockA_hit rfl ?_
        | refine blockA_miss rfl ?_
        | refine awp_skip ?_
        | refine r_done ?_
        | refine r_done' ?_
        | (refine r_id ?_; first
          | refine r_len tab_ok rfl rfl rfl rfl rfl rfl rfl ?_
          | refine r_ev tab_ok rfl rfl rfl rfl (by first | exact trivial | exact ⟨by omega, by omega⟩ | omega | exact ⟨by omega, by omega, by omega, by omega⟩ | exact Nat.le_of_ble_eq_true rfl) rfl ?_
          | refine r_ld tab_ok rfl rfl rfl rfl rfl ?_
          | refine r_idx tab_ok rfl rfl rfl rfl rfl rfl rfl (by first | exact ⟨by omega, by omega⟩ | (simp; omega)) rfl rfl ?_
          | refine r_idxd tab_ok rfl rfl rfl rfl rfl rfl rfl (by decide) rfl rfl rfl ?_
          | refine r_wr tab_ok rfl rfl rfl rfl rfl ?_
          | refine r_st tab_ok rfl rfl rfl rfl ?_
          | refine r_len_cnd tab_ok rfl rfl rfl rfl rfl rfl (by first | exact fun _ => rfl | exact cs1) rfl rfl rfl ?_
          | refine r_ev_cnd tab_ok rfl rfl rfl rfl rfl rfl (by first | exact fun _ => rfl | exact cs1 | exact cs2 | exact cs3) (by first | exact fun _ => trivial | (intro h; simp at h; first | exact ⟨by omega, by omega⟩ | omega)) rfl ?_
          | refine r_ld_cnd tab_ok rfl rfl rfl rfl rfl rfl (by first | exact fun _ => rfl | exact cs1 | exact cs2 | exact cs3) rfl ?_
          | refine r_idx_cnd tab_ok rfl rfl rfl rfl rfl rfl rfl (by first | exact fun _ => rfl | exact cs1 | exact cs2) rfl rfl (by exact ⟨by omega, by omega⟩) rfl rfl ?_
          | refine r_idx_cnd' tab_ok rfl rfl rfl rfl rfl rfl rfl (by first | exact fun _ => rfl | exact cs1 | exact cs2) rfl rfl (by intro h; simp at h; exact ⟨by omega, by omega⟩) rfl rfl ?_
          | refine r_and_cnd rfl rfl rfl rfl rfl rfl rfl rfl rfl rfl ?_
          | refine r_or_cnd rfl rfl rfl rfl rfl rfl rfl rfl rfl rfl ?_
          | refine r_or rfl rfl rfl rfl rfl rfl rfl rfl ?_
          | refine r_and rfl rfl rfl rfl rfl rfl rfl rfl ?_
          | refine r_pick_t rfl rfl rfl rfl rfl rfl rfl ?_
          | refine r_pick_f rfl rfl rfl rfl rfl rfl rfl ?_
          | refine r_off rfl rfl rfl rfl rfl rfl ?_
          | refine r_len_on tab_ok rfl rfl rfl rfl rfl rfl rfl rfl rfl ?_
          | refine r_ev_on tab_ok rfl rfl rfl rfl rfl rfl (by first | exact trivial | exact ⟨by omega, by omega⟩ | omega) rfl ?_
          | refine r_ld_on tab_ok rfl rfl rfl rfl rfl rfl rfl ?_
          | refine r_build tab_ok rfl rfl rfl rfl rfl rfl ?_
          | refine r_bstr tab_ok rfl rfl rfl rfl rfl rfl rfl rfl rfl rfl ?_
          | refine r_build_cnd tab_ok rfl rfl rfl rfl rfl (by first | exact fun _ => rfl | exact cs1) rfl rfl rfl ?_
          | refine r_built_cnd tab_ok rfl rfl rfl rfl rfl rfl rfl rfl (by first | exact fun _ => rfl | exact cs1) rfl rfl rfl ?_
          | refine r_rem rfl rfl rfl rfl rfl rfl (by omega) rfl ?_
          | refine r_built0 tab_ok rfl rfl rfl rfl rfl rfl rfl ?_
          | refine r_built tab_ok rfl rfl rfl rfl rfl rfl rfl rfl rfl ?_
          | refine r_range tab_ok rfl rfl rfl rfl rfl rfl rfl ?_
          | refine r_next rfl rfl rfl rfl (by assumption) rfl rfl rfl ?_
          | refine r_next_end rfl rfl rfl rfl (by assumption) rfl rfl rfl ?_
          | refine r_nilck rfl rfl rfl rfl rfl rfl rfl ?_
          | refine r_rstr tab_ok rfl rfl rfl rfl rfl rfl rfl rfl ?_
          | refine r_rsstr tab_ok rfl rfl rfl rfl rfl rfl rfl rfl rfl rfl ?_
          | refine r_bstr' tab_ok rfl rfl rfl rfl rfl rfl rfl rfl rfl ?_
          | refine r_rowstr tab_ok rfl rfl rfl rfl rfl rfl rfl rfl rfl rfl ?_
          | refine r_strd tab_ok rfl rfl rfl rfl rfl rfl (by omega) rfl rfl rfl ?_
          | refine r_idxr tab_ok rfl rfl rfl rfl rfl rfl rfl rfl (by first | exact ⟨by omega, by omega⟩ | (simp; omega)) rfl ?_
          | refine r_lde tab_ok rfl rfl rfl rfl rfl (by omega) rfl rfl rfl rfl ?_
          | refine r_idxr_cnd tab_ok rfl rfl rfl rfl rfl rfl rfl rfl (by first | exact fun _ => rfl | exact cs1 | exact cs2) rfl rfl (by first | (intro _; exact ⟨by omega, by omega⟩) | (intro h; simp at h ⊢; omega)) rfl ?_
          | refine r_lde_cnd tab_ok rfl rfl rfl rfl rfl rfl rfl (by first | exact fun _ => rfl | exact cs1 | exact cs2) (by omega) rfl rfl rfl rfl ?_
          | refine r_cut tab_ok rfl rfl rfl rfl rfl rfl rfl rfl (by first | exact ⟨by simp, by simp; omega, by simp⟩ | (simp; omega)) rfl ?_
          | refine r_append tab_ok rfl rfl rfl rfl rfl rfl rfl rfl rfl (by first | omega | (simp; omega)) rfl ?_
          | refine r_append_nil tab_ok rfl rfl rfl rfl rfl rfl rfl rfl (by first | omega | (simp; omega)) rfl ?_)
        | refine ret1 (by first | exact .inl rfl | exact .inr rfl) rfl rfl rfl ?_
        | refine ret1_row (by first | exact .inl rfl | exact .inr rfl) rfl rfl rfl ?_
        | refine ret2 (by first | exact .inl rfl | exact .inr rfl) rfl rfl rfl rfl ?_ ?_
        | refine retM1 (by first | exact .inl rfl | exact .inr rfl) rfl rfl rfl rfl rfl ?_
        | exact retM0 (by first | exact .inl rfl | exact .inr rfl) rfl rfl rfl
        | refine awp_cond_t rfl ?_
        | refine awp_cond_f rfl ?_)
      refine ⟨⟨q, cr, out, by rw [← hle, hst, hc0 h1.1]; simp, fun _ => hc0 h1.1⟩, by dsimp only; omega, ?_⟩
      dsimp only
      rw [hq0]
      exact fits_conv (by repeat' first | exact trivial | exact rfl | (rw [List.map_append]; first | done | rfl) | exact c_sub rfl (Sub.refl _) rfl | exact c_nil rfl rfl | exact c_thaw rfl rfl rfl | exact c_row rfl rfl rfl | exact c_row rfl rfl (by rw [List.map_append]; first | done | rfl) | exact c_ptr rfl rfl rfl rfl | exact Or.inl ⟨c_sub rfl (Sub.refl _) rfl, c_ptr rfl rfl rfl rfl⟩ | exact c_alt rfl rfl rfl rfl | exact c_sub rfl (Sub.altl _ _) rfl | refine ⟨_, _, rfl, ?_, ?_⟩ | apply And.intro) (by repeat' first | exact trivial | exact rfl | (rw [List.map_append]; first | done | rfl) | exact c_sub rfl (Sub.refl _) rfl | exact c_nil rfl rfl | exact c_thaw rfl rfl rfl | exact c_row rfl rfl rfl | exact c_row rfl rfl (by rw [List.map_append]; first | done | rfl) | exact c_ptr rfl rfl rfl rfl | exact Or.inl ⟨c_sub rfl (Sub.refl _) rfl, c_ptr rfl rfl rfl rfl⟩ | exact c_alt rfl rfl rfl rfl | exact c_sub rfl (Sub.altl _ _) rfl | refine ⟨_, _, rfl, ?_, ?_⟩ | apply And.intro)
    · simp at h1
      repeat (first
        | refine awp_seq ?_
        | refine thenA_normal ?_
        | refine awp_block ?_
        | refine a_region ?_
        | refine a_draw1 mixed_ok (by kernel_rfl) ?_
        | refine awp_ret ?_
        | refine awp_exit ?_
        | refine thenA_exit ?_
        | refine thenA_ret ?_
        | refine blockA_normal ?_
        | refine blockA_ret ?_
        | refine blockA_hit rfl ?_
        | refine blockA_miss rfl ?_
        | refine awp_skip ?_
        | refine r_done ?_
        | refine r_done' ?_
        | (refine r_id ?_; first
          | refine r_len tab_ok rfl rfl rfl rfl rfl rfl rfl ?_
          | refine r_ev tab_ok rfl rfl rfl rfl (by first | exact trivial | exact ⟨by omega, by omega⟩ | omega | exact ⟨by omega, by omega, by omega, by omega⟩ | exact Nat.le_of_ble_eq_true rfl) rfl ?_
          | refine r_ld tab_ok rfl rfl rfl rfl rfl ?_
          | refine r_idx tab_ok rfl rfl rfl rfl rfl rfl rfl (by first | exact ⟨by omega, by omega⟩ | (simp; omega)) rfl rfl ?_
          | refine r_idxd tab_ok rfl rfl rfl rfl rfl rfl rfl (by decide) rfl rfl rfl ?_
          | refine r_wr tab_ok rfl rfl rfl rfl rfl ?_
          | refine r_st tab_ok rfl rfl rfl rfl ?_
          | refine r_len_cnd tab_ok rfl rfl rfl rfl rfl rfl (by first | exact fun _ => rfl | exact cs1) rfl rfl rfl ?_
          | refine r_ev_cnd tab_ok rfl rfl rfl rfl rfl rfl (by first | exact fun _ => rfl | exact cs1 | exact cs2 | exact cs3) (by first | exact fun _ => trivial | (intro h; simp at h; first | exact ⟨by omega, by omega⟩ | omega)) rfl ?_
          | refine r_ld_cnd tab_ok rfl rfl rfl rfl rfl rfl (by first | exact fun _ => rfl | exact cs1 | exact cs2 | exact cs3) rfl ?_
          | refine r_idx_cnd tab_ok rfl rfl rfl rfl rfl rfl rfl (by first | exact fun _ => rfl | exact cs1 | exact cs2) rfl rfl (by exact ⟨by omega, by omega⟩) rfl rfl ?_
          | refine r_idx_cnd' tab_ok rfl rfl rfl rfl rfl rfl rfl (by first | exact fun _ => rfl | exact cs1 | exact cs2) rfl rfl (by intro h; simp at h; exact ⟨by omega, by omega⟩) rfl rfl ?_
          | refine r_and_cnd rfl rfl rfl rfl rfl rfl rfl rfl rfl rfl ?_
          | refine r_or_cnd rfl rfl rfl rfl rfl rfl rfl rfl rfl rfl ?_
          | refine r_or rfl rfl rfl rfl rfl rfl rfl rfl ?_
          | refine r_and rfl rfl rfl rfl rfl rfl rfl rfl ?_
          | refine r_pick_t rfl rfl rfl rfl rfl rfl rfl ?_
          | refine r_pick_f rfl rfl rfl rfl rfl rfl rfl ?_
          | refine r_off rfl rfl rfl rfl rfl rfl ?_
          | refine r_len_on tab_ok rfl rfl rfl rfl rfl rfl rfl rfl rfl ?_
          | refine r_ev_on tab_ok rfl rfl rfl rfl rfl rfl (by first | exact trivial | exact ⟨by omega, by omega⟩ | omega) rfl ?_
          | refine r_ld_on tab_ok rfl rfl rfl rfl rfl rfl rfl ?_
          | refine r_build tab_ok rfl rfl rfl rfl rfl rfl ?_
          | refine r_bstr tab_ok rfl rfl rfl rfl rfl rfl rfl rfl rfl rfl ?_
          | refine r_build_cnd tab_ok rfl rfl rfl rfl rfl (by first | exact fun _ => rfl | exact cs1) rfl rfl rfl ?_
          | refine r_built_cnd tab_ok rfl rfl rfl rfl rfl rfl rfl rfl (by first | exact fun _ => rfl | exact cs1) rfl rfl rfl ?_
          | refine r_rem rfl rfl rfl rfl rfl rfl (by omega) rfl ?_
          | refine r_built0 tab_ok rfl rfl rfl rfl rfl rfl rfl ?_
          | refine r_built tab_ok rfl rfl rfl rfl rfl rfl rfl rfl rfl ?_
          | refine r_range tab_ok rfl rfl rfl rfl rfl rfl rfl ?_
          | refine r_next rfl rfl rfl rfl (by assumption) rfl rfl rfl ?_
          | refine r_next_end rfl rfl rfl rfl (by assumption) rfl rfl rfl ?_
          | refine r_nilck rfl rfl rfl rfl rfl rfl rfl ?_
          | refine r_rstr tab_ok rfl rfl rfl rfl rfl rfl rfl rfl ?_
          | refine r_rsstr tab_ok rfl rfl rfl rfl rfl rfl rfl rfl rfl rfl ?_
          | refine r_bstr' tab_ok rfl rfl rfl rfl rfl rfl rfl rfl rfl ?_
          | refine r_rowstr tab_ok rfl rfl rfl rfl rfl rfl rfl rfl rfl rfl ?_
          | refine r_strd tab_ok rfl rfl rfl rfl rfl rfl (by omega) rfl rfl rfl ?_
          | refine r_idxr tab_ok rfl rfl rfl rfl rfl rfl rfl rfl (by first | exact ⟨by omega, by omega⟩ | (simp; omega)) rfl ?_
          | refine r_lde tab_ok rfl rfl rfl rfl rfl (by omega) rfl rfl rfl rfl ?_
          | refine r_idxr_cnd tab_ok rfl rfl rfl rfl rfl rfl rfl rfl (by first | exact fun _ => rfl | exact cs1 | exact cs2) rfl rfl (by first | (intro _; exact ⟨by omega, by omega⟩) | (intro h; simp at h ⊢; omega)) rfl ?_
          | refine r_lde_cnd tab_ok rfl rfl rfl rfl rfl rfl rfl (by first | exact fun _ => rfl | exact cs1 | exact cs2) (by omega) rfl rfl rfl rfl ?_
          | refine r_cut tab_ok rfl rfl rfl rfl rfl rfl rfl rfl (by first | exact ⟨by simp, by simp; omega, by simp⟩ | (simp; omega)) rfl ?_
          | refine r_append tab_ok rfl rfl rfl rfl rfl rfl rfl rfl rfl (by first | omega | (simp; omega)) rfl ?_
          | refine r_append_nil tab_ok rfl rfl rfl rfl rfl rfl rfl rfl (by first | omega | (simp; omega)) rfl ?_)
        | refine ret1 (by first | exact .inl rfl | exact .inr rfl) rfl rfl rfl ?_
        | refine ret1_row (by first | exact .inl rfl | exact .inr rfl) rfl rfl rfl ?_
        | refine ret2 (by first | exact .inl rfl | exact .inr rfl) rfl rfl rfl rfl ?_ ?_
        | refine retM1 (by first | exact .inl rfl | exact .inr rfl) rfl rfl rfl rfl rfl ?_
        | exact retM0 (by first | exact .inl rfl | exact .inr rfl) rfl rfl rfl
        | refine awp_cond_t rfl ?_
        | refine awp_cond_f rfl ?_)
      refine awp_cond rfl (fun h2 => ?_) (fun h2 => ?_)
      · have h2' : cr = true ∧ r = 10 := by simpa using h2
        rw [if_pos (.inr ⟨h2'.2, h2'.1⟩)] at hst
        have h13 : decide (r = 13) = false := by rw [decide_eq_false_iff_not]; omega
        rw [h13] at hst
        repeat (first
          | refine awp_seq ?_
          | refine thenA_normal ?_
          | refine awp_block ?_
          | refine a_region ?_
          | refine a_draw1 mixed_ok (by kernel_rfl) ?_
          | refine awp_ret ?_
          | refine awp_exit ?_
          | refine thenA_exit ?_
          | refine thenA_ret ?_
          | refine blockA_normal ?_
          | refine blockA_ret ?_
          | refine blockA_hit rfl ?_
          | refine blockA_miss rfl ?_
          | refine awp_skip ?_
          | refine r_done ?_
          | refine r_done' ?_
          | (refine r_id ?_; first
            | refine r_len tab_ok rfl rfl rfl rfl rfl rfl rfl ?_
            | refine r_ev tab_ok rfl rfl rfl rfl (by first | exact trivial | exact ⟨by omega, by omega⟩ | omega | exact ⟨by omega, by omega, by omega, by omega⟩ | exact Nat.le_of_ble_eq_true rfl) rfl ?_
            | refine r_ld tab_ok rfl rfl rfl rfl rfl ?_
            | refine r_idx tab_ok rfl rfl rfl rfl rfl rfl rfl (by first | exact ⟨by omega, by omega⟩ | (simp; omega)) rfl rfl ?_
            | refine r_idxd tab_ok rfl rfl rfl rfl rfl rfl rfl (by decide) rfl rfl rfl ?_
            | refine r_wr tab_ok rfl rfl rfl rfl rfl ?_
            | refine r_st tab_ok rfl rfl rfl rfl ?_
            | refine r_len_cnd tab_ok rfl rfl rfl rfl rfl rfl (by first | exact fun _ => rfl | exact cs1) rfl rfl rfl ?_
            | refine r_ev_cnd tab_ok rfl rfl rfl rfl rfl rfl (by first | exact fun _ => rfl | exact cs1 | exact cs2 | exact cs3) (by first | exact fun _ => trivial | (intro h; simp at h; first | exact ⟨by omega, by omega⟩ | omega)) rfl ?_
            | refine r_ld_cnd tab_ok rfl rfl rfl rfl rfl rfl (by first | exact fun _ => rfl | exact cs1 | exact cs2 | exact cs3) rfl ?_
            | refine r_idx_cnd tab_ok rfl rfl rfl rfl rfl rfl rfl (by first | exact fun _ => rfl | exact cs1 | exact cs2) rfl rfl (by exact ⟨by omega, by omega⟩) rfl rfl ?_
            | refine r_idx_cnd' tab_ok rfl rfl rfl rfl rfl rfl rfl (by first | exact fun _ => rfl | exact cs1 | exact cs2) rfl rfl (by intro h; simp at h; exact ⟨by omega, by omega⟩) rfl rfl ?_
            | refine r_and_cnd rfl rfl rfl rfl rfl rfl rfl rfl rfl rfl ?_
            | refine r_or_cnd rfl rfl rfl rfl rfl rfl rfl rfl rfl rfl ?_
            | refine r_or rfl rfl rfl rfl rfl rfl rfl rfl ?_
            | refine r_and rfl rfl rfl rfl rfl rfl rfl rfl ?_
            | refine r_pick_t rfl rfl rfl rfl rfl rfl rfl ?_
            | refine r_pick_f rfl rfl rfl rfl rfl rfl rfl ?_
            | refine r_off rfl rfl rfl rfl rfl rfl ?_
            | refine r_len_on tab_ok rfl rfl rfl rfl rfl rfl rfl rfl rfl ?_
            | refine r_ev_on tab_ok rfl rfl rfl rfl rfl rfl (by first | exact trivial | exact ⟨by omega, by omega⟩ | omega) rfl ?_
            | refine r_ld_on tab_ok rfl rfl rfl rfl rfl rfl rfl ?_
            | refine r_build tab_ok rfl rfl rfl rfl rfl rfl ?_
            | refine r_bstr tab_ok rfl rfl rfl rfl rfl rfl rfl rfl rfl rfl ?_
            | refine r_build_cnd tab_ok rfl rfl rfl rfl rfl (by first | exact fun _ => rfl | exact cs1) rfl rfl rfl ?_
            | refine r_built_cnd tab_ok rfl rfl rfl rfl rfl rfl rfl rfl (by first | exact fun _ => rfl | exact cs1) rfl rfl rfl ?_
            | refine r_rem rfl rfl rfl rfl rfl rfl (by omega) rfl ?_
            | refine r_built0 tab_ok rfl rfl rfl rfl rfl rfl rfl ?_
            | refine r_built tab_ok rfl rfl rfl rfl rfl rfl rfl rfl rfl ?_
            | refine r_range tab_ok rfl rfl rfl rfl rfl rfl rfl ?_
            | refine r_next rfl rfl rfl rfl (by assumption) rfl rfl rfl ?_
            | refine r_next_end rfl rfl rfl rfl (by assumption) rfl rfl rfl ?_
            | refine r_nilck rfl rfl rfl rfl rfl rfl rfl ?_
            | refine r_rstr tab_ok rfl rfl rfl rfl rfl rfl rfl rfl ?_
            | refine r_rsstr tab_ok rfl rfl rfl rfl rfl rfl rfl rfl rfl rfl ?_
            | refine r_bstr' tab_ok rfl rfl rfl rfl rfl rfl rfl rfl rfl ?_
            | refine r_rowstr tab_ok rfl rfl rfl rfl rfl rfl rfl rfl rfl rfl ?_
            | refine r_strd tab_ok rfl rfl rfl rfl rfl rfl (by omega) rfl rfl rfl ?_
            | refine r_idxr tab_ok rfl rfl rfl rfl rfl rfl rfl rfl (by first | exact ⟨by omega, by omega⟩ | (simp; omega)) rfl ?_
            | refine r_lde tab_ok rfl rfl rfl rfl rfl (by omega) rfl rfl rfl rfl ?_
            | refine r_idxr_cnd tab_ok rfl rfl rfl rfl rfl rfl rfl rfl (by first | exact fun _ => rfl | exact cs1 | exact cs2) rfl rfl (by first | (intro _; exact ⟨by omega, by omega⟩) | (intro h; simp at h ⊢; omega)) rfl ?_
            | refine r_lde_cnd tab_ok rfl rfl rfl rfl rfl rfl rfl (by first | exact fun _ => rfl | exact cs1 | exact cs2) (by omega) rfl rfl rfl rfl ?_
            | refine r_cut tab_ok rfl rfl rfl rfl rfl rfl rfl rfl (by first | exact ⟨by simp, by simp; omega, by simp⟩ | (simp; omega)) rfl ?_
            | refine r_append tab_ok rfl rfl rfl rfl rfl rfl rfl rfl rfl (by first | omega | (simp; omega)) rfl ?_
            | refine r_append_nil tab_ok rfl rfl rfl rfl rfl rfl rfl rfl (by first | omega | (simp; omega)) rfl ?_)
          | refine ret1 (by first | exact .inl rfl | exact .inr rfl) rfl rfl rfl ?_
          | refine ret1_row (by first | exact .inl rfl | exact .inr rfl) rfl rfl rfl ?_
          | refine ret2 (by first | exact .inl rfl | exact .inr rfl) rfl rfl rfl rfl ?_ ?_
          | refine retM1 (by first | exact .inl rfl | exact .inr rfl) rfl rfl rfl rfl rfl ?_
          | exact retM0 (by first | exact .inl rfl | exact .inr rfl) rfl rfl rfl
          | refine awp_cond_t rfl ?_
          | refine awp_cond_f rfl ?_)
        refine ⟨⟨q, false, out, by rw [← hle, hst]; simp, fun h => by omega⟩, by dsimp only; omega, ?_⟩
        dsimp only
        rw [hq0]
        exact fits_conv (by repeat' first | exact trivial | exact rfl | (rw [List.map_append]; first | done | rfl) | exact c_sub rfl (Sub.refl _) rfl | exact c_nil rfl rfl | exact c_thaw rfl rfl rfl | exact c_row rfl rfl rfl | exact c_row rfl rfl (by rw [List.map_append]; first | done | rfl) | exact c_ptr rfl rfl rfl rfl | exact Or.inl ⟨c_sub rfl (Sub.refl _) rfl, c_ptr rfl rfl rfl rfl⟩ | exact c_alt rfl rfl rfl rfl | exact c_sub rfl (Sub.altl _ _) rfl | refine ⟨_, _, rfl, ?_, ?_⟩ | apply And.intro) (by repeat' first | exact trivial | exact rfl | (rw [List.map_append]; first | done | rfl) | exact c_sub rfl (Sub.refl _) rfl | exact c_nil rfl rfl | exact c_thaw rfl rfl rfl | exact c_row rfl rfl rfl | exact c_row rfl rfl (by rw [List.map_append]; first | done | rfl) | exact c_ptr rfl rfl rfl rfl | exact Or.inl ⟨c_sub rfl (Sub.refl _) rfl, c_ptr rfl rfl rfl rfl⟩ | exact c_alt rfl rfl rfl rfl | exact c_sub rfl (Sub.altl _ _) rfl | refine ⟨_, _, rfl, ?_, ?_⟩ | apply And.intro)
      · have h3 : ¬ (r = 10 ∧ cr = true) := by
          have h3 : ¬ (cr = true ∧ r = 10) := by simpa using h2
          exact fun h => h3 ⟨h.2, h.1⟩
        rw [if_neg (by rintro (h | h); exact h1 h.1 h.2; exact h3 h)] at hst
        repeat (first
          | refine awp_seq ?_
          | refine thenA_normal ?_
          | refine awp_block ?_
          | refine a_region ?_
          | refine a_draw1 mixed_ok (by kernel_rfl) ?_
          | refine awp_ret ?_
          | refine awp_exit ?_
          | refine thenA_exit ?_
          | refine thenA_ret ?_
          | refine blockA_normal ?_
          | refine blockA_ret ?_
          | refine blockA_hit rfl ?_
          | refine blockA_miss rfl ?_
          | refine awp_skip ?_
          | refine r_done ?_
          | refine r_done' ?_
          | (refine r_id ?_; first
            | refine r_len tab_ok rfl rfl rfl rfl rfl rfl rfl ?_
            | refine r_ev tab_ok rfl rfl rfl rfl (by first | exact trivial | exact ⟨by omega, by omega⟩ | omega | exact ⟨by omega, by omega, by omega, by omega⟩ | exact Nat.le_of_ble_eq_true rfl) rfl ?_
            | refine r_ld tab_ok rfl rfl rfl rfl rfl ?_
            | refine r_idx tab_ok rfl rfl rfl rfl rfl rfl rfl (by first | exact ⟨by omega, by omega⟩ | (simp; omega)) rfl rfl ?_
            | refine r_idxd tab_ok rfl rfl rfl rfl rfl rfl rfl (by decide) rfl rfl rfl ?_
            | refine r_wr tab_ok rfl rfl rfl rfl rfl ?_
            | refine r_st tab_ok rfl rfl rfl rfl ?_
            | refine r_len_cnd tab_ok rfl rfl rfl rfl rfl rfl (by first | exact fun _ => rfl | exact cs1) rfl rfl rfl ?_
            | refine r_ev_cnd tab_ok rfl rfl rfl rfl rfl rfl (by first | exact fun _ => rfl | exact cs1 | exact cs2 | exact cs3) (by first | exact fun _ => trivial | (intro h; simp at h; first | exact ⟨by omega, by omega⟩ | omega)) rfl ?_
            | refine r_ld_cnd tab_ok rfl rfl rfl rfl rfl rfl (by first | exact fun _ => rfl | exact cs1 | exact cs2 | exact cs3) rfl ?_
            | refine r_idx_cnd tab_ok rfl rfl rfl rfl rfl rfl rfl (by first | exact fun _ => rfl | exact cs1 | exact cs2) rfl rfl (by exact ⟨by omega, by omega⟩) rfl rfl ?_
            | refine r_idx_cnd' tab_ok rfl rfl rfl rfl rfl rfl rfl (by first | exact fun _ => rfl | exact cs1 | exact cs2) rfl rfl (by intro h; simp at h; exact ⟨by omega, by omega⟩) rfl rfl ?_
            | refine r_and_cnd rfl rfl rfl rfl rfl rfl rfl rfl rfl rfl ?_
            | refine r_or_cnd rfl rfl rfl rfl rfl rfl rfl rfl rfl rfl ?_
            | refine r_or rfl rfl rfl rfl rfl rfl rfl rfl ?_
            | refine r_and rfl rfl rfl rfl rfl rfl rfl rfl ?_
            | refine r_pick_t rfl rfl rfl rfl rfl rfl rfl ?_
            | refine r_pick_f rfl rfl rfl rfl rfl rfl rfl ?_
            | refine r_off rfl rfl rfl rfl rfl rfl ?_
            | refine r_len_on tab_ok rfl rfl rfl rfl rfl rfl rfl rfl rfl ?_
            | refine r_ev_on tab_ok rfl rfl rfl rfl rfl rfl (by first | exact trivial | exact ⟨by omega, by omega⟩ | omega) rfl ?_
            | refine r_ld_on tab_ok rfl rfl rfl rfl rfl rfl rfl ?_
            | refine r_build tab_ok rfl rfl rfl rfl rfl rfl ?_
            | refine r_bstr tab_ok rfl rfl rfl rfl rfl rfl rfl rfl rfl rfl ?_
            | refine r_build_cnd tab_ok rfl rfl rfl rfl rfl (by first | exact fun _ => rfl | exact cs1) rfl rfl rfl ?_
            | refine r_built_cnd tab_ok rfl rfl rfl rfl rfl rfl rfl rfl (by first | exact fun _ => rfl | exact cs1) rfl rfl rfl ?_
            | refine r_rem rfl rfl rfl rfl rfl rfl (by omega) rfl ?_
            | refine r_built0 tab_ok rfl rfl rfl rfl rfl rfl rfl ?_
            | refine r_built tab_ok rfl rfl rfl rfl rfl rfl rfl rfl rfl ?_
            | refine r_range tab_ok rfl rfl rfl rfl rfl rfl rfl ?_
            | refine r_next rfl rfl rfl rfl (by assumption) rfl rfl rfl ?_
            | refine r_next_end rfl rfl rfl rfl (by assumption) rfl rfl rfl ?_
            | refine r_nilck rfl rfl rfl rfl rfl rfl rfl ?_
            | refine r_rstr tab_ok rfl rfl rfl rfl rfl rfl rfl rfl ?_
            | refine r_rsstr tab_ok rfl rfl rfl rfl rfl rfl rfl rfl rfl rfl ?_
            | refine r_bstr' tab_ok rfl rfl rfl rfl rfl rfl rfl rfl rfl ?_
            | refine r_rowstr tab_ok rfl rfl rfl rfl rfl rfl rfl rfl rfl rfl ?_
            | refine r_strd tab_ok rfl rfl rfl rfl rfl rfl (by omega) rfl rfl rfl ?_
            | refine r_idxr tab_ok rfl rfl rfl rfl rfl rfl rfl rfl (by first | exact ⟨by omega, by omega⟩ | (simp; omega)) rfl ?_
            | refine r_lde tab_ok rfl rfl rfl rfl rfl (by omega) rfl rfl rfl rfl ?_
            | refine r_idxr_cnd tab_ok rfl rfl rfl rfl rfl rfl rfl rfl (by first | exact fun _ => rfl | exact cs1 | exact cs2) rfl rfl (by first | (intro _; exact ⟨by omega, by omega⟩) | (intro h; simp at h ⊢; omega)) rfl ?_
            | refine r_lde_cnd tab_ok rfl rfl rfl rfl rfl rfl rfl (by first | exact fun _ => rfl | exact cs1 | exact cs2) (by omega) rfl rfl rfl rfl ?_
            | refine r_cut tab_ok rfl rfl rfl rfl rfl rfl rfl rfl (by first | exact ⟨by simp, by simp; omega, by simp⟩ | (simp; omega)) rfl ?_
            | refine r_append tab_ok rfl rfl rfl rfl rfl rfl rfl rfl rfl (by first | omega | (simp; omega)) rfl ?_
            | refine r_append_nil tab_ok rfl rfl rfl rfl rfl rfl rfl rfl (by first | omega | (simp; omega)) rfl ?_)
          | refine ret1 (by first | exact .inl rfl | exact .inr rfl) rfl rfl rfl ?_
          | refine ret1_row (by first | exact .inl rfl | exact .inr rfl) rfl rfl rfl ?_
          | refine ret2 (by first | exact .inl rfl | exact .inr rfl) rfl rfl rfl rfl ?_ ?_
          | refine retM1 (by first | exact .inl rfl | exact .inr rfl) rfl rfl rfl rfl rfl ?_
          | exact retM0 (by first | exact .inl rfl | exact .inr rfl) rfl rfl rfl
          | refine awp_cond_t rfl ?_
          | refine awp_cond_f rfl ?_)
        refine awp_cond_p rfl (fun h4 => ?_) (fun h4 => ?_)
        · rw [if_pos (.inl h4)] at hst
          repeat (first
            | refine awp_seq ?_
            | refine thenA_normal ?_
            | refine awp_block ?_
            | refine a_region ?_
            | refine a_draw1 mixed_ok (by kernel_rfl) ?_
            | refine awp_ret ?_
            | refine awp_exit ?_
            | refine thenA_exit ?_
            | refine thenA_ret ?_
            | refine blockA_normal ?_
            | refine blockA_ret ?_
            | refine blockA_hit rfl ?_
            | refine blockA_miss rfl ?_
            | refine awp_skip ?_
            | refine r_done ?_
            | refine r_done' ?_
            | (refine r_id ?_; first
              | refine r_len tab_ok rfl rfl rfl rfl rfl rfl rfl ?_
              | refine r_ev tab_ok rfl rfl rfl rfl (by first | exact trivial | exact ⟨by omega, by omega⟩ | omega | exact ⟨by omega, by omega, by omega, by omega⟩ | exact Nat.le_of_ble_eq_true rfl) rfl ?_
              | refine r_ld tab_ok rfl rfl rfl rfl rfl ?_
              | refine r_idx tab_ok rfl rfl rfl rfl rfl rfl rfl (by first | exact ⟨by omega, by omega⟩ | (simp; omega)) rfl rfl ?_
              | refine r_idxd tab_ok rfl rfl rfl rfl rfl rfl rfl (by decide) rfl rfl rfl ?_
              | refine r_wr tab_ok rfl rfl rfl rfl rfl ?_
              | refine r_st tab_ok rfl rfl rfl rfl ?_
              | refine r_len_cnd tab_ok rfl rfl rfl rfl rfl rfl (by first | exact fun _ => rfl | exact cs1) rfl rfl rfl ?_
              | refine r_ev_cnd tab_ok rfl rfl rfl rfl rfl rfl (by first | exact fun _ => rfl | exact cs1 | exact cs2 | exact cs3) (by first | exact fun _ => trivial | (intro h; simp at h; first | exact ⟨by omega, by omega⟩ | omega)) rfl ?_
              | refine r_ld_cnd tab_ok rfl rfl rfl rfl rfl rfl (by first | exact fun _ => rfl | exact cs1 | exact cs2 | exact cs3) rfl ?_
              | refine r_idx_cnd tab_ok rfl rfl rfl rfl rfl rfl rfl (by first | exact fun _ => rfl | exact cs1 | exact cs2) rfl rfl (by exact ⟨by omega, by omega⟩) rfl rfl ?_
              | refine r_idx_cnd' tab_ok rfl rfl rfl rfl rfl rfl rfl (by first | exact fun _ => rfl | exact cs1 | exact cs2) rfl rfl (by intro h; simp at h; exact ⟨by omega, by omega⟩) rfl rfl ?_
              | refine r_and_cnd rfl rfl rfl rfl rfl rfl rfl rfl rfl rfl ?_
              | refine r_or_cnd rfl rfl rfl rfl rfl rfl rfl rfl rfl rfl ?_
              | refine r_or rfl rfl rfl rfl rfl rfl rfl rfl ?_
              | refine r_and rfl rfl rfl rfl rfl rfl rfl rfl ?_
              | refine r_pick_t rfl rfl rfl rfl rfl rfl rfl ?_
              | refine r_pick_f rfl rfl rfl rfl rfl rfl rfl ?_
              | refine r_off rfl rfl rfl rfl rfl rfl ?_
              | refine r_len_on tab_ok rfl rfl rfl rfl rfl rfl rfl rfl rfl ?_
              | refine r_ev_on tab_ok rfl rfl rfl rfl rfl rfl (by first | exact trivial | exact ⟨by omega, by omega⟩ | omega) rfl ?_
              | refine r_ld_on tab_ok rfl rfl rfl rfl rfl rfl rfl ?_
              | refine r_build tab_ok rfl rfl rfl rfl rfl rfl ?_
              | refine r_bstr tab_ok rfl rfl rfl rfl rfl rfl rfl rfl rfl rfl ?_
              | refine r_build_cnd tab_ok rfl rfl rfl rfl rfl (by first | exact fun _ => rfl | exact cs1) rfl rfl rfl ?_
              | refine r_built_cnd tab_ok rfl rfl rfl rfl rfl rfl rfl rfl (by first | exact fun _ => rfl | exact cs1) rfl rfl rfl ?_
              | refine r_rem rfl rfl rfl rfl rfl rfl (by omega) rfl ?_
              | refine r_built0 tab_ok rfl rfl rfl rfl rfl rfl rfl ?_
              | refine r_built tab_ok rfl rfl rfl rfl rfl rfl rfl rfl rfl ?_
              | refine r_range tab_ok rfl rfl rfl rfl rfl rfl rfl ?_
              | refine r_next rfl rfl rfl rfl (by assumption) rfl rfl rfl ?_
              | refine r_next_end rfl rfl rfl rfl (by assumption) rfl rfl rfl ?_
              | refine r_nilck rfl rfl rfl rfl rfl rfl rfl ?_
              | refine r_rstr tab_ok rfl rfl rfl rfl rfl rfl rfl rfl ?_
              | refine r_rsstr tab_ok rfl rfl rfl rfl rfl rfl rfl rfl rfl rfl ?_
              | refine r_bstr' tab_ok rfl rfl rfl rfl rfl rfl rfl rfl rfl ?_
              | refine r_rowstr tab_ok rfl rfl rfl rfl rfl rfl rfl rfl rfl rfl ?_
              | refine r_strd tab_ok rfl rfl rfl rfl rfl rfl (by omega) rfl rfl rfl ?_
              | refine r_idxr tab_ok rfl rfl rfl rfl rfl rfl rfl rfl (by first | exact ⟨by omega, by omega⟩ | (simp; omega)) rfl ?_
              | refine r_lde tab_ok rfl rfl rfl rfl rfl (by omega) rfl rfl rfl rfl ?_
              | refine r_idxr_cnd tab_ok rfl rfl rfl rfl rfl rfl rfl rfl (by first | exact fun _ => rfl | exact cs1 | exact cs2) rfl rfl (by first | (intro _; exact ⟨by omega, by omega⟩) | (intro h; simp at h ⊢; omega)) rfl ?_
              | refine r_lde_cnd tab_ok rfl rfl rfl rfl rfl rfl rfl (by first | exact fun _ => rfl | exact cs1 | exact cs2) (by omega) rfl rfl rfl rfl ?_
              | refine r_cut tab_ok rfl rfl rfl rfl rfl rfl rfl rfl (by first | exact ⟨by simp, by simp; omega, by simp⟩ | (simp; omega)) rfl ?_
              | refine r_append tab_ok rfl rfl rfl rfl rfl rfl rfl rfl rfl (by first | omega | (simp; omega)) rfl ?_
              | refine r_append_nil tab_ok rfl rfl rfl rfl rfl rfl rfl rfl (by first | omega | (simp; omega)) rfl ?_)
            | refine ret1 (by first | exact .inl rfl | exact .inr rfl) rfl rfl rfl ?_
            | refine ret1_row (by first | exact .inl rfl | exact .inr rfl) rfl rfl rfl ?_
            | refine ret2 (by first | exact .inl rfl | exact .inr rfl) rfl rfl rfl rfl ?_ ?_
            | refine retM1 (by first | exact .inl rfl | exact .inr rfl) rfl rfl rfl rfl rfl ?_
            | exact retM0 (by first | exact .inl rfl | exact .inr rfl) rfl rfl rfl
            | refine awp_cond_t rfl ?_
            | refine awp_cond_f rfl ?_)
          refine awp_cond_p rfl (fun _ => ?_) (fun h => absurd h4 h)
          repeat (first
            | refine awp_seq ?_
            | refine thenA_normal ?_
            | refine awp_block ?_
            | refine a_region ?_
            | refine a_draw1 mixed_ok (by kernel_rfl) ?_
            | refine awp_ret ?_
            | refine awp_exit ?_
            | refine thenA_exit ?_
            | refine thenA_ret ?_
            | refine blockA_normal ?_
            | refine blockA_ret ?_
            | refine blockA_hit rfl ?_
            | refine blockA_miss rfl ?_
            | refine awp_skip ?_
            | refine r_done ?_
            | refine r_done' ?_
            | (refine r_id ?_; first
              | refine r_len tab_ok rfl rfl rfl rfl rfl rfl rfl ?_
              | refine r_ev tab_ok rfl rfl rfl rfl (by first | exact trivial | exact ⟨by omega, by omega⟩ | omega | exact ⟨by omega, by omega, by omega, by omega⟩ | exact Nat.le_of_ble_eq_true rfl) rfl ?_
              | refine r_ld tab_ok rfl rfl rfl rfl rfl ?_
              | refine r_idx tab_ok rfl rfl rfl rfl rfl rfl rfl (by first | exact ⟨by omega, by omega⟩ | (simp; omega)) rfl rfl ?_
              | refine r_idxd tab_ok rfl rfl rfl rfl rfl rfl rfl (by decide) rfl rfl rfl ?_
              | refine r_wr tab_ok rfl rfl rfl rfl rfl ?_
              | refine r_st tab_ok rfl rfl rfl rfl ?_
              | refine r_len_cnd tab_ok rfl rfl rfl rfl rfl rfl (by first | exact fun _ => rfl | exact cs1) rfl rfl rfl ?_
              | refine r_ev_cnd tab_ok rfl rfl rfl rfl rfl rfl (by first | exact fun _ => rfl | exact cs1 | exact cs2 | exact cs3) (by first | exact fun _ => trivial | (intro h; simp at h; first | exact ⟨by omega, by omega⟩ | omega)) rfl ?_
              | refine r_ld_cnd tab_ok rfl rfl rfl rfl rfl rfl (by first | exact fun _ => rfl | exact cs1 | exact cs2 | exact cs3) rfl ?_
              | refine r_idx_cnd tab_ok rfl rfl rfl rfl rfl rfl rfl (by first | exact fun _ => rfl | exact cs1 | exact cs2) rfl rfl (by exact ⟨by omega, by omega⟩) rfl rfl ?_
              | refine r_idx_cnd' tab_ok rfl rfl rfl rfl rfl rfl rfl (by first | exact fun _ => rfl | exact cs1 | exact cs2) rfl rfl (by intro h; simp at h; exact ⟨by omega, by omega⟩) rfl rfl ?_
              | refine r_and_cnd rfl rfl rfl rfl rfl rfl rfl rfl rfl rfl ?_
              | refine r_or_cnd rfl rfl rfl rfl rfl rfl rfl rfl rfl rfl ?_
              | refine r_or rfl rfl rfl rfl rfl rfl rfl rfl ?_
              | refine r_and rfl rfl rfl rfl rfl rfl rfl rfl ?_
              | refine r_pick_t rfl rfl rfl rfl rfl rfl rfl ?_
              | refine r_pick_f rfl rfl rfl rfl rfl rfl rfl ?_
              | refine r_off rfl rfl rfl rfl rfl rfl ?_
              | refine r_len_on tab_ok rfl rfl rfl rfl rfl rfl rfl rfl rfl ?_
              | refine r_ev_on tab_ok rfl rfl rfl rfl rfl rfl (by first | exact trivial | exact ⟨by omega, by omega⟩ | omega) rfl ?_
              | refine r_ld_on tab_ok rfl rfl rfl rfl rfl rfl rfl ?_
              | refine r_build tab_ok rfl rfl rfl rfl rfl rfl ?_
              | refine r_bstr tab_ok rfl rfl rfl rfl rfl rfl rfl rfl rfl rfl ?_
              | refine r_build_cnd tab_ok rfl rfl rfl rfl rfl (by first | exact fun _ => rfl | exact cs1) rfl rfl rfl ?_
              | refine r_built_cnd tab_ok rfl rfl rfl rfl rfl rfl rfl rfl (by first | exact fun _ => rfl | exact cs1) rfl rfl rfl ?_
              | refine r_rem rfl rfl rfl rfl rfl rfl (by omega) rfl ?_
              | refine r_built0 tab_ok rfl rfl rfl rfl rfl rfl rfl ?_
              | refine r_built tab_ok rfl rfl rfl rfl rfl rfl rfl rfl rfl ?_
              | refine r_range tab_ok rfl rfl rfl rfl rfl rfl rfl ?_
              | refine r_next rfl rfl rfl rfl (by assumption) rfl rfl rfl ?_
              | refine r_next_end rfl rfl rfl rfl (by assumption) rfl rfl rfl ?_
              | refine r_nilck rfl rfl rfl rfl rfl rfl rfl ?_
              | refine r_rstr tab_ok rfl rfl rfl rfl rfl rfl rfl rfl ?_
              | refine r_rsstr tab_ok rfl rfl rfl rfl rfl rfl rfl rfl rfl rfl ?_
              | refine r_bstr' tab_ok rfl rfl rfl rfl rfl rfl rfl rfl rfl ?_
              | refine r_rowstr tab_ok rfl rfl rfl rfl rfl rfl rfl rfl rfl rfl ?_
              | refine r_strd tab_ok rfl rfl rfl rfl rfl rfl (by omega) rfl rfl rfl ?_
              | refine r_idxr tab_ok rfl rfl rfl rfl rfl rfl rfl rfl (by first | exact ⟨by omega, by omega⟩ | (simp; omega)) rfl ?_
              | refine r_lde tab_ok rfl rfl rfl rfl rfl (by omega) rfl rfl rfl rfl ?_
              | refine r_idxr_cnd tab_ok rfl rfl rfl rfl rfl rfl rfl rfl (by first | exact fun _ => rfl | exact cs1 | exact cs2) rfl rfl (by first | (intro _; exact ⟨by omega, by omega⟩) | (intro h; simp at h ⊢; omega)) rfl ?_
              | refine r_lde_cnd tab_ok rfl rfl rfl rfl rfl rfl rfl (by first | exact fun _ => rfl | exact cs1 | exact cs2) (by omega) rfl rfl rfl rfl ?_
              | refine r_cut tab_ok rfl rfl rfl rfl rfl rfl rfl rfl (by first | exact ⟨by simp, by simp; omega, by simp⟩ | (simp; omega)) rfl ?_
              | refine r_append tab_ok rfl rfl rfl rfl rfl rfl rfl rfl rfl (by first | omega | (simp; omega)) rfl ?_
              | refine r_append_nil tab_ok rfl rfl rfl rfl rfl rfl rfl rfl (by first | omega | (simp; omega)) rfl ?_)
            | refine ret1 (by first | exact .inl rfl | exact .inr rfl) rfl rfl rfl ?_
            | refine ret1_row (by first | exact .inl rfl | exact .inr rfl) rfl rfl rfl ?_
            | refine ret2 (by first | exact .inl rfl | exact .inr rfl) rfl rfl rfl rfl ?_ ?_
            | refine retM1 (by first | exact .inl rfl | exact .inr rfl) rfl rfl rfl rfl rfl ?_
            | exact retM0 (by first | exact .inl rfl | exact .inr rfl) rfl rfl rfl
            | refine awp_cond_t rfl ?_
            | refine awp_cond_f rfl ?_)
          refine ⟨⟨q, decide (r = 13), out ++ [10], by rw [← hle, hst]; simp, fun h => by omega⟩, by dsimp only; omega, ?_⟩
          dsimp only
          rw [hq0]
          exact fits_conv (by repeat' first | exact trivial | exact rfl | (rw [List.map_append]; first | done | rfl) | exact c_sub rfl (Sub.refl _) rfl | exact c_nil rfl rfl | exact c_thaw rfl rfl rfl | exact c_row rfl rfl rfl | exact c_row rfl rfl (by rw [List.map_append]; first | done | rfl) | exact c_ptr rfl rfl rfl rfl | exact Or.inl ⟨c_sub rfl (Sub.refl _) rfl, c_ptr rfl rfl rfl rfl⟩ | exact c_alt rfl rfl rfl rfl | exact c_sub rfl (Sub.altl _ _) rfl | refine ⟨_, _, rfl, ?_, ?_⟩ | apply And.intro) (by repeat' first | exact trivial | exact rfl | (rw [List.map_append]; first | done | rfl) | exact c_sub rfl (Sub.refl _) rfl | exact c_nil rfl rfl | exact c_thaw rfl rfl rfl | exact c_row rfl rfl rfl | exact c_row rfl rfl (by rw [List.map_append]; first | done | rfl) | exact c_ptr rfl rfl rfl rfl | exact Or.inl ⟨c_sub rfl (Sub.refl _) rfl, c_ptr rfl rfl rfl rfl⟩ | exact c_alt rfl rfl rfl rfl | exact c_sub rfl (Sub.altl _ _) rfl | refine ⟨_, _, rfl, ?_, ?_⟩ | apply And.intro)
        · repeat (first
            | refine awp_seq ?_
            | refine thenA_normal ?_
            | refine awp_block ?_
            | refine a_region ?_
            | refine a_draw1 mixed_ok (by kernel_rfl) ?_
            | refine awp_ret ?_
            | refine awp_exit ?_
            | refine thenA_exit ?_
            | refine thenA_ret ?_
            | refine blockA_normal ?_
            | refine blockA_ret ?_
            | refine blockA_hit rfl ?_
            | refine blockA_miss rfl ?_
            | refine awp_skip ?_
            | refine r_done ?_
            | refine r_done' ?_
            | (refine r_id ?_; first
              | refine r_len tab_ok rfl rfl rfl rfl rfl rfl rfl ?_
              | refine r_ev tab_ok rfl rfl rfl rfl (by first | exact trivial | exact ⟨by omega, by omega⟩ | omega | exact ⟨by omega, by omega, by omega, by omega⟩ | exact Nat.le_of_ble_eq_true rfl) rfl ?_
              | refine r_ld tab_ok rfl rfl rfl rfl rfl ?_
              | refine r_idx tab_ok rfl rfl rfl rfl rfl rfl rfl (by first | exact ⟨by omega, by omega⟩ | (simp; omega)) rfl rfl ?_
              | refine r_idxd tab_ok rfl rfl rfl rfl rfl rfl rfl (by decide) rfl rfl rfl ?_
              | refine r_wr tab_ok rfl rfl rfl rfl rfl ?_
              | refine r_st tab_ok rfl rfl rfl rfl ?_
              | refine r_len_cnd tab_ok rfl rfl rfl rfl rfl rfl (by first | exact fun _ => rfl | exact cs1) rfl rfl rfl ?_
              | refine r_ev_cnd tab_ok rfl rfl rfl rfl rfl rfl (by first | exact fun _ => rfl | exact cs1 | exact cs2 | exact cs3) (by first | exact fun _ => trivial | (intro h; simp at h; first | exact ⟨by omega, by omega⟩ | omega)) rfl ?_
              | refine r_ld_cnd tab_ok rfl rfl rfl rfl rfl rfl (by first | exact fun _ => rfl | exact cs1 | exact cs2 | exact cs3) rfl ?_
              | refine r_idx_cnd tab_ok rfl rfl rfl rfl rfl rfl rfl (by first | exact fun _ => rfl | exact cs1 | exact cs2) rfl rfl (by exact ⟨by omega, by omega⟩) rfl rfl ?_
              | refine r_idx_cnd' tab_ok rfl rfl rfl rfl rfl rfl rfl (by first | exact fun _ => rfl | exact cs1 | exact cs2) rfl rfl (by intro h; simp at h; exact ⟨by omega, by omega⟩) rfl rfl ?_
              | refine r_and_cnd rfl rfl rfl rfl rfl rfl rfl rfl rfl rfl ?_
              | refine r_or_cnd rfl rfl rfl rfl rfl rfl rfl rfl rfl rfl ?_
              | refine r_or rfl rfl rfl rfl rfl rfl rfl rfl ?_
              | refine r_and rfl rfl rfl rfl rfl rfl rfl rfl ?_
              | refine r_pick_t rfl rfl rfl rfl rfl rfl rfl ?_
              | refine r_pick_f rfl rfl rfl rfl rfl rfl rfl ?_
              | refine r_off rfl rfl rfl rfl rfl rfl ?_
              | refine r_len_on tab_ok rfl rfl rfl rfl rfl rfl rfl rfl rfl ?_
              | refine r_ev_on tab_ok rfl rfl rfl rfl rfl rfl (by first | exact trivial | exact ⟨by omega, by omega⟩ | omega) rfl ?_
              | refine r_ld_on tab_ok rfl rfl rfl rfl rfl rfl rfl ?_
              | refine r_build tab_ok rfl rfl rfl rfl rfl rfl ?_
              | refine r_bstr tab_ok rfl rfl rfl rfl rfl rfl rfl rfl rfl rfl ?_
              | refine r_build_cnd tab_ok rfl rfl rfl rfl rfl (by first | exact fun _ => rfl | exact cs1) rfl rfl rfl ?_
              | refine r_built_cnd tab_ok rfl rfl rfl rfl rfl rfl rfl rfl (by first | exact fun _ => rfl | exact cs1) rfl rfl rfl ?_
              | refine r_rem rfl rfl rfl rfl rfl rfl (by omega) rfl ?_
              | refine r_built0 tab_ok rfl rfl rfl rfl rfl rfl rfl ?_
              | refine r_built tab_ok rfl rfl rfl rfl rfl rfl rfl rfl rfl ?_
              | refine r_range tab_ok rfl rfl rfl rfl rfl rfl rfl ?_
              | refine r_next rfl rfl rfl rfl (by assumption) rfl rfl rfl ?_
              | refine r_next_end rfl rfl rfl rfl (by assumption) rfl rfl rfl ?_
              | refine r_nilck rfl rfl rfl rfl rfl rfl rfl ?_
              | refine r_rstr tab_ok rfl rfl rfl rfl rfl rfl rfl rfl ?_
              | refine r_rsstr tab_ok rfl rfl rfl rfl rfl rfl rfl rfl rfl rfl ?_
              | refine r_bstr' tab_ok rfl rfl rfl rfl rfl rfl rfl rfl rfl ?_
              | refine r_rowstr tab_ok rfl rfl rfl rfl rfl rfl rfl rfl rfl rfl ?_
              | refine r_strd tab_ok rfl rfl rfl rfl rfl rfl (by omega) rfl rfl rfl ?_
              | refine r_idxr tab_ok rfl rfl rfl rfl rfl rfl rfl rfl (by first | exact ⟨by omega, by omega⟩ | (simp; omega)) rfl ?_
              | refine r_lde tab_ok rfl rfl rfl rfl rfl (by omega) rfl rfl rfl rfl ?_
              | refine r_idxr_cnd tab_ok rfl rfl rfl rfl rfl rfl rfl rfl (by first | exact fun _ => rfl | exact cs1 | exact cs2) rfl rfl (by first | (intro _; exact ⟨by omega, by omega⟩) | (intro h; simp at h ⊢; omega)) rfl ?_
              | refine r_lde_cnd tab_ok rfl rfl rfl rfl rfl rfl rfl (by first | exact fun _ => rfl | exact cs1 | exact cs2) (by omega) rfl rfl rfl rfl ?_
              | refine r_cut tab_ok rfl rfl rfl rfl rfl rfl rfl rfl (by first | exact ⟨by simp, by simp; omega, by simp⟩ | (simp; omega)) rfl ?_
              | refine r_append tab_ok rfl rfl rfl rfl rfl rfl rfl rfl rfl (by first | omega | (simp; omega)) rfl ?_
              | refine r_append_nil tab_ok rfl rfl rfl rfl rfl rfl rfl rfl (by first | omega | (simp; omega)) rfl ?_)
            | refine ret1 (by first | exact .inl rfl | exact .inr rfl) rfl rfl rfl ?_
            | refine ret1_row (by first | exact .inl rfl | exact .inr rfl) rfl rfl rfl ?_
            | refine ret2 (by first | exact .inl rfl | exact .inr rfl) rfl rfl rfl rfl ?_ ?_
            | refine retM1 (by first | exact .inl rfl | exact .inr rfl) rfl rfl rfl rfl rfl ?_
            | exact retM0 (by first | exact .inl rfl | exact .inr rfl) rfl rfl rfl
            | refine awp_cond_t rfl ?_
            | refine awp_cond_f rfl ?_)
          refine awp_cond_p rfl (fun h5 => ?_) (fun h5 => ?_)
          · rw [if_pos (.inr h5)] at hst
            repeat (first
              | refine awp_seq ?_
              | refine thenA_normal ?_
              | refine awp_block ?_
              | refine a_region ?_
              | refine a_draw1 mixed_ok (by kernel_rfl) ?_
              | refine awp_ret ?_
              | refine awp_exit ?_
              | refine thenA_exit ?_
              | refine thenA_ret ?_
              | refine blockA_normal ?_
              | refine blockA_ret ?_
              | refine blockA_hit rfl ?_
              | refine blockA_miss rfl ?_
              | refine awp_skip ?_
              | refine r_done ?_
              | refine r_done' ?_
              | (refine r_id ?_; first
                | refine r_len tab_ok rfl rfl rfl rfl rfl rfl rfl ?_
                | refine r_ev tab_ok rfl rfl rfl rfl (by first | exact trivial | exact ⟨by omega, by omega⟩ | omega | exact ⟨by omega, by omega, by omega, by omega⟩ | exact Nat.le_of_ble_eq_true rfl) rfl ?_
                | refine r_ld tab_ok rfl rfl rfl rfl rfl ?_
                | refine r_idx tab_ok rfl rfl rfl rfl rfl rfl rfl (by first | exact ⟨by omega, by omega⟩ | (simp; omega)) rfl rfl ?_
                | refine r_idxd tab_ok rfl rfl rfl rfl rfl rfl rfl (by decide) rfl rfl rfl ?_
                | refine r_wr tab_ok rfl rfl rfl rfl rfl ?_
                | refine r_st tab_ok rfl rfl rfl rfl ?_
                | refine r_len_cnd tab_ok rfl rfl rfl rfl rfl rfl (by first | exact fun _ => rfl | exact cs1) rfl rfl rfl ?_
                | refine r_ev_cnd tab_ok rfl rfl rfl rfl rfl rfl (by first | exact fun _ => rfl | exact cs1 | exact cs2 | exact cs3) (by first | exact fun _ => trivial | (intro h; simp at h; first | exact ⟨by omega, by omega⟩ | omega)) rfl ?_
                | refine r_ld_cnd tab_ok rfl rfl rfl rfl rfl rfl (by first | exact fun _ => rfl | exact cs1 | exact cs2 | exact cs3) rfl ?_
                | refine r_idx_cnd tab_ok rfl rfl rfl rfl rfl rfl rfl (by first | exact fun _ => rfl | exact cs1 | exact cs2) rfl rfl (by exact ⟨by omega, by omega⟩) rfl rfl ?_
                | refine r_idx_cnd' tab_ok rfl rfl rfl rfl rfl rfl rfl (by first | exact fun _ => rfl | exact cs1 | exact cs2) rfl rfl (by intro h; simp at h; exact ⟨by omega, by omega⟩) rfl rfl ?_
                | refine r_and_cnd rfl rfl rfl rfl rfl rfl rfl rfl rfl rfl ?_
                | refine r_or_cnd rfl rfl rfl rfl rfl rfl rfl rfl rfl rfl ?_
                | refine r_or rfl rfl rfl rfl rfl rfl rfl rfl ?_
                | refine r_and rfl rfl rfl rfl rfl rfl rfl rfl ?_
                | refine r_pick_t rfl rfl rfl rfl rfl rfl rfl ?_
                | refine r_pick_f rfl rfl rfl rfl rfl rfl rfl ?_
                | refine r_off rfl rfl rfl rfl rfl rfl ?_
                | refine r_len_on tab_ok rfl rfl rfl rfl rfl rfl rfl rfl rfl ?_
                | refine r_ev_on tab_ok rfl rfl rfl rfl rfl rfl (by first | exact trivial | exact ⟨by omega, by omega⟩ | omega) rfl ?_
                | refine r_ld_on tab_ok rfl rfl rfl rfl rfl rfl rfl ?_
                | refine r_build tab_ok rfl rfl rfl rfl rfl rfl ?_
                | refine r_bstr tab_ok rfl rfl rfl rfl rfl rfl rfl rfl rfl rfl ?_
                | refine r_build_cnd tab_ok rfl rfl rfl rfl rfl (by first | exact fun _ => rfl | exact cs1) rfl rfl rfl ?_
                | refine r_built_cnd tab_ok rfl rfl rfl rfl rfl rfl rfl rfl (by first | exact fun _ => rfl | exact cs1) rfl rfl rfl ?_
                | refine r_rem rfl rfl rfl rfl rfl rfl (by omega) rfl ?_
                | refine r_built0 tab_ok rfl rfl rfl rfl rfl rfl rfl ?_
                | refine r_built tab_ok rfl rfl rfl rfl rfl rfl rfl rfl rfl ?_
                | refine r_range tab_ok rfl rfl rfl rfl rfl rfl rfl ?_
                | refine r_next rfl rfl rfl rfl (by assumption) rfl rfl rfl ?_
                | refine r_next_end rfl rfl rfl rfl (by assumption) rfl rfl rfl ?_
                | refine r_nilck rfl rfl rfl rfl rfl rfl rfl ?_
                | refine r_rstr tab_ok rfl rfl rfl rfl rfl rfl rfl rfl ?_
                | refine r_rsstr tab_ok rfl rfl rfl rfl rfl rfl rfl rfl rfl rfl ?_
                | refine r_bstr' tab_ok rfl rfl rfl rfl rfl rfl rfl rfl rfl ?_
                | refine r_rowstr tab_ok rfl rfl rfl rfl rfl rfl rfl rfl rfl rfl ?_
                | refine r_strd tab_ok rfl rfl rfl rfl rfl rfl (by omega) rfl rfl rfl ?_
                | refine r_idxr tab_ok rfl rfl rfl rfl rfl rfl rfl rfl (by first | exact ⟨by omega, by omega⟩ | (simp; omega)) rfl ?_
                | refine r_lde tab_ok rfl rfl rfl rfl rfl (by omega) rfl rfl rfl rfl ?_
                | refine r_idxr_cnd tab_ok rfl rfl rfl rfl rfl rfl rfl rfl (by first | exact fun _ => rfl | exact cs1 | exact cs2) rfl rfl (by first | (intro _; exact ⟨by omega, by omega⟩) | (intro h; simp at h ⊢; omega)) rfl ?_
                | refine r_lde_cnd tab_ok rfl rfl rfl rfl rfl rfl rfl (by first | exact fun _ => rfl | exact cs1 | exact cs2) (by omega) rfl rfl rfl rfl ?_
                | refine r_cut tab_ok rfl rfl rfl rfl rfl rfl rfl rfl (by first | exact ⟨by simp, by simp; omega, by simp⟩ | (simp; omega)) rfl ?_
                | refine r_append tab_ok rfl rfl rfl rfl rfl rfl rfl rfl rfl (by first | omega | (simp; omega)) rfl ?_
                | refine r_append_nil tab_ok rfl rfl rfl rfl rfl rfl rfl rfl (by first | omega | (simp; omega)) rfl ?_)
              | refine ret1 (by first | exact .inl rfl | exact .inr rfl) rfl rfl rfl ?_
              | refine ret1_row (by first | exact .inl rfl | exact .inr rfl) rfl rfl rfl ?_
              | refine ret2 (by first | exact .inl rfl | exact .inr rfl) rfl rfl rfl rfl ?_ ?_
              | refine retM1 (by first | exact .inl rfl | exact .inr rfl) rfl rfl rfl rfl rfl ?_
              | exact retM0 (by first | exact .inl rfl | exact .inr rfl) rfl rfl rfl
              | refine awp_cond_t rfl ?_
              | refine awp_cond_f rfl ?_)
            refine ⟨⟨q, decide (r = 13), out ++ [10], by rw [← hle, hst]; simp, fun h => by omega⟩, by dsimp only; omega, ?_⟩
            dsimp only
            rw [hq0]
            exact fits_conv (by repeat' first | exact trivial | exact rfl | (rw [List.map_append]; first | done | rfl) | exact c_sub rfl (Sub.refl _) rfl | exact c_nil rfl rfl | exact c_thaw rfl rfl rfl | exact c_row rfl rfl rfl | exact c_row rfl rfl (by rw [List.map_append]; first | done | rfl) | exact c_ptr rfl rfl rfl rfl | exact Or.inl ⟨c_sub rfl (Sub.refl _) rfl, c_ptr rfl rfl rfl rfl⟩ | exact c_alt rfl rfl rfl rfl | exact c_sub rfl (Sub.altl _ _) rfl | refine ⟨_, _, rfl, ?_, ?_⟩ | apply And.intro) (by repeat' first | exact trivial | exact rfl | (rw [List.map_append]; first | done | rfl) | exact c_sub rfl (Sub.refl _) rfl | exact c_nil rfl rfl | exact c_thaw rfl rfl rfl | exact c_row rfl rfl rfl | exact c_row rfl rfl (by rw [List.map_append]; first | done | rfl) | exact c_ptr rfl rfl rfl rfl | exact Or.inl ⟨c_sub rfl (Sub.refl _) rfl, c_ptr rfl rfl rfl rfl⟩ | exact c_alt rfl rfl rfl rfl | exact c_sub rfl (Sub.altl _ _) rfl | refine ⟨_, _, rfl, ?_, ?_⟩ | apply And.intro)
          · rw [if_neg (by omega)] at hst
            repeat (first
              | refine awp_seq ?_
              | refine thenA_normal ?_
              | refine awp_block ?_
              | refine a_region ?_
              | refine a_draw1 mixed_ok (by kernel_rfl) ?_
              | refine awp_ret ?_
              | refine awp_exit ?_
              | refine thenA_exit ?_
              | refine thenA_ret ?_
              | refine blockA_normal ?_
              | refine blockA_ret ?_
              | refine blockA_hit rfl ?_
              | refine blockA_miss rfl ?_
              | refine awp_skip ?_
              | refine r_done ?_
              | refine r_done' ?_
              | (refine r_id ?_; first
                | refine r_len tab_ok rfl rfl rfl rfl rfl rfl rfl ?_
                | refine r_ev tab_ok rfl rfl rfl rfl (by first | exact trivial | exact ⟨by omega, by omega⟩ | omega | exact ⟨by omega, by omega, by omega, by omega⟩ | exact Nat.le_of_ble_eq_true rfl) rfl ?_
                | refine r_ld tab_ok rfl rfl rfl rfl rfl ?_
                | refine r_idx tab_ok rfl rfl rfl rfl rfl rfl rfl (by first | exact ⟨by omega, by omega⟩ | (simp; omega)) rfl rfl ?_
                | refine r_idxd tab_ok rfl rfl rfl rfl rfl rfl rfl (by decide) rfl rfl rfl ?_
                | refine r_wr tab_ok rfl rfl rfl rfl rfl ?_
                | refine r_st tab_ok rfl rfl rfl rfl ?_
                | refine r_len_cnd tab_ok rfl rfl rfl rfl rfl rfl (by first | exact fun _ => rfl | exact cs1) rfl rfl rfl ?_
                | refine r_ev_cnd tab_ok rfl rfl rfl rfl rfl rfl (by first | exact fun _ => rfl | exact cs1 | exact cs2 | exact cs3) (by first | exact fun _ => trivial | (intro h; simp at h; first | exact ⟨by omega, by omega⟩ | omega)) rfl ?_
                | refine r_ld_cnd tab_ok rfl rfl rfl rfl rfl rfl (by first | exact fun _ => rfl | exact cs1 | exact cs2 | exact cs3) rfl ?_
                | refine r_idx_cnd tab_ok rfl rfl rfl rfl rfl rfl rfl (by first | exact fun _ => rfl | exact cs1 | exact cs2) rfl rfl (by exact ⟨by omega, by omega⟩) rfl rfl ?_
                | refine r_idx_cnd' tab_ok rfl rfl rfl rfl rfl rfl rfl (by first | exact fun _ => rfl | exact cs1 | exact cs2) rfl rfl (by intro h; simp at h; exact ⟨by omega, by omega⟩) rfl rfl ?_
                | refine r_and_cnd rfl rfl rfl rfl rfl rfl rfl rfl rfl rfl ?_
                | refine r_or_cnd rfl rfl rfl rfl rfl rfl rfl rfl rfl rfl ?_
                | refine r_or rfl rfl rfl rfl rfl rfl rfl rfl ?_
                | refine r_and rfl rfl rfl rfl rfl rfl rfl rfl ?_
                | refine r_pick_t rfl rfl rfl rfl rfl rfl rfl ?_
                | refine r_pick_f rfl rfl rfl rfl rfl rfl rfl ?_
                | refine r_off rfl rfl rfl rfl rfl rfl ?_
                | refine r_len_on tab_ok rfl rfl rfl rfl rfl rfl rfl rfl rfl ?_
                | refine r_ev_on tab_ok rfl rfl rfl rfl rfl rfl (by first | exact trivial | exact ⟨by omega, by omega⟩ | omega) rfl ?_
                | refine r_ld_on tab_ok rfl rfl rfl rfl rfl rfl rfl ?_
                | refine r_build tab_ok rfl rfl rfl rfl rfl rfl ?_
                | refine r_bstr tab_ok rfl rfl rfl rfl rfl rfl rfl rfl rfl rfl ?_
                | refine r_build_cnd tab_ok rfl rfl rfl rfl rfl (by first | exact fun _ => rfl | exact cs1) rfl rfl rfl ?_
                | refine r_built_cnd tab_ok rfl rfl rfl rfl rfl rfl rfl rfl (by first | exact fun _ => rfl | exact cs1) rfl rfl rfl ?_
                | refine r_rem rfl rfl rfl rfl rfl rfl (by omega) rfl ?_
                | refine r_built0 tab_ok rfl rfl rfl rfl rfl rfl rfl ?_
                | refine r_built tab_ok rfl rfl rfl rfl rfl rfl rfl rfl rfl ?_
                | refine r_range tab_ok rfl rfl rfl rfl rfl rfl rfl ?_
                | refine r_next rfl rfl rfl rfl (by assumption) rfl rfl rfl ?_
                | refine r_next_end rfl rfl rfl rfl (by assumption) rfl rfl rfl ?_
                | refine r_nilck rfl rfl rfl rfl rfl rfl rfl ?_
                | refine r_rstr tab_ok rfl rfl rfl rfl rfl rfl rfl rfl ?_
                | refine r_rsstr tab_ok rfl rfl rfl rfl rfl rfl rfl rfl rfl rfl ?_
                | refine r_bstr' tab_ok rfl rfl rfl rfl rfl rfl rfl rfl rfl ?_
                | refine r_rowstr tab_ok rfl rfl rfl rfl rfl rfl rfl rfl rfl rfl ?_
                | refine r_strd tab_ok rfl rfl rfl rfl rfl rfl (by omega) rfl rfl rfl ?_
                | refine r_idxr tab_ok rfl rfl rfl rfl rfl rfl rfl rfl (by first | exact ⟨by omega, by omega⟩ | (simp; omega)) rfl ?_
                | refine r_lde tab_ok rfl rfl rfl rfl rfl (by omega) rfl rfl rfl rfl ?_
                | refine r_idxr_cnd tab_ok rfl rfl rfl rfl rfl rfl rfl rfl (by first | exact fun _ => rfl | exact cs1 | exact cs2) rfl rfl (by first | (intro _; exact ⟨by omega, by omega⟩) | (intro h; simp at h ⊢; omega)) rfl ?_
                | refine r_lde_cnd tab_ok rfl rfl rfl rfl rfl rfl rfl (by first | exact fun _ => rfl | exact cs1 | exact cs2) (by omega) rfl rfl rfl rfl ?_
                | refine r_cut tab_ok rfl rfl rfl rfl rfl rfl rfl rfl (by first | exact ⟨by simp, by simp; omega, by simp⟩ | (simp; omega)) rfl ?_
                | refine r_append tab_ok rfl rfl rfl rfl rfl rfl rfl rfl rfl (by first | omega | (simp; omega)) rfl ?_
                | refine r_append_nil tab_ok rfl rfl rfl rfl rfl rfl rfl rfl (by first | omega | (simp; omega)) rfl ?_)
              | refine ret1 (by first | exact .inl rfl | exact .inr rfl) rfl rfl rfl ?_
              | refine ret1_row (by first | exact .inl rfl | exact .inr rfl) rfl rfl rfl ?_
              | refine ret2 (by first | exact .inl rfl | exact .inr rfl) rfl rfl rfl rfl ?_ ?_
              | refine retM1 (by first | exact .inl rfl | exact .inr rfl) rfl rfl rfl rfl rfl ?_
              | exact retM0 (by first | exact .inl rfl | exact .inr rfl) rfl rfl rfl
              | refine awp_cond_t rfl ?_
              | refine awp_cond_f rfl ?_)
            refine awp_cond_p rfl (fun h6 => ?_) (fun h6 => ?_)
            · rw [if_pos h6] at hst
              repeat (first
                | refine awp_seq ?_
                | refine thenA_normal ?_
                | refine awp_block ?_
                | refine a_region ?_
                | refine a_draw1 mixed_ok (by kernel_rfl) ?_
                | refine awp_ret ?_
                | refine awp_exit ?_
                | refine thenA_exit ?_
                | refine thenA_ret ?_
                | refine blockA_normal ?_
                | refine blockA_ret ?_
                | refine blockA_hit rfl ?_
                | refine blockA_miss rfl ?_
                | refine awp_skip ?_
                | refine r_done ?_
                | refine r_done' ?_
                | (refine r_id ?_; first
                  | refine r_len tab_ok rfl rfl rfl rfl rfl rfl rfl ?_
                  | refine r_ev tab_ok rfl rfl rfl rfl (by first | exact trivial | exact ⟨by omega, by omega⟩ | omega | exact ⟨by omega, by omega, by omega, by omega⟩ | exact Nat.le_of_ble_eq_true rfl) rfl ?_
                  | refine r_ld tab_ok rfl rfl rfl rfl rfl ?_
                  | refine r_idx tab_ok rfl rfl rfl rfl rfl rfl rfl (by first | exact ⟨by omega, by omega⟩ | (simp; omega)) rfl rfl ?_
                  | refine r_idxd tab_ok rfl rfl rfl rfl rfl rfl rfl (by decide) rfl rfl rfl ?_
                  | refine r_wr tab_ok rfl rfl rfl rfl rfl ?_
                  | refine r_st tab_ok rfl rfl rfl rfl ?_
                  | refine r_len_cnd tab_ok rfl rfl rfl rfl rfl rfl (by first | exact fun _ => rfl | exact cs1) rfl rfl rfl ?_
                  | refine r_ev_cnd tab_ok rfl rfl rfl rfl rfl rfl (by first | exact fun _ => rfl | exact cs1 | exact cs2 | exact cs3) (by first | exact fun _ => trivial | (intro h; simp at h; first | exact ⟨by omega, by omega⟩ | omega)) rfl ?_
                  | refine r_ld_cnd tab_ok rfl rfl rfl rfl rfl rfl (by first | exact fun _ => rfl | exact cs1 | exact cs2 | exact cs3) rfl ?_
                  | refine r_idx_cnd tab_ok rfl rfl rfl rfl rfl rfl rfl (by first | exact fun _ => rfl | exact cs1 | exact cs2) rfl rfl (by exact ⟨by omega, by omega⟩) rfl rfl ?_
                  | refine r_idx_cnd' tab_ok rfl rfl rfl rfl rfl rfl rfl (by first | exact fun _ => rfl | exact cs1 | exact cs2) rfl rfl (by intro h; simp at h; exact ⟨by omega, by omega⟩) rfl rfl ?_
                  | refine r_and_cnd rfl rfl rfl rfl rfl rfl rfl rfl rfl rfl ?_
                  | refine r_or_cnd rfl rfl rfl rfl rfl rfl rfl rfl rfl rfl ?_
                  | refine r_or rfl rfl rfl rfl rfl rfl rfl rfl ?_
                  | refine r_and rfl rfl rfl rfl rfl rfl rfl rfl ?_
                  | refine r_pick_t rfl rfl rfl rfl rfl rfl rfl ?_
                  | refine r_pick_f rfl rfl rfl rfl rfl rfl rfl ?_
                  | refine r_off rfl rfl rfl rfl rfl rfl ?_
                  | refine r_len_on tab_ok rfl rfl rfl rfl rfl rfl rfl rfl rfl ?_
                  | refine r_ev_on tab_ok rfl rfl rfl rfl rfl rfl (by first | exact trivial | exact ⟨by omega, by omega⟩ | omega) rfl ?_
                  | refine r_ld_on tab_ok rfl rfl rfl rfl rfl rfl rfl ?_
                  | refine r_build tab_ok rfl rfl rfl rfl rfl rfl ?_
                  | refine r_bstr tab_ok rfl rfl rfl rfl rfl rfl rfl rfl rfl rfl ?_
                  | refine r_build_cnd tab_ok rfl rfl rfl rfl rfl (by first | exact fun _ => rfl | exact cs1) rfl rfl rfl ?_
                  | refine r_built_cnd tab_ok rfl rfl rfl rfl rfl rfl rfl rfl (by first | exact fun _ => rfl | exact cs1) rfl rfl rfl ?_
                  | refine r_rem rfl rfl rfl rfl rfl rfl (by omega) rfl ?_
                  | refine r_built0 tab_ok rfl rfl rfl rfl rfl rfl rfl ?_
                  | refine r_built tab_ok rfl rfl rfl rfl rfl rfl rfl rfl rfl ?_
                  | refine r_range tab_ok rfl rfl rfl rfl rfl rfl rfl ?_
                  | refine r_next rfl rfl rfl rfl (by assumption) rfl rfl rfl ?_
                  | refine r_next_end rfl rfl rfl rfl (by assumption) rfl rfl rfl ?_
                  | refine r_nilck rfl rfl rfl rfl rfl rfl rfl ?_
                  | refine r_rstr tab_ok rfl rfl rfl rfl rfl rfl rfl rfl ?_
                  | refine r_rsstr tab_ok rfl rfl rfl rfl rfl rfl rfl rfl rfl rfl ?_
                  | refine r_bstr' tab_ok rfl rfl rfl rfl rfl rfl rfl rfl rfl ?_
                  | refine r_rowstr tab_ok rfl rfl rfl rfl rfl rfl rfl rfl rfl rfl ?_
                  | refine r_strd tab_ok rfl rfl rfl rfl rfl rfl (by omega) rfl rfl rfl ?_
                  | refine r_idxr tab_ok rfl rfl rfl rfl rfl rfl rfl rfl (by first | exact ⟨by omega, by omega⟩ | (simp; omega)) rfl ?_
                  | refine r_lde tab_ok rfl rfl rfl rfl rfl (by omega) rfl rfl rfl rfl ?_
                  | refine r_idxr_cnd tab_ok rfl rfl rfl rfl rfl rfl rfl rfl (by first | exact fun _ => rfl | exact cs1 | exact cs2) rfl rfl (by first | (intro _; exact ⟨by omega, by omega⟩) | (intro h; simp at h ⊢; omega)) rfl ?_
                  | refine r_lde_cnd tab_ok rfl rfl rfl rfl rfl rfl rfl (by first | exact fun _ => rfl | exact cs1 | exact cs2) (by omega) rfl rfl rfl rfl ?_
                  | refine r_cut tab_ok rfl rfl rfl rfl rfl rfl rfl rfl (by first | exact ⟨by simp, by simp; omega, by simp⟩ | (simp; omega)) rfl ?_
                  | refine r_append tab_ok rfl rfl rfl rfl rfl rfl rfl rfl rfl (by first | omega | (simp; omega)) rfl ?_
                  | refine r_append_nil tab_ok rfl rfl rfl rfl rfl rfl rfl rfl (by first | omega | (simp; omega)) rfl ?_)
                | refine ret1 (by first | exact .inl rfl | exact .inr rfl) rfl rfl rfl ?_
                | refine ret1_row (by first | exact .inl rfl | exact .inr rfl) rfl rfl rfl ?_
                | refine ret2 (by first | exact .inl rfl | exact .inr rfl) rfl rfl rfl rfl ?_ ?_
                | refine retM1 (by first | exact .inl rfl | exact .inr rfl) rfl rfl rfl rfl rfl ?_
                | exact retM0 (by first | exact .inl rfl | exact .inr rfl) rfl rfl rfl
                | refine awp_cond_t rfl ?_
                | refine awp_cond_f rfl ?_)
              refine ⟨⟨q, decide (r = 13), out ++ [65533], by rw [← hle, hst]; simp, fun h => by omega⟩, by dsimp only; omega, ?_⟩
              dsimp only
              rw [hq0]
              exact fits_conv (by repeat' first | exact trivial | exact rfl | (rw [List.map_append]; first | done | rfl) | exact c_sub rfl (Sub.refl _) rfl | exact c_nil rfl rfl | exact c_thaw rfl rfl rfl | exact c_row rfl rfl rfl | exact c_row rfl rfl (by rw [List.map_append]; first | done | rfl) | exact c_ptr rfl rfl rfl rfl | exact Or.inl ⟨c_sub rfl (Sub.refl _) rfl, c_ptr rfl rfl rfl rfl⟩ | exact c_alt rfl rfl rfl rfl | exact c_sub rfl (Sub.altl _ _) rfl | refine ⟨_, _, rfl, ?_, ?_⟩ | apply And.intro) (by repeat' first | exact trivial | exact rfl | (rw [List.map_append]; first | done | rfl) | exact c_sub rfl (Sub.refl _) rfl | exact c_nil rfl rfl | exact c_thaw rfl rfl rfl | exact c_row rfl rfl rfl | exact c_row rfl rfl (by rw [List.map_append]; first | done | rfl) | exact c_ptr rfl rfl rfl rfl | exact Or.inl ⟨c_sub rfl (Sub.refl _) rfl, c_ptr rfl rfl rfl rfl⟩ | exact c_alt rfl rfl rfl rfl | exact c_sub rfl (Sub.altl _ _) rfl | refine ⟨_, _, rfl, ?_, ?_⟩ | apply And.intro)
            · rw [if_neg h6] at hst
              repeat (first
                | refine awp_seq ?_
                | refine thenA_normal ?_
                | refine awp_block ?_
                | refine a_region ?_
                | refine a_draw1 mixed_ok (by kernel_rfl) ?_
                | refine awp_ret ?_
                | refine awp_exit ?_
                | refine thenA_exit ?_
                | refine thenA_ret ?_
                | refine blockA_normal ?_
                | refine blockA_ret ?_
                | refine blockA_hit rfl ?_
                | refine blockA_miss rfl ?_
                | refine awp_skip ?_
                | refine r_done ?_
                | refine r_done' ?_
                | (refine r_id ?_; first
                  | refine r_len tab_ok rfl rfl rfl rfl rfl rfl rfl ?_
                  | refine r_ev tab_ok rfl rfl rfl rfl (by first | exact trivial | exact ⟨by omega, by omega⟩ | omega | exact ⟨by omega, by omega, by omega, by omega⟩ | exact Nat.le_of_ble_eq_true rfl) rfl ?_
                  | refine r_ld tab_ok rfl rfl rfl rfl rfl ?_
                  | refine r_idx tab_ok rfl rfl rfl rfl rfl rfl rfl (by first | exact ⟨by omega, by omega⟩ | (simp; omega)) rfl rfl ?_
                  | refine r_idxd tab_ok rfl rfl rfl rfl rfl rfl rfl (by decide) rfl rfl rfl ?_
                  | refine r_wr tab_ok rfl rfl rfl rfl rfl ?_
                  | refine r_st tab_ok rfl rfl rfl rfl ?_
                  | refine r_len_cnd tab_ok rfl rfl rfl rfl rfl rfl (by first | exact fun _ => rfl | exact cs1) rfl rfl rfl ?_
                  | refine r_ev_cnd tab_ok rfl rfl rfl rfl rfl rfl (by first | exact fun _ => rfl | exact cs1 | exact cs2 | exact cs3) (by first | exact fun _ => trivial | (intro h; simp at h; first | exact ⟨by omega, by omega⟩ | omega)) rfl ?_
                  | refine r_ld_cnd tab_ok rfl rfl rfl rfl rfl rfl (by first | exact fun _ => rfl | exact cs1 | exact cs2 | exact cs3) rfl ?_
                  | refine r_idx_cnd tab_ok rfl rfl rfl rfl rfl rfl rfl (by first | exact fun _ => rfl | exact cs1 | exact cs2) rfl rfl (by exact ⟨by omega, by omega⟩) rfl rfl ?_
                  | refine r_idx_cnd' tab_ok rfl rfl rfl rfl rfl rfl rfl (by first | exact fun _ => rfl | exact cs1 | exact cs2) rfl rfl (by intro h; simp at h; exact ⟨by omega, by omega⟩) rfl rfl ?_
                  | refine r_and_cnd rfl rfl rfl rfl rfl rfl rfl rfl rfl rfl ?_
                  | refine r_or_cnd rfl rfl rfl rfl rfl rfl rfl rfl rfl rfl ?_
                  | refine r_or rfl rfl rfl rfl rfl rfl rfl rfl ?_
                  | refine r_and rfl rfl rfl rfl rfl rfl rfl rfl ?_
                  | refine r_pick_t rfl rfl rfl rfl rfl rfl rfl ?_
                  | refine r_pick_f rfl rfl rfl rfl rfl rfl rfl ?_
                  | refine r_off rfl rfl rfl rfl rfl rfl ?_
                  | refine r_len_on tab_ok rfl rfl rfl rfl rfl rfl rfl rfl rfl ?_
                  | refine r_ev_on tab_ok rfl rfl rfl rfl rfl rfl (by first | exact trivial | exact ⟨by omega, by omega⟩ | omega) rfl ?_
                  | refine r_ld_on tab_ok rfl rfl rfl rfl rfl rfl rfl ?_
                  | refine r_build tab_ok rfl rfl rfl rfl rfl rfl ?_
                  | refine r_bstr tab_ok rfl rfl rfl rfl rfl rfl rfl rfl rfl rfl ?_
                  | refine r_build_cnd tab_ok rfl rfl rfl rfl rfl (by first | exact fun _ => rfl | exact cs1) rfl rfl rfl ?_
                  | refine r_built_cnd tab_ok rfl rfl rfl rfl rfl rfl rfl rfl (by first | exact fun _ => rfl | exact cs1) rfl rfl rfl ?_
                  | refine r_rem rfl rfl rfl rfl rfl rfl (by omega) rfl ?_
                  | refine r_built0 tab_ok rfl rfl rfl rfl rfl rfl rfl ?_
                  | refine r_built tab_ok rfl rfl rfl rfl rfl rfl rfl rfl rfl ?_
                  | refine r_range tab_ok rfl rfl rfl rfl rfl rfl rfl ?_
                  | refine r_next rfl rfl rfl rfl (by assumption) rfl rfl rfl ?_
                  | refine r_next_end rfl rfl rfl rfl (by assumption) rfl rfl rfl ?_
                  | refine r_nilck rfl rfl rfl rfl rfl rfl rfl ?_
                  | refine r_rstr tab_ok rfl rfl rfl rfl rfl rfl rfl rfl ?_
                  | refine r_rsstr tab_ok rfl rfl rfl rfl rfl rfl rfl rfl rfl rfl ?_
                  | refine r_bstr' tab_ok rfl rfl rfl rfl rfl rfl rfl rfl rfl ?_
                  | refine r_rowstr tab_ok rfl rfl rfl rfl rfl rfl rfl rfl rfl rfl ?_
                  | refine r_strd tab_ok rfl rfl rfl rfl rfl rfl (by omega) rfl rfl rfl ?_
                  | refine r_idxr tab_ok rfl rfl rfl rfl rfl rfl rfl rfl (by first | exact ⟨by omega, by omega⟩ | (simp; omega)) rfl ?_
                  | refine r_lde tab_ok rfl rfl rfl rfl rfl (by omega) rfl rfl rfl rfl ?_
                  | refine r_idxr_cnd tab_ok rfl rfl rfl rfl rfl rfl rfl rfl (by first | exact fun _ => rfl | exact cs1 | exact cs2) rfl rfl (by first | (intro _; exact ⟨by omega, by omega⟩) | (intro h; simp at h ⊢; omega)) rfl ?_
                  | refine r_lde_cnd tab_ok rfl rfl rfl rfl rfl rfl rfl (by first | exact fun _ => rfl | exact cs1 | exact cs2) (by omega) rfl rfl rfl rfl ?_
                  | refine r_cut tab_ok rfl rfl rfl rfl rfl rfl rfl rfl (by first | exact ⟨by simp, by simp; omega, by simp⟩ | (simp; omega)) rfl ?_
                  | refine r_append tab_ok rfl rfl rfl rfl rfl rfl rfl rfl rfl (by first | omega | (simp; omega)) rfl ?_
                  | refine r_append_nil tab_ok rfl rfl rfl rfl rfl rfl rfl rfl (by first | omega | (simp; omega)) rfl ?_)
                | refine ret1 (by first | exact .inl rfl | exact .inr rfl) rfl rfl rfl ?_
                | refine ret1_row (by first | exact .inl rfl | exact .inr rfl) rfl rfl rfl ?_
                | refine ret2 (by first | exact .inl rfl | exact .inr rfl) rfl rfl rfl rfl ?_ ?_
                | refine retM1 (by first | exact .inl rfl | exact .inr rfl) rfl rfl rfl rfl rfl ?_
                | exact retM0 (by first | exact .inl rfl | exact .inr rfl) rfl rfl rfl
                | refine awp_cond_t rfl ?_
                | refine awp_cond_f rfl ?_)
              refine ⟨⟨q, decide (r = 13), out ++ [r], by rw [← hle, hst]; simp, fun h => by omega⟩, by dsimp only; omega, ?_⟩
              dsimp only
              rw [hq0]
              exact fits_conv (by repeat' first | exact trivial | exact rfl | (rw [List.map_append]; first | done | rfl) | exact c_sub rfl (Sub.refl _) rfl | exact c_nil rfl rfl | exact c_thaw rfl rfl rfl | exact c_row rfl rfl rfl | exact c_row rfl rfl (by rw [List.map_append]; first | done | rfl) | exact c_ptr rfl rfl rfl rfl | exact Or.inl ⟨c_sub rfl (Sub.refl _) rfl, c_ptr rfl rfl rfl rfl⟩ | exact c_alt rfl rfl rfl rfl | exact c_sub rfl (Sub.altl _ _) rfl | refine ⟨_, _, rfl, ?_, ?_⟩ | apply And.intro) (by repeat' first | exact trivial | exact rfl | (rw [List.map_append]; first | done | rfl) | exact c_sub rfl (Sub.refl _) rfl | exact c_nil rfl rfl | exact c_thaw rfl rfl rfl | exact c_row rfl rfl rfl | exact c_row rfl rfl (by rw [List.map_append]; first | done | rfl) | exact c_ptr rfl rfl rfl rfl | exact Or.inl ⟨c_sub rfl (Sub.refl _) rfl, c_ptr rfl rfl rfl rfl⟩ | exact c_alt rfl rfl rfl rfl | exact c_sub rfl (Sub.altl _ _) rfl | refine ⟨_, _, rfl, ?_, ?_⟩ | apply And.intro)
  · rw [rdAt_end hp, List.append_nil] at hle
    subst hle
    repeat (first
      | refine awp_seq ?_
      | refine thenA_normal ?_
      | refine awp_block ?_
      | refine a_region ?_
      | refine a_draw1 mixed_ok (by kernel_rfl) ?_
      | refine awp_ret ?_
      | refine awp_exit ?_
      | refine thenA_exit ?_
      | refine thenA_ret ?_
      | refine blockA_normal ?_
      | refine blockA_ret ?_
      | refine blockA_hit rfl ?_
      | refine blockA_miss rfl ?_
      | refine awp_skip ?_
      | refine r_done ?_
      | refine r_done' ?_
      | (refine r_id ?_; first
        | refine r_len tab_ok rfl rfl rfl rfl rfl rfl rfl ?_
        | refine r_ev tab_ok rfl rfl rfl rfl (by first | exact trivial | exact ⟨by omega, by omega⟩ | omega | exact ⟨by omega, by omega, by omega, by omega⟩ | exact Nat.le_of_ble_eq_true rfl) rfl ?_
        | refine r_ld tab_ok rfl rfl rfl rfl rfl ?_
        | refine r_idx tab_ok rfl rfl rfl rfl rfl rfl rfl (by first | exact ⟨by omega, by omega⟩ | (simp; omega)) rfl rfl ?_
        | refine r_idxd tab_ok rfl rfl rfl rfl rfl rfl rfl (by decide) rfl rfl rfl ?_
        | refine r_wr tab_ok rfl rfl rfl rfl rfl ?_
        | refine r_st tab_ok rfl rfl rfl rfl ?_
        | refine r_len_cnd tab_ok rfl rfl rfl rfl rfl rfl (by first | exact fun _ => rfl | exact cs1) rfl rfl rfl ?_
        | refine r_ev_cnd tab_ok rfl rfl rfl rfl rfl rfl (by first | exact fun _ => rfl | exact cs1 | exact cs2 | exact cs3) (by first | exact fun _ => trivial | (intro h; simp at h; first | exact ⟨by omega, by omega⟩ | omega)) rfl ?_
        | refine r_ld_cnd tab_ok rfl rfl rfl rfl rfl rfl (by first | exact fun _ => rfl | exact cs1 | exact cs2 | exact cs3) rfl ?_
        | refine r_idx_cnd tab_ok rfl rfl rfl rfl rfl rfl rfl (by first | exact fun _ => rfl | exact cs1 | exact cs2) rfl rfl (by exact ⟨by omega, by omega⟩) rfl rfl ?_
        | refine r_idx_cnd' tab_ok rfl rfl rfl rfl rfl rfl rfl (by first | exact fun _ => rfl | exact cs1 | exact cs2) rfl rfl (by intro h; simp at h; exact ⟨by omega, by omega⟩) rfl rfl ?_
        | refine r_and_cnd rfl rfl rfl rfl rfl rfl rfl rfl rfl rfl ?_
        | refine r_or_cnd rfl rfl rfl rfl rfl rfl rfl rfl rfl rfl ?_
        | refine r_or rfl rfl rfl rfl rfl rfl rfl rfl ?_
        | refine r_and rfl rfl rfl rfl rfl rfl rfl rfl ?_
        | refine r_pick_t rfl rfl rfl rfl rfl rfl rfl ?_
        | refine r_pick_f rfl rfl rfl rfl rfl rfl rfl ?_
        | refine r_off rfl rfl rfl rfl rfl rfl ?_
        | refine r_len_on tab_ok rfl rfl rfl rfl rfl rfl rfl rfl rfl ?_
        | refine r_ev_on tab_ok rfl rfl rfl rfl rfl rfl (by first | exact trivial | exact ⟨by omega, by omega⟩ | omega) rfl ?_
        | refine r_ld_on tab_ok rfl rfl rfl rfl rfl rfl rfl ?_
        | refine r_build tab_ok rfl rfl rfl rfl rfl rfl ?_
        | refine r_bstr tab_ok rfl rfl rfl rfl rfl rfl rfl rfl rfl rfl ?_
        | refine r_build_cnd tab_ok rfl rfl rfl rfl rfl (by first | exact fun _ => rfl | exact cs1) rfl rfl rfl ?_
        | refine r_built_cnd tab_ok rfl rfl rfl rfl rfl rfl rfl rfl (by first | exact fun _ => rfl | exact cs1) rfl rfl rfl ?_
        | refine r_rem rfl rfl rfl rfl rfl rfl (by omega) rfl ?_
        | refine r_built0 tab_ok rfl rfl rfl rfl rfl rfl rfl ?_
        | refine r_built tab_ok rfl rfl rfl rfl rfl rfl rfl rfl rfl ?_
        | refine r_range tab_ok rfl rfl rfl rfl rfl rfl rfl ?_
        | refine r_next rfl rfl rfl rfl (by assumption) rfl rfl rfl ?_
        | refine r_next_end rfl rfl rfl rfl (by assumption) rfl rfl rfl ?_
        | refine r_nilck rfl rfl rfl rfl rfl rfl rfl ?_
        | refine r_rstr tab_ok rfl rfl rfl rfl rfl rfl rfl rfl ?_
        | refine r_rsstr tab_ok rfl rfl rfl rfl rfl rfl rfl rfl rfl rfl ?_
        | refine r_bstr' tab_ok rfl rfl rfl rfl rfl rfl rfl rfl rfl ?_
        | refine r_rowstr tab_ok rfl rfl rfl rfl rfl rfl rfl rfl rfl rfl ?_
        | refine r_strd tab_ok rfl rfl rfl rfl rfl rfl (by omega) rfl rfl rfl ?_
        | refine r_idxr tab_ok rfl rfl rfl rfl rfl rfl rfl rfl (by first | exact ⟨by omega, by omega⟩ | (simp; omega)) rfl ?_
        | refine r_lde tab_ok rfl rfl rfl rfl rfl (by omega) rfl rfl rfl rfl ?_
        | refine r_idxr_cnd tab_ok rfl rfl rfl rfl rfl rfl rfl rfl (by first | exact fun _ => rfl | exact cs1 | exact cs2) rfl rfl (by first | (intro _; exact ⟨by omega, by omega⟩) | (intro h; simp at h ⊢; omega)) rfl ?_
        | refine r_lde_cnd tab_ok rfl rfl rfl rfl rfl rfl rfl (by first | exact fun _ => rfl | exact cs1 | exact cs2) (by omega) rfl rfl rfl rfl ?_
        | refine r_cut tab_ok rfl rfl rfl rfl rfl rfl rfl rfl (by first | exact ⟨by simp, by simp; omega, by simp⟩ | (simp; omega)) rfl ?_
        | refine r_append tab_ok rfl rfl rfl rfl rfl rfl rfl rfl rfl (by first | omega | (simp; omega)) rfl ?_
        | refine r_append_nil tab_ok rfl rfl rfl rfl rfl rfl rfl rfl (by first | omega | (simp; omega)) rfl ?_)
      | refine ret1 (by first | exact .inl rfl | exact .inr rfl) rfl rfl rfl ?_
      | refine ret1_row (by first | exact .inl rfl | exact .inr rfl) rfl rfl rfl ?_
      | refine ret2 (by first | exact .inl rfl | exact .inr rfl) rfl rfl rfl rfl ?_ ?_
      | refine retM1 (by first | exact .inl rfl | exact .inr rfl) rfl rfl rfl rfl rfl ?_
      | exact retM0 (by first | exact .inl rfl | exact .inr rfl) rfl rfl rfl
      | refine awp_cond_t rfl ?_
      | refine awp_cond_f rfl ?_)
    exact Sub.refl _
end Go.Proofs.Ytpnjkdmcalcleaa
