import Derived.Test.YtiolnmfaeenlmaaGreatDoorK7
import Derived.Test.YtiolnmfaeenlmaaGreatDoorL0
import Derived.Test.YtiolnmfaeenlmaaGreatDoorI8
import Derived.Test.YtiolnmfaeenlmaaGreatDoorF4
/- points.Read, walked. -/
namespace Go.Proofs.YtiolnmfaeenlmaaGreatDoor
open Go Go.RowKit

theorem pread_ok (b : List UInt8) (hb : b.length ≤ 17592186044416) : PCalls Tryz.prog 28 [.sl 1 (b.map bD)] (.sl 1 ((readL ⟨b.toArray⟩).map rD)) := by
  refine p_start Tryz.func28 Tryz.ntmps28 rfl rfl rfl fun S w => ?_
  have hs : (⟨b.toArray⟩ : ByteArray).size ≤ 17592186044416 := by simpa [ByteArray.size] using hb
  generalize hsd : (⟨b.toArray⟩ : ByteArray) = s at hs
  repeat (first | refine awp_seq ?_ | refine thenA_normal ?_ | refine awp_block ?_ | refine a_region ?_ | refine r_done ?_ | (refine r_id ?_; first | refine r_ev tab_ok rfl rfl rfl rfl byE rfl ?_ | refine r_range tab_ok rfl rfl rfl rfl rfl rfl rfl ?_ | refine r_bstr' tab_ok rfl rfl rfl rfl rfl rfl rfl rfl rfl ?_))
  rw [hsd]
  refine a_loop (σ := RS s) (fun x => [.iter s x.pos, .row 0 21 1 (x.out.map rD)]) (fun x => [(2, .row 1 0), (3, .val (.bool x.cr)), (9, .ptr 0 0)]) (fun x => s.size - x.pos) ⟨0, false, [], rfl, fun _ => rfl⟩ (fits_conv byV byV) ?_
  intro x
  have hxl := x.len
  obtain ⟨pos, cr, out, hle, hc0⟩ := x
  dsimp only at hxl ⊢
  by_cases hp : pos < s.size
  · have hst := rdAt_step (cr := cr) hp
    have hd1 := decode_one s pos hp
    repeat (first | refine awp_seq ?_ | refine thenA_normal ?_ | refine awp_block ?_ | refine a_region ?_ | refine awp_skip ?_ | refine r_done ?_ | (refine r_id ?_; first | refine r_ev tab_ok rfl rfl rfl rfl byE rfl ?_ | refine r_ev_cnd tab_ok rfl rfl rfl rfl rfl rfl byC (by first | exact fun _ => trivial | (intro h; simp at h; first | exact ⟨by omega, by omega⟩ | omega)) rfl ?_ | refine r_and rfl rfl rfl rfl rfl rfl rfl rfl ?_ | refine r_next rfl rfl rfl rfl (by assumption) rfl rfl rfl ?_) | refine awp_cond_t rfl ?_)
    generalize hr : ((Utf8.decode s pos).1 : Int) = r at hst ⊢
    generalize hq : pos + (Utf8.decode s pos).2 = q at hst ⊢
    have hq' : pos < q := by omega
    refine awp_cond rfl (fun h1 => ?_) (fun h1 => ?_)
    · simp at h1
      rw [if_pos (.inl (by omega))] at hst
      repeat (first | refine thenA_normal ?_ | refine awp_skip ?_)
      refine awp_cond rfl (fun _ => ?_) (fun h => by simp [h1] at h)
      repeat (first | refine thenA_normal ?_ | refine awp_exit ?_ | refine thenA_exit ?_ | refine blockA_hit rfl ?_ | refine blockA_miss rfl ?_)
      exact ⟨⟨q, decide (r = 13), out, by rw [← hle, hst]; simp, fun h => by omega⟩, by dsimp only; omega, fits_conv byV byV⟩
    · simp at h1
      repeat (first | refine thenA_normal ?_ | refine a_region ?_ | refine r_done ?_ | (refine r_id ?_; first | refine r_ev tab_ok rfl rfl rfl rfl byE rfl ?_ | refine r_ev_cnd tab_ok rfl rfl rfl rfl rfl rfl byC (by first | exact fun _ => trivial | (intro h; simp at h; first | exact ⟨by omega, by omega⟩ | omega)) rfl ?_ | refine r_and rfl rfl rfl rfl rfl rfl rfl rfl ?_))
      refine awp_cond rfl (fun h2 => ?_) (fun h2 => ?_)
      · simp at h2
        rw [if_pos (.inr h2)] at hst
        repeat (first | refine thenA_normal ?_ | refine awp_exit ?_ | refine thenA_exit ?_ | refine blockA_hit rfl ?_ | refine blockA_miss rfl ?_)
        exact ⟨⟨q, decide (r = 13), out, by rw [← hle, hst]; simp, fun h => by omega⟩, by dsimp only; omega, fits_conv byV byV⟩
      · have h3 : ¬ (r = 10 ∧ cr = true) := by simpa using h2
        rw [if_neg (by rintro (h | h); exact h1 (by omega) h.2; exact h3 h)] at hst
        repeat (first | refine awp_seq ?_ | refine thenA_normal ?_ | refine a_region ?_ | refine r_done ?_ | (refine r_id ?_; first | refine r_ev tab_ok rfl rfl rfl rfl byE rfl ?_ | refine r_ev_cnd tab_ok rfl rfl rfl rfl rfl rfl byC (by first | exact fun _ => trivial | (intro h; simp at h; first | exact ⟨by omega, by omega⟩ | omega)) rfl ?_ | refine r_or rfl rfl rfl rfl rfl rfl rfl rfl ?_))
        refine awp_cond rfl (fun h4 => ?_) (fun h4 => ?_)
        · simp at h4
          rw [if_pos h4] at hst
          repeat (first | refine thenA_normal ?_ | refine a_region ?_ | refine blockA_normal ?_ | refine r_done ?_ | (refine r_id ?_; first | refine r_ev tab_ok rfl rfl rfl rfl byE rfl ?_ | refine r_built tab_ok rfl rfl rfl rfl rfl rfl rfl rfl rfl ?_ | refine r_append tab_ok rfl rfl rfl rfl rfl rfl rfl rfl rfl (by first | omega | (simp; omega)) rfl ?_))
          exact ⟨⟨q, decide (r = 13), out ++ [10], by rw [← hle, hst]; simp, fun h => by omega⟩, by dsimp only; omega, fits_conv byV byV⟩
        · simp at h4
          rw [if_neg (by omega)] at hst
          repeat (first | refine awp_seq ?_ | refine thenA_normal ?_ | refine a_region ?_ | refine r_done ?_ | (refine r_id ?_; first | refine r_ev tab_ok rfl rfl rfl rfl byE rfl ?_))
          refine awp_cond_p rfl (fun h5 => ?_) (fun h5 => ?_)
          · rw [if_pos h5] at hst
            repeat (first | refine thenA_normal ?_ | refine a_region ?_ | refine blockA_normal ?_ | refine r_done ?_ | (refine r_id ?_; first | refine r_ev tab_ok rfl rfl rfl rfl byE rfl ?_ | refine r_built tab_ok rfl rfl rfl rfl rfl rfl rfl rfl rfl ?_ | refine r_append tab_ok rfl rfl rfl rfl rfl rfl rfl rfl rfl (by first | omega | (simp; omega)) rfl ?_))
            exact ⟨⟨q, decide (r = 13), out ++ [65533], by rw [← hle, hst]; simp, fun h => by omega⟩, by dsimp only; omega, fits_conv byV byV⟩
          · rw [if_neg h5] at hst
            repeat (first | refine thenA_normal ?_ | refine a_region ?_ | refine blockA_normal ?_ | refine awp_skip ?_ | refine r_done ?_ | (refine r_id ?_; first | refine r_ev tab_ok rfl rfl rfl rfl byE rfl ?_ | refine r_built tab_ok rfl rfl rfl rfl rfl rfl rfl rfl rfl ?_ | refine r_append tab_ok rfl rfl rfl rfl rfl rfl rfl rfl rfl (by first | omega | (simp; omega)) rfl ?_))
            exact ⟨⟨q, decide (r = 13), out ++ [r], by rw [← hle, hst]; simp, fun h => by omega⟩, by dsimp only; omega, fits_conv byV byV⟩
  · rw [rdAt_end hp, List.append_nil] at hle
    subst hle
    repeat (first | refine awp_seq ?_ | refine thenA_normal ?_ | refine a_region ?_ | refine awp_ret ?_ | refine awp_exit ?_ | refine r_done ?_ | (refine r_id ?_; first | refine r_ev tab_ok rfl rfl rfl rfl byE rfl ?_ | refine r_next_end rfl rfl rfl rfl (by assumption) rfl rfl rfl ?_) | refine ret1_row byO rfl rfl rfl ?_ | refine awp_cond_f rfl ?_)
    exact Sub.refl _
end Go.Proofs.YtiolnmfaeenlmaaGreatDoor

/- package rules: the small functions; until; walked. -/
namespace Go.Proofs.YtiolnmfaeenlmaaGreatDoor
open Go Go.RowKit
set_option maxRecDepth 20000

theorem pblock_ok (n : Nd) : PCalls Tryz.prog 53 [nA n] (.val (.bool (blkB n))) := by
  refine p_start Tryz.func53 Tryz.ntmps53 rfl rfl rfl fun S w => ?_
  repeat (first | refine awp_seq ?_ | refine thenA_normal ?_ | refine a_region ?_ | refine awp_ret ?_ | refine r_done ?_ | (refine r_id ?_; first | refine r_ev tab_ok rfl rfl rfl rfl byE rfl ?_ | refine r_ld tab_ok rfl rfl rfl rfl rfl ?_ | refine r_wr tab_ok rfl rfl rfl rfl rfl ?_ | refine r_ev_cnd tab_ok rfl rfl rfl rfl rfl rfl byC (by first | exact fun _ => trivial | (intro h; simp at h; first | exact ⟨by omega, by omega⟩ | omega)) rfl ?_ | refine r_ld_cnd tab_ok rfl rfl rfl rfl rfl rfl byC rfl ?_ | refine r_and rfl rfl rfl rfl rfl rfl rfl rfl ?_) | refine ret1 byO rfl rfl rfl ?_)
  exact Sub.refl _
theorem psemi_ok (n : Nd) : PCalls Tryz.prog 44 [nA n] (.val (.bool (semB n))) := by
  refine p_start Tryz.func44 Tryz.ntmps44 rfl rfl rfl fun S w => ?_
  repeat (first | refine awp_seq ?_ | refine thenA_normal ?_ | refine a_region ?_ | refine awp_ret ?_ | refine r_done ?_ | (refine r_id ?_; first | refine r_ev tab_ok rfl rfl rfl rfl byE rfl ?_ | refine r_ld tab_ok rfl rfl rfl rfl rfl ?_ | refine r_wr tab_ok rfl rfl rfl rfl rfl ?_) | refine ret1 byO rfl rfl rfl ?_)
  exact Sub.refl _
def endB (n : Nd) : Bool := blkB n || semB n
theorem pends_ok (n : Nd) : PCalls Tryz.prog 42 [nA n] (.val (.bool (endB n))) := by
  refine p_start Tryz.func42 Tryz.ntmps42 rfl rfl rfl fun S w => ?_
  rw [endB]
  repeat (first | refine awp_seq ?_ | refine a_region ?_ | refine r_done ?_ | (refine r_id ?_; first | refine r_ev tab_ok rfl rfl rfl rfl byE rfl ?_ | refine r_ld tab_ok rfl rfl rfl rfl rfl ?_ | refine r_wr tab_ok rfl rfl rfl rfl rfl ?_))
  refine r_call (pblock_ok n) call53 rfl rfl ⟨Sub.agg (by repeat' first | exact trivial | exact Sub.refl _ | exact Sub.nil _ | refine Sub.agg ?_ | apply And.intro), trivial⟩ rfl rfl rfl rfl ?_
  cases blkB n with
  | true =>
    repeat (first | refine thenA_normal ?_ | refine awp_ret ?_ | refine r_done ?_ | (refine r_id ?_; first | refine r_ev tab_ok rfl rfl rfl rfl byE rfl ?_ | refine r_pick_t rfl rfl rfl rfl rfl rfl rfl ?_ | refine r_off rfl rfl rfl rfl rfl rfl ?_) | refine ret1 byO rfl rfl rfl ?_)
    exact Sub.refl _
  | false =>
    repeat (first | (refine r_id ?_; first | refine r_ev tab_ok rfl rfl rfl rfl byE rfl ?_ | refine r_ld_on tab_ok rfl rfl rfl rfl rfl rfl rfl ?_) | refine r_g rfl rfl rfl ?_)
    refine r_call (psemi_ok n) call44 rfl rfl ⟨Sub.agg (by repeat' first | exact trivial | exact Sub.refl _ | exact Sub.nil _ | refine Sub.agg ?_ | apply And.intro), trivial⟩ rfl rfl rfl rfl ?_
    repeat (first | refine thenA_normal ?_ | refine awp_ret ?_ | refine r_done ?_ | (refine r_id ?_; first | refine r_ev tab_ok rfl rfl rfl rfl byE rfl ?_ | refine r_pick_f rfl rfl rfl rfl rfl rfl rfl ?_) | refine ret1 byO rfl rfl rfl ?_)
    exact Sub.refl _
def skpB (n : Nd) : Bool := decide (n.tok.kind = 13) || decide (n.tok.kind = 14) || decide (n.tok.kind = 15) || decide (n.tok.kind = 17)
theorem pskip_ok (n : Nd) : PCalls Tryz.prog 29 [nA n] (.val (.bool (skpB n))) := by
  refine p_start Tryz.func29 Tryz.ntmps29 rfl rfl rfl fun S w => ?_
  rw [skpB]
  repeat (first | refine awp_seq ?_ | refine thenA_normal ?_ | refine awp_block ?_ | refine a_region ?_ | refine r_done ?_ | (refine r_id ?_; first | refine r_ev tab_ok rfl rfl rfl rfl byE rfl ?_ | refine r_ld tab_ok rfl rfl rfl rfl rfl ?_ | refine r_wr tab_ok rfl rfl rfl rfl rfl ?_))
  refine awp_cond_p rfl (fun h => ?_) (fun h => ?_)
  · rw [decide_eq_true h]
    repeat (first | refine awp_seq ?_ | refine thenA_normal ?_ | refine a_region ?_ | refine awp_ret ?_ | refine thenA_ret ?_ | refine blockA_ret ?_ | refine awp_skip ?_ | refine r_done ?_ | (refine r_id ?_; first | refine r_ev tab_ok rfl rfl rfl rfl byE rfl ?_) | refine ret1 byO rfl rfl rfl ?_ | refine awp_cond_t rfl ?_)
    exact Sub.refl _
  rw [decide_eq_false h]
  repeat (first | refine awp_seq ?_ | refine thenA_normal ?_ | refine a_region ?_ | refine r_done ?_ | (refine r_id ?_; first | refine r_ev tab_ok rfl rfl rfl rfl byE rfl ?_))
  refine awp_cond_p rfl (fun h => ?_) (fun h => ?_)
  · rw [decide_eq_true h]
    repeat (first | refine awp_seq ?_ | refine thenA_normal ?_ | refine a_region ?_ | refine awp_ret ?_ | refine thenA_ret ?_ | refine blockA_ret ?_ | refine awp_skip ?_ | refine r_done ?_ | (refine r_id ?_; first | refine r_ev tab_ok rfl rfl rfl rfl byE rfl ?_) | refine ret1 byO rfl rfl rfl ?_ | refine awp_cond_t rfl ?_)
    exact Sub.refl _
  rw [decide_eq_false h]
  repeat (first | refine awp_seq ?_ | refine thenA_normal ?_ | refine a_region ?_ | refine r_done ?_ | (refine r_id ?_; first | refine r_ev tab_ok rfl rfl rfl rfl byE rfl ?_))
  refine awp_cond_p rfl (fun h => ?_) (fun h => ?_)
  · rw [decide_eq_true h]
    repeat (first | refine awp_seq ?_ | refine thenA_normal ?_ | refine a_region ?_ | refine awp_ret ?_ | refine thenA_ret ?_ | refine blockA_ret ?_ | refine awp_skip ?_ | refine r_done ?_ | (refine r_id ?_; first | refine r_ev tab_ok rfl rfl rfl rfl byE rfl ?_) | refine ret1 byO rfl rfl rfl ?_ | refine awp_cond_t rfl ?_)
    exact Sub.refl _
  rw [decide_eq_false h]
  repeat (first | refine thenA_normal ?_ | refine a_region ?_ | refine r_done ?_ | (refine r_id ?_; first | refine r_ev tab_ok rfl rfl rfl rfl byE rfl ?_))
  refine awp_cond_p rfl (fun h => ?_) (fun h => ?_)
  · rw [decide_eq_true h]
    repeat (first | refine awp_seq ?_ | refine thenA_normal ?_ | refine a_region ?_ | refine awp_ret ?_ | refine thenA_ret ?_ | refine blockA_ret ?_ | refine r_done ?_ | (refine r_id ?_; first | refine r_ev tab_ok rfl rfl rfl rfl byE rfl ?_) | refine ret1 byO rfl rfl rfl ?_)
    exact Sub.refl _
  rw [decide_eq_false h]
  repeat (first | refine awp_seq ?_ | refine thenA_normal ?_ | refine a_region ?_ | refine awp_ret ?_ | refine awp_skip ?_ | refine r_done ?_ | (refine r_id ?_; first | refine r_ev tab_ok rfl rfl rfl rfl byE rfl ?_) | refine ret1 byO rfl rfl rfl ?_)
  exact Sub.refl _
theorem podd_ok (n : Nd) : PCalls Tryz.prog 46 [nA n] (.val (.bool (notB n.tok))) := by
  refine p_start Tryz.func46 Tryz.ntmps46 rfl rfl rfl fun S w => ?_
  rw [notB]
  repeat (first | refine awp_seq ?_ | refine thenA_normal ?_ | refine awp_block ?_ | refine a_region ?_ | refine r_done ?_ | (refine r_id ?_; first | refine r_ev tab_ok rfl rfl rfl rfl byE rfl ?_ | refine r_ld tab_ok rfl rfl rfl rfl rfl ?_ | refine r_wr tab_ok rfl rfl rfl rfl rfl ?_))
  refine awp_cond_p rfl (fun h => ?_) (fun h => ?_)
  · rw [decide_eq_true h]
    repeat (first | refine awp_seq ?_ | refine thenA_normal ?_ | refine a_region ?_ | refine awp_ret ?_ | refine thenA_ret ?_ | refine blockA_ret ?_ | refine awp_skip ?_ | refine r_done ?_ | (refine r_id ?_; first | refine r_ev tab_ok rfl rfl rfl rfl byE rfl ?_) | refine ret1 byO rfl rfl rfl ?_ | refine awp_cond_t rfl ?_)
    exact Sub.refl _
  rw [decide_eq_false h]
  repeat (first | refine awp_seq ?_ | refine thenA_normal ?_ | refine a_region ?_ | refine r_done ?_ | (refine r_id ?_; first | refine r_ev tab_ok rfl rfl rfl rfl byE rfl ?_))
  refine awp_cond_p rfl (fun h => ?_) (fun h => ?_)
  · rw [decide_eq_true h]
    repeat (first | refine awp_seq ?_ | refine thenA_normal ?_ | refine a_region ?_ | refine awp_ret ?_ | refine thenA_ret ?_ | refine blockA_ret ?_ | refine awp_skip ?_ | refine r_done ?_ | (refine r_id ?_; first | refine r_ev tab_ok rfl rfl rfl rfl byE rfl ?_) | refine ret1 byO rfl rfl rfl ?_ | refine awp_cond_t rfl ?_)
    exact Sub.refl _
  rw [decide_eq_false h]
  repeat (first | refine thenA_normal ?_ | refine a_region ?_ | refine r_done ?_ | (refine r_id ?_; first | refine r_ev tab_ok rfl rfl rfl rfl byE rfl ?_))
  refine awp_cond_p rfl (fun h => ?_) (fun h => ?_)
  · rw [decide_eq_true h]
    repeat (first | refine awp_seq ?_ | refine thenA_normal ?_ | refine a_region ?_ | refine awp_ret ?_ | refine thenA_ret ?_ | refine blockA_ret ?_ | refine r_done ?_ | (refine r_id ?_; first | refine r_ev tab_ok rfl rfl rfl rfl byE rfl ?_) | refine ret1 byO rfl rfl rfl ?_)
    exact Sub.refl _
  rw [decide_eq_false h]
  repeat (first | refine awp_seq ?_ | refine thenA_normal ?_ | refine a_region ?_ | refine awp_ret ?_ | refine awp_skip ?_ | refine r_done ?_ | (refine r_id ?_; first | refine r_ev tab_ok rfl rfl rfl rfl byE rfl ?_ | refine r_ld tab_ok rfl rfl rfl rfl rfl ?_ | refine r_ev_cnd tab_ok rfl rfl rfl rfl rfl rfl byC (by first | exact fun _ => trivial | (intro h; simp at h; first | exact ⟨by omega, by omega⟩ | omega)) rfl ?_ | refine r_ld_cnd tab_ok rfl rfl rfl rfl rfl rfl byC rfl ?_ | refine r_and rfl rfl rfl rfl rfl rfl rfl rfl ?_) | refine ret1 byO rfl rfl rfl ?_)
  exact Sub.refl _
theorem pnw_ok (n : Nd) : PCalls Tryz.prog 43 [nA n] (.val (.bool (!whN n))) := by
  refine p_start Tryz.func43 Tryz.ntmps43 rfl rfl rfl fun S w => ?_
  repeat (first | refine awp_seq ?_ | refine a_region ?_ | refine r_done ?_ | (refine r_id ?_; first | refine r_ev tab_ok rfl rfl rfl rfl byE rfl ?_ | refine r_ld tab_ok rfl rfl rfl rfl rfl ?_ | refine r_wr tab_ok rfl rfl rfl rfl rfl ?_))
  refine r_call (White_ok n) call40 rfl rfl ⟨Sub.agg (by repeat' first | exact trivial | exact Sub.refl _ | exact Sub.nil _ | refine Sub.agg ?_ | apply And.intro), trivial⟩ rfl rfl rfl rfl ?_
  repeat (first | refine thenA_normal ?_ | refine awp_ret ?_ | refine r_done ?_ | (refine r_id ?_; first | refine r_ev tab_ok rfl rfl rfl rfl byE rfl ?_) | refine ret1 byO rfl rfl rfl ?_)
  exact Sub.refl _
theorem pref_ok (s : ByteArray) (hs : s.size ≤ 70368744177663) : PCalls Tryz.prog 91 [.val (.string s), .val (.string ⟨#[45, 45]⟩)] (.val (.bool (dashB s))) := by
  refine p_start Tryz.func91 Tryz.ntmps91 rfl rfl rfl fun S w => ?_
  rw [dashB]
  have h2 : (⟨#[45, 45]⟩ : ByteArray).size = 2 := rfl
  by_cases h : 2 ≤ s.size
  · rw [decide_eq_true h]
    repeat (first | refine awp_seq ?_ | refine thenA_normal ?_ | refine a_region ?_ | refine awp_ret ?_ | refine r_done ?_ | (refine r_id ?_; first | refine r_ev tab_ok rfl rfl rfl rfl byE rfl ?_ | refine r_scut tab_ok rfl rfl rfl rfl rfl rfl rfl rfl (by first | (simp; done) | exact ⟨by simp, by simp; omega, by simp; omega⟩ | (simp; omega)) rfl ?_) | refine ret1 byO rfl rfl rfl ?_ | refine r_g rfl rfl (congrArg (fun b => AV.val (.bool b)) (decide_eq_true (by omega))) ?_ | refine r_pick_t rfl rfl (congrArg (fun b => AV.val (.bool b)) (decide_eq_true (by omega))) rfl rfl rfl rfl ?_)
    exact Sub.refl _
  · rw [decide_eq_false h]
    repeat (first | refine awp_seq ?_ | refine thenA_normal ?_ | refine a_region ?_ | refine awp_ret ?_ | refine r_done ?_ | (refine r_id ?_; first | refine r_ev tab_ok rfl rfl rfl rfl byE rfl ?_) | refine ret1 byO rfl rfl rfl ?_ | refine r_pick_f rfl rfl (congrArg (fun b => AV.val (.bool b)) (decide_eq_false (by omega))) rfl rfl rfl rfl ?_ | refine r_off rfl rfl (congrArg (fun b => AV.val (.bool b)) (decide_eq_false (by omega))) rfl rfl rfl ?_)
    exact Sub.refl _
theorem hpre_ok (s : ByteArray) (hs : s.size ≤ 70368744177663) : PCalls Tryz.prog 61 [.val (.string s), .val (.string ⟨#[45, 45]⟩)] (.val (.bool (dashB s))) := by
  refine p_start Tryz.func61 Tryz.ntmps61 rfl rfl rfl fun S w => ?_
  repeat (first | refine awp_seq ?_ | refine a_region ?_ | refine r_done ?_ | (refine r_id ?_; first | refine r_ev tab_ok rfl rfl rfl rfl byE rfl ?_))
  refine r_call (pref_ok s hs) call91 rfl rfl ⟨Sub.refl _, Sub.refl _, trivial⟩ rfl rfl rfl rfl ?_
  repeat (first | refine thenA_normal ?_ | refine awp_ret ?_ | refine r_done ?_ | (refine r_id ?_; first | refine r_ev tab_ok rfl rfl rfl rfl byE rfl ?_) | refine ret1 byO rfl rfl rfl ?_)
  exact Sub.refl _
theorem prname_ok (s : ByteArray) (hs : s.size ≤ 70368744177663) : PCalls Tryz.prog 47 [.val (.string s)] (.val (.string (nameS s))) := by
  refine p_start Tryz.func47 Tryz.ntmps47 rfl rfl rfl fun S w => ?_
  rw [nameS]
  repeat (first | refine awp_seq ?_ | refine a_region ?_ | refine r_done ?_ | (refine r_id ?_; first | refine r_ev tab_ok rfl rfl rfl rfl byE rfl ?_))
  refine r_call (hpre_ok s hs) call61 rfl rfl ⟨Sub.refl _, Sub.refl _, trivial⟩ rfl rfl rfl rfl ?_
  repeat (first | refine thenA_normal ?_ | refine r_done ?_)
  refine awp_cond rfl (fun h => ?_) (fun h => ?_)
  · rw [if_pos h]
    repeat (first | refine awp_seq ?_ | refine thenA_normal ?_ | refine a_region ?_ | refine awp_ret ?_ | refine thenA_ret ?_ | refine r_done ?_ | (refine r_id ?_; first | refine r_ev tab_ok rfl rfl rfl rfl byE rfl ?_) | refine ret1 byO rfl rfl rfl ?_)
    exact Sub.refl _
  · rw [h, if_neg Bool.false_ne_true]
    repeat (first | refine awp_seq ?_ | refine a_region ?_ | refine awp_skip ?_ | (refine r_id ?_; first | refine r_ev tab_ok rfl rfl rfl rfl byE rfl ?_))
    refine r_call (plower_ok s hs) call39 rfl rfl ⟨Sub.refl _, trivial⟩ rfl rfl rfl rfl ?_
    repeat (first | refine thenA_normal ?_ | refine awp_ret ?_ | refine r_done ?_ | (refine r_id ?_; first | refine r_ev tab_ok rfl rfl rfl rfl byE rfl ?_) | refine ret1 byO rfl rfl rfl ?_)
    exact Sub.refl _
set_option maxHeartbeats 1000000 in
theorem until_ok (l : List Nd) (i0 : Nat) (p : Nd → Bool) (f : FuncId) (caps : List AV) (hl : l.length ≤ 4611686018427387904) (h0 : i0 ≤ l.length) (hcall : Callable Tryz.prog f) (hcf : AV.frees caps = true) (hp : ∀ s ∈ l, PCalls Tryz.prog f (nA s :: caps) (.val (.bool (p s)))) :
    PCalls Tryz.prog 41 [.sl 7 (l.map nF), .val (.int .i64 i0), .cl f caps] (.val (.int .i64 (runE (fun n => !p n) l i0))) := by
  refine p_start Tryz.func41 Tryz.ntmps41 rfl rfl rfl fun S w => ?_
  have hlm : (l.map nF).length = l.length := List.length_map _
  obtain ⟨q, hq⟩ : ∃ q, q = (fun n => !p n) := ⟨_, rfl⟩
  rw [← hq]
  have hge := runE_ge q l i0
  have hle := runE_le (p := q) h0
  repeat (first | refine awp_seq ?_ | refine awp_block ?_ | refine a_region ?_ | refine r_done ?_ | (refine r_id ?_; first | refine r_ev tab_ok rfl rfl rfl rfl byE rfl ?_))
  refine a_loop (σ := {k : Nat // i0 ≤ k ∧ k ≤ runE q l i0}) (fun _ => []) (fun x => [(0, .sl 7 (l.map nF)), (1, .val (.int .i64 x.1)), (2, .cl f caps)]) (fun x => l.length - x.1) ⟨i0, Nat.le_refl _, hge⟩ (fits_of rfl byK) ?_
  rintro ⟨k, hik, hk⟩
  dsimp only
  rcases Nat.lt_or_ge k l.length with hkl | hkl
  · have hgk := ndAt_get hkl
    have hmore := runE_more (p := q) hik hk hkl
    have hstop := fun h => runE_stop (p := q) hik hk (fun _ => h)
    rw [← hgk] at hmore hstop
    repeat (first | refine awp_seq ?_ | refine a_region ?_ | (refine r_id ?_; first | refine r_len tab_ok rfl rfl rfl rfl rfl rfl rfl ?_ | refine r_ev tab_ok rfl rfl rfl rfl byE rfl ?_ | refine r_idx tab_ok rfl rfl rfl rfl rfl rfl rfl (by first | exact ⟨by omega, by omega⟩ | (simp; omega)) rfl rfl ?_) | refine r_g rfl rfl (congrArg (fun b => AV.val (.bool b)) (decide_eq_true (by omega))) ?_)
    simp only [Int.toNat_natCast]
    refine r_callv (hp l[k] (List.getElem_mem hkl)) hcall rfl rfl rfl ⟨Sub.refl _, subs_refl _⟩ (by simp [nA, ncl, AV.frees, AV.free, hcf]) rfl rfl rfl ?_
    repeat (first | refine thenA_normal ?_ | refine r_done ?_ | (refine r_id ?_; first | refine r_ev tab_ok rfl rfl rfl rfl byE rfl ?_) | refine r_g rfl rfl (congrArg (fun b => AV.val (.bool b)) (decide_eq_true (by omega))) ?_ | refine r_pick_t rfl rfl (congrArg (fun b => AV.val (.bool b)) (decide_eq_true (by omega))) rfl rfl rfl rfl ?_)
    refine awp_cond rfl (fun hb => ?_) (fun hb => ?_)
    · have hlt := hmore (by rw [hq]; exact hb)
      repeat (first | refine thenA_normal ?_ | refine awp_block ?_ | refine a_region ?_ | refine blockA_normal ?_ | refine awp_skip ?_ | refine r_done ?_ | (refine r_id ?_; first | refine r_ev tab_ok rfl rfl rfl rfl byE rfl ?_))
      exact ⟨⟨k + 1, by omega, hlt⟩, by dsimp only; omega, fits_of rfl byK⟩
    · have he := hstop (by rw [hq]; exact hb)
      repeat (first | refine awp_seq ?_ | refine thenA_normal ?_ | refine a_region ?_ | refine awp_ret ?_ | refine awp_exit ?_ | refine r_done ?_ | (refine r_id ?_; first | refine r_ev tab_ok rfl rfl rfl rfl byE rfl ?_) | refine ret1 byO rfl rfl rfl ?_)
      exact Sub.of_eq (by rw [← he])
  · have he : k = runE q l i0 := by omega
    repeat (first | refine awp_seq ?_ | refine thenA_normal ?_ | refine a_region ?_ | refine awp_ret ?_ | refine awp_exit ?_ | refine r_done ?_ | (refine r_id ?_; first | refine r_len tab_ok rfl rfl rfl rfl rfl rfl rfl ?_ | refine r_ev tab_ok rfl rfl rfl rfl byE rfl ?_) | refine ret1 byO rfl rfl rfl ?_ | refine awp_cond_f rfl ?_ | refine r_pick_f rfl rfl (congrArg (fun b => AV.val (.bool b)) (decide_eq_false (by omega))) rfl rfl rfl rfl ?_ | refine r_off rfl rfl (congrArg (fun b => AV.val (.bool b)) (decide_eq_false (by omega))) rfl rfl rfl ?_)
    exact Sub.of_eq (by rw [← he])
theorem anyN_ok (l : List Nd) (p : Nd → Bool) (f : FuncId) (caps : List AV) (hl : l.length ≤ 4611686018427387904) (hcall : Callable Tryz.prog f) (hcf : AV.frees caps = true) (hp : ∀ s ∈ l, PCalls Tryz.prog f (nA s :: caps) (.val (.bool (p s)))) :
    PCalls Tryz.prog 45 [.sl 7 (l.map nF), .cl f caps] (.val (.bool (l.any p))) := by
  refine p_start Tryz.func45 Tryz.ntmps45 rfl rfl rfl fun S w => ?_
  have hle := List.findIdx_le_length (p := p) (xs := l)
  have hlt := List.findIdx_lt_length (p := p) (xs := l)
  repeat (first | refine awp_seq ?_ | refine a_region ?_ | refine r_done ?_ | (refine r_id ?_; first | refine r_ev tab_ok rfl rfl rfl rfl byE rfl ?_))
  refine r_call (findN_ok l p f caps hl hcall hcf hp) call60 rfl rfl ⟨Sub.refl _, Sub.refl _, trivial⟩ (by simp [AV.free, AV.frees, hcf]) rfl rfl rfl ?_
  repeat (first | refine thenA_normal ?_ | refine awp_ret ?_ | refine r_done ?_ | (refine r_id ?_; first | refine r_ev tab_ok rfl rfl rfl rfl byE rfl ?_) | refine ret1 byO rfl rfl rfl ?_)
  exact Sub.of_eq (by rw [findR_any])
end Go.Proofs.YtiolnmfaeenlmaaGreatDoor

/- rules.Value, walked. -/
namespace Go.Proofs.YtiolnmfaeenlmaaGreatDoor
open Go Go.RowKit
set_option maxRecDepth 20000

def lastNW (v : List Nd) : Nat → Option Nat
  | 0 => none
  | j + 1 => if whN (ndAt v j) then lastNW v j else some j
theorem lastNW_none (v : List Nd) : ∀ j, lastNW v j = none → nwT v j = []
  | 0, _ => rfl
  | j + 1, h => by
    rw [lastNW] at h
    split at h
    · rename_i hw
      rw [nwT_succ, lastNW_none v j h, if_pos hw]; rfl
    · cases h
theorem lastNW_some (v : List Nd) : ∀ j k, lastNW v j = some k → k < j ∧ nwT v j = nwT v k ++ [k]
  | 0, _, h => by cases h
  | j + 1, k, h => by
    rw [lastNW] at h
    split at h
    · rename_i hw
      obtain ⟨h1, h2⟩ := lastNW_some v j k h
      exact ⟨by omega, by rw [nwT_succ, if_pos hw, List.append_nil, h2]⟩
    · rename_i hw
      cases h
      exact ⟨Nat.lt_succ_self _, by rw [nwT_succ, if_neg hw]⟩
theorem trimF_last (l : List Nd) (h : 0 < (trimF l).length) : whN (ndAt (trimF l) ((trimF l).length - 1)) = false := by
  obtain ⟨m, hm⟩ : ∃ m, m = l.dropWhile whN := ⟨_, rfl⟩
  have e : trimF l = trimB m := by rw [hm]; rfl
  rw [e] at h ⊢
  have key : ∀ r : List Nd, 0 < ((r.dropWhile whN).reverse).length → whN (ndAt (r.dropWhile whN).reverse ((r.dropWhile whN).reverse.length - 1)) = false := by
    intro r hr
    cases hd : r.dropWhile whN with
    | nil => rw [hd] at hr; cases hr
    | cons a q =>
      have h2 : whN a = false := by
        have := List.head?_dropWhile_not whN r
        rw [hd] at this
        simpa using this
      rw [List.reverse_cons, ndAt, List.length_append, List.length_singleton, Nat.add_sub_cancel, List.getD_eq_getElem?_getD, List.getElem?_append_right (Nat.le_refl _), Nat.sub_self]
      exact h2
  exact key m.reverse h
theorem nwI_T (v : List Nd) : nwI v = nwT v v.length := rfl
theorem valF_small {l : List Nd} (h : (trimF l).length < 2) : valF l = (trimF l, false) := by
  rw [valF, if_pos (Nat.lt_of_le_of_lt (nwI_len _) h)]
theorem nwI_two {l : List Nd} (h : 2 ≤ (trimF l).length) : nwI (trimF l) = nwT (trimF l) ((trimF l).length - 1) ++ [(trimF l).length - 1] := by
  have h1 := trimF_last l (by omega)
  have h2 := nwT_succ (trimF l) ((trimF l).length - 1)
  rw [Nat.sub_add_cancel (by omega), if_neg (by rw [h1]; exact Bool.false_ne_true)] at h2
  rw [nwI_T, h2]
theorem valF_two {l : List Nd} (h : 2 ≤ (trimF l).length) : valF l = (if impB (ndAt (trimF l) ((trimF l).length - 1)).tok then (match lastNW (trimF l) ((trimF l).length - 1) with
    | none => (trimF l, false)
    | some k => if exclB (ndAt (trimF l) k).tok then (trimF ((trimF l).take k), true) else (trimF l, false)) else (trimF l, false)) := by
  have h1 := nwI_two h
  unfold valF
  rw [h1]
  cases hn : lastNW (trimF l) ((trimF l).length - 1) with
  | none =>
    rw [lastNW_none _ _ hn, if_pos (by simp)]
    split <;> rfl
  | some k =>
    obtain ⟨h2, h3⟩ := lastNW_some _ _ _ hn
    have hlen : (nwT (trimF l) k ++ [k] ++ [(trimF l).length - 1]).length = (nwT (trimF l) k).length + 2 := by simp
    have ha : (nwT (trimF l) k ++ [k] ++ [(trimF l).length - 1]).getD ((nwT (trimF l) k).length + 2 - 2) 0 = k := by
      rw [Nat.add_sub_cancel, List.append_assoc, List.getD_eq_getElem?_getD, List.getElem?_append_right (Nat.le_refl _), Nat.sub_self]; rfl
    have hb : (nwT (trimF l) k ++ [k] ++ [(trimF l).length - 1]).getD ((nwT (trimF l) k).length + 2 - 1) 0 = (trimF l).length - 1 := by
      rw [List.getD_eq_getElem?_getD, List.getElem?_append_right (by simp), List.length_append, List.length_singleton, show (nwT (trimF l) k).length + 2 - 1 - ((nwT (trimF l) k).length + 1) = 0 by omega]; rfl
    rw [h3, hlen, if_neg (by omega), ha, hb]
    cases hi : impB (ndAt (trimF l) ((trimF l).length - 1)).tok
    · rw [Bool.and_false, if_neg Bool.false_ne_true, if_neg Bool.false_ne_true]
    · rw [Bool.and_true, if_pos rfl]
set_option maxHeartbeats 8000000 in
theorem pvalue_ok (l : List Nd) (hl : nszs l < 1099511627776) (ht : ∀ n ∈ l, n.tok.text.size ≤ 1099511627776) : PCalls Tryz.prog 15 [.sl 7 (l.map nF)] (.tup [.sl 7 ((valF l).1.map nF), .val (.bool (valF l).2)]) := by
  refine p_start Tryz.func15 Tryz.ntmps15 rfl rfl rfl fun S w => ?_
  have hz := trimF_sz l
  have hlen := trimF_len l
  have hll := nszs_len l
  have hmem : ∀ n ∈ trimF l, n.tok.text.size ≤ 1099511627776 := fun n hn => ht n (trimF_mem n hn)
  repeat (first | refine awp_seq ?_ | refine a_region ?_ | refine r_done ?_ | (refine r_id ?_; first | refine r_ev tab_ok rfl rfl rfl rfl byE rfl ?_))
  refine r_call (trim_ok 1099511627776 l hl (Nat.le_refl _)) call37 rfl rfl ⟨Sub.refl _, trivial⟩ rfl rfl rfl rfl ?_
  have hv1 := @valF_small l
  have hv2 := @valF_two l
  generalize trimF l = v at hz hlen hmem hv1 hv2 ⊢
  have hvm : (v.map nF).length = v.length := List.length_map _
  by_cases h2 : v.length < 2
  · rw [hv1 h2]
    repeat (first | refine awp_seq ?_ | refine thenA_normal ?_ | refine a_region ?_ | refine awp_ret ?_ | refine thenA_ret ?_ | refine r_done ?_ | (refine r_id ?_; first | refine r_len tab_ok rfl rfl rfl rfl rfl rfl rfl ?_ | refine r_ev tab_ok rfl rfl rfl rfl byE rfl ?_) | refine ret2 byO rfl rfl rfl rfl ?_ ?_ | refine awp_cond_t rfl ?_ | refine r_pick_t rfl rfl (congrArg (fun b => AV.val (.bool b)) (decide_eq_true (by omega))) rfl rfl rfl rfl ?_ | refine r_off rfl rfl (congrArg (fun b => AV.val (.bool b)) (decide_eq_true (by omega))) rfl rfl rfl ?_)
    all_goals exact Sub.refl _
  have hlast : v.length - 1 < v.length := by omega
  have hgl := ndAt_get hlast
  have e1 : ((v.length : Int) - 1).toNat = v.length - 1 := by omega
  rw [hv2 (by omega)]
  have hwt := hmem v[v.length - 1] (List.getElem_mem hlast)
  repeat (first | refine awp_seq ?_ | refine a_region ?_ | refine r_done ?_ | (refine r_id ?_; first | refine r_len tab_ok rfl rfl rfl rfl rfl rfl rfl ?_ | refine r_ev tab_ok rfl rfl rfl rfl byE rfl ?_ | refine r_idx tab_ok rfl rfl rfl rfl rfl rfl rfl (by first | exact ⟨by omega, by omega⟩ | (simp; omega)) rfl rfl ?_) | refine r_g rfl rfl (congrArg (fun b => AV.val (.bool b)) (decide_eq_false (by omega))) ?_)
  simp only [e1]
  refine r_call (show PCalls Tryz.prog 38 _ (.val (.bool (impB v[v.length - 1].tok))) from word_ok2 v[v.length - 1] 1 impS hwt) call38 rfl rfl ⟨Sub.refl _, Sub.refl _, Sub.refl _, Sub.refl _, trivial⟩ rfl rfl rfl rfl ?_
  rw [← hgl]
  cases hi : impB v[v.length - 1].tok with
  | false =>
    repeat (first | refine awp_seq ?_ | refine thenA_normal ?_ | refine a_region ?_ | refine awp_ret ?_ | refine thenA_ret ?_ | refine r_done ?_ | (refine r_id ?_; first | refine r_ev tab_ok rfl rfl rfl rfl byE rfl ?_) | refine ret2 byO rfl rfl rfl rfl ?_ ?_ | refine awp_cond_t rfl ?_ | refine r_g rfl rfl (congrArg (fun b => AV.val (.bool b)) (decide_eq_false (by omega))) ?_ | refine r_pick_f rfl rfl (congrArg (fun b => AV.val (.bool b)) (decide_eq_false (by omega))) rfl rfl rfl rfl ?_)
    all_goals exact Sub.refl _
  | true =>
    repeat (first | refine awp_seq ?_ | refine thenA_normal ?_ | refine awp_block ?_ | refine a_region ?_ | refine awp_skip ?_ | refine r_done ?_ | (refine r_id ?_; first | refine r_ev tab_ok rfl rfl rfl rfl byE rfl ?_) | refine awp_cond_f rfl ?_ | refine r_g rfl rfl (congrArg (fun b => AV.val (.bool b)) (decide_eq_false (by omega))) ?_ | refine r_pick_f rfl rfl (congrArg (fun b => AV.val (.bool b)) (decide_eq_false (by omega))) rfl rfl rfl rfl ?_)
    refine a_loop (σ := {j : Nat // j ≤ v.length - 1 ∧ lastNW v j = lastNW v (v.length - 1)}) (fun _ => []) (fun x => [(2, .sl 7 (v.map nF)), (4, .val (.int .i64 ((x.1 : Int) - 1)))]) (fun x => x.1) ⟨v.length - 1, Nat.le_refl _, rfl⟩ (fits_of rfl ⟨Sub.refl _, Sub.of_eq (congrArg (fun z => AV.val (.int .i64 z)) (by dsimp only; omega)), trivial⟩) ?_
    rintro ⟨j, hj, hjn⟩
    dsimp only
    cases j with
    | zero =>
      rw [← hjn, lastNW]
      repeat (first | refine awp_seq ?_ | refine thenA_normal ?_ | refine a_region ?_ | refine awp_ret ?_ | refine awp_exit ?_ | refine thenA_ret ?_ | refine r_done ?_ | (refine r_id ?_; first | refine r_ev tab_ok rfl rfl rfl rfl byE rfl ?_ | refine r_pick_t rfl rfl rfl rfl rfl rfl rfl ?_ | refine r_pick_f rfl rfl rfl rfl rfl rfl rfl ?_ | refine r_off rfl rfl rfl rfl rfl rfl ?_) | refine ret2 byO rfl rfl rfl rfl ?_ ?_ | refine awp_cond_t rfl ?_ | refine awp_cond_f rfl ?_)
      all_goals exact Sub.refl _
    | succ k =>
      have hkl : k < v.length := by omega
      have hgk := ndAt_get hkl
      have e2 : (((k + 1 : Nat) : Int) - 1).toNat = k := by omega
      rw [lastNW, ← hgk] at hjn
      repeat (first | refine awp_seq ?_ | refine a_region ?_ | (refine r_id ?_; first | refine r_ev tab_ok rfl rfl rfl rfl byE rfl ?_ | refine r_idx tab_ok rfl rfl rfl rfl rfl rfl rfl (by first | exact ⟨by omega, by omega⟩ | (simp; omega)) rfl rfl ?_) | refine r_g rfl rfl (congrArg (fun b => AV.val (.bool b)) (decide_eq_true (by omega))) ?_)
      simp only [e2]
      refine r_call (White_ok v[k]) call40 rfl rfl ⟨Sub.agg (by repeat' first | exact trivial | exact Sub.refl _ | exact Sub.nil _ | refine Sub.agg ?_ | apply And.intro), trivial⟩ rfl rfl rfl rfl ?_
      cases hw : whN v[k] with
      | true =>
        rw [hw, if_pos rfl] at hjn
        repeat (first | refine awp_seq ?_ | refine thenA_normal ?_ | refine awp_block ?_ | refine a_region ?_ | refine awp_skip ?_ | refine r_done ?_ | (refine r_id ?_; first | refine r_ev tab_ok rfl rfl rfl rfl byE rfl ?_) | refine awp_cond_t rfl ?_ | refine r_pick_t rfl rfl (congrArg (fun b => AV.val (.bool b)) (decide_eq_true (by omega))) rfl rfl rfl rfl ?_)
        exact ⟨⟨k, by omega, hjn⟩, by dsimp only; omega, fits_of rfl ⟨Sub.refl _, Sub.of_eq (congrArg (fun z => AV.val (.int .i64 z)) (by dsimp only; omega)), trivial⟩⟩
      | false =>
        rw [hw, if_neg Bool.false_ne_true] at hjn
        rw [← hjn]
        dsimp only
        rw [← hgk, exclB]
        by_cases h9 : v[k].tok.kind = 9
        · by_cases hx : v[k].tok.text = ⟨#[33]⟩
          · rw [decide_eq_true h9, decide_eq_true hx]
            have hkz := nszs_take v k
            repeat (first | refine awp_seq ?_ | refine thenA_normal ?_ | refine a_region ?_ | refine awp_exit ?_ | refine r_done ?_ | (refine r_id ?_; first | refine r_ev tab_ok rfl rfl rfl rfl byE rfl ?_ | refine r_idx tab_ok rfl rfl rfl rfl rfl rfl rfl (by first | exact ⟨by omega, by omega⟩ | (simp; omega)) rfl rfl ?_) | refine awp_cond_f rfl ?_ | refine r_g rfl rfl (congrArg (fun b => AV.val (.bool b)) (decide_eq_false (by omega))) ?_ | refine r_pick_t rfl rfl (congrArg (fun b => AV.val (.bool b)) (decide_eq_true (by omega))) rfl rfl rfl rfl ?_ | refine r_pick_f rfl rfl (congrArg (fun b => AV.val (.bool b)) (decide_eq_false (by omega))) rfl rfl rfl rfl ?_)
            simp only [e2]
            repeat (first | refine thenA_normal ?_ | refine r_done ?_ | (refine r_id ?_; first | refine r_ev tab_ok rfl rfl rfl rfl byE rfl ?_ | refine r_idx tab_ok rfl rfl rfl rfl rfl rfl rfl (by first | exact ⟨by omega, by omega⟩ | (simp; omega)) rfl rfl ?_) | refine r_g rfl rfl (congrArg (fun b => AV.val (.bool b)) (bnot_t (by omega))) ?_ | refine r_pick_f rfl rfl (congrArg (fun b => AV.val (.bool b)) (bnot_t (by omega))) rfl rfl rfl rfl ?_)
            simp only [e2]
            refine awp_cond_n rfl (fun hne => absurd hx hne) (fun _ => ?_)
            simp only [Bool.and_self, if_true]
            repeat (first | refine awp_seq ?_ | refine a_region ?_ | refine awp_skip ?_ | (refine r_id ?_; first | refine r_ev tab_ok rfl rfl rfl rfl byE rfl ?_))
            refine r_cut tab_ok rfl rfl rfl rfl rfl rfl rfl rfl (by show (0 : Int) ≤ 0 ∧ (0 : Int) ≤ (((k + 1 : Nat) : Int) - 1) ∧ (((k + 1 : Nat) : Int) - 1) ≤ (v.length : Int); omega) rfl ?_
            refine r_call (show PCalls Tryz.prog 37 [.sl 7 (((v.take (((k + 1 : Nat) : Int) - 1).toNat).drop (0 : Int).toNat).map nF)] (.sl 7 ((trimF (v.take k)).map nF)) by
              rw [e2]
              exact trim_ok 1099511627776 (v.take k) (by omega) (Nat.le_refl _)) call37 rfl rfl ⟨Sub.refl _, trivial⟩ rfl rfl rfl rfl ?_
            repeat (first | refine thenA_normal ?_ | refine awp_ret ?_ | refine r_done ?_ | (refine r_id ?_; first | refine r_ev tab_ok rfl rfl rfl rfl byE rfl ?_) | refine ret2 byO rfl rfl rfl rfl ?_ ?_)
            all_goals exact Sub.refl _
          · rw [decide_eq_false hx]
            simp only [Bool.and_false, Bool.false_eq_true, if_false, if_true]
            repeat (first | refine awp_seq ?_ | refine thenA_normal ?_ | refine a_region ?_ | refine awp_exit ?_ | refine r_done ?_ | (refine r_id ?_; first | refine r_ev tab_ok rfl rfl rfl rfl byE rfl ?_ | refine r_idx tab_ok rfl rfl rfl rfl rfl rfl rfl (by first | exact ⟨by omega, by omega⟩ | (simp; omega)) rfl rfl ?_) | refine awp_cond_f rfl ?_ | refine r_g rfl rfl (congrArg (fun b => AV.val (.bool b)) (decide_eq_false (by omega))) ?_ | refine r_pick_t rfl rfl (congrArg (fun b => AV.val (.bool b)) (decide_eq_true (by omega))) rfl rfl rfl rfl ?_ | refine r_pick_f rfl rfl (congrArg (fun b => AV.val (.bool b)) (decide_eq_false (by omega))) rfl rfl rfl rfl ?_)
            simp only [e2]
            repeat (first | refine thenA_normal ?_ | refine r_done ?_ | (refine r_id ?_; first | refine r_ev tab_ok rfl rfl rfl rfl byE rfl ?_ | refine r_idx tab_ok rfl rfl rfl rfl rfl rfl rfl (by first | exact ⟨by omega, by omega⟩ | (simp; omega)) rfl rfl ?_) | refine r_g rfl rfl (congrArg (fun b => AV.val (.bool b)) (bnot_t (by omega))) ?_ | refine r_pick_f rfl rfl (congrArg (fun b => AV.val (.bool b)) (bnot_t (by omega))) rfl rfl rfl rfl ?_)
            simp only [e2]
            refine awp_cond_n rfl (fun hne => ?_) (fun h => absurd h hx)
            repeat (first | refine awp_seq ?_ | refine thenA_normal ?_ | refine a_region ?_ | refine awp_ret ?_ | refine thenA_ret ?_ | refine r_done ?_ | (refine r_id ?_; first | refine r_ev tab_ok rfl rfl rfl rfl byE rfl ?_) | refine ret2 byO rfl rfl rfl rfl ?_ ?_)
            all_goals exact Sub.refl _
        · rw [decide_eq_false h9]
          repeat (first | refine awp_seq ?_ | refine thenA_normal ?_ | refine a_region ?_ | refine awp_exit ?_ | refine r_done ?_ | (refine r_id ?_; first | refine r_ev tab_ok rfl rfl rfl rfl byE rfl ?_ | refine r_idx tab_ok rfl rfl rfl rfl rfl rfl rfl (by first | exact ⟨by omega, by omega⟩ | (simp; omega)) rfl rfl ?_) | refine awp_cond_f rfl ?_ | refine r_g rfl rfl (congrArg (fun b => AV.val (.bool b)) (decide_eq_false (by omega))) ?_ | refine r_pick_t rfl rfl (congrArg (fun b => AV.val (.bool b)) (decide_eq_true (by omega))) rfl rfl rfl rfl ?_ | refine r_pick_f rfl rfl (congrArg (fun b => AV.val (.bool b)) (decide_eq_false (by omega))) rfl rfl rfl rfl ?_)
          simp only [e2]
          repeat (first | refine awp_seq ?_ | refine thenA_normal ?_ | refine a_region ?_ | refine awp_ret ?_ | refine thenA_ret ?_ | refine r_done ?_ | (refine r_id ?_; first | refine r_ev tab_ok rfl rfl rfl rfl byE rfl ?_) | refine ret2 byO rfl rfl rfl rfl ?_ ?_ | refine awp_cond_t rfl ?_ | refine r_pick_t rfl rfl (congrArg (fun b => AV.val (.bool b)) (bnot_f (by omega))) rfl rfl rfl rfl ?_ | refine r_off rfl rfl (congrArg (fun b => AV.val (.bool b)) (bnot_f (by omega))) rfl rfl rfl ?_)
          all_goals exact Sub.refl _
end Go.Proofs.YtiolnmfaeenlmaaGreatDoor
