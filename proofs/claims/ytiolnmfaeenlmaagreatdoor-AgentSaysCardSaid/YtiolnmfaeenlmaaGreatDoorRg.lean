import Derived.Test.YtiolnmfaeenlmaaGreatDoorRe
import Derived.Test.YtiolnmfaeenlmaaGreatDoorRc
import Derived.Test.YtiolnmfaeenlmaaGreatDoorNa
import Derived.Test.YtiolnmfaeenlmaaGreatDoort9
import Derived.Test.YtiolnmfaeenlmaaGreatDoorI8
import Derived.Test.YtiolnmfaeenlmaaGreatDoorU5
/- rules.Sheet, walked: what it says of the nodes that nest.All tells. -/
namespace Go.Proofs.YtiolnmfaeenlmaaGreatDoor
open Go Go.RowKit
set_option maxRecDepth 20000

/-- In tokens' nodes a word behind an @ is never empty. -/
def atN (l : List Nd) : Prop := ∀ n ∈ l, atKB n = true → lowS n.tok.text ≠ ⟨#[]⟩
theorem on_at {l : List Nd} (h : atN l) {i : Nat} (hi : i < l.length) : onB l i = (atKB (ndAt l i) || blI l (enI l i)) := by
  have hm : ndAt l i ∈ l := by rw [← ndAt_get hi]; exact List.getElem_mem hi
  rw [onB]
  have e : (rlAt l i).at_ = if atKB (ndAt l i) then lowS (ndAt l i).tok.text else ⟨#[]⟩ := rfl
  rw [e]
  cases ha : atKB (ndAt l i) with
  | true => rw [if_pos rfl, decide_eq_false (h _ hm ha), Bool.not_false, Bool.or_true, Bool.true_or]
  | false => rw [if_neg Bool.false_ne_true, decide_eq_true rfl, Bool.not_true, Bool.or_false, Bool.false_or]
def allF (b : List UInt8) : List Nd := allA (toksF (readL ⟨b.toArray⟩)) 0
def shP (b : List UInt8) : List Rl := shtA (allF b) 0
def shE (b : List UInt8) : List Rl × Int := if 500 < (shP b).length then ([], 3) else (shP b, 0)
theorem toksF_len' (L : List Int) : (toksF L).length ≤ L.length := by
  obtain ⟨r, j, h1, h2, h3, h4, h5⟩ := goAt_end (tStep_goes L) L.length 0 (Nat.zero_le _) (by omega)
  rw [toksF]
  omega
set_option maxHeartbeats 16000000 in
theorem psheet_ok (b : List UInt8) (hb : b.length ≤ 65536) (hN : ∀ x ∈ readL ⟨b.toArray⟩, 0 ≤ x) (hat : atN (allF b)) (ht : ∀ n ∈ allF b, n.tok.text.size ≤ 1099511627776) (hk : ∀ n ∈ allF b, ∀ m ∈ n.kids, m.tok.text.size ≤ 1099511627776) :
    PCalls Tryz.prog 12 [.sl 1 (b.map bD)] (.tup [.sl 4 ((shE b).1.map rlD), .val (.int .i64 (shE b).2)]) := by
  refine p_start Tryz.func12 Tryz.ntmps12 rfl rfl rfl fun S w => ?_
  have hbm : (b.map bD).length = b.length := List.length_map _
  have hbs : (⟨b.toArray⟩ : ByteArray).size = b.length := List.size_toArray
  have hl1 := readL_len ⟨b.toArray⟩
  have hl2 := toksF_len' (readL ⟨b.toArray⟩)
  have hl3 := allA_sz0 (toksF (readL ⟨b.toArray⟩))
  have hc0 : ¬ (65536 : Int) < (b.length : Int) := by omega
  repeat (first | refine awp_seq ?_ | refine thenA_normal ?_ | refine a_region ?_ | refine r_done ?_ | (refine r_id ?_; first | refine r_len tab_ok rfl rfl rfl rfl rfl rfl rfl ?_ | refine r_ev tab_ok rfl rfl rfl rfl byE rfl ?_))
  refine awp_cond_p rfl (fun h => (h |> fun h => by omega)) (fun _ => ?_)
  repeat (first | refine awp_seq ?_ | refine a_region ?_ | refine awp_skip ?_ | (refine r_id ?_; first | refine r_ev tab_ok rfl rfl rfl rfl byE rfl ?_))
  refine r_call (pread_ok b (by omega)) call28 rfl rfl ⟨Sub.refl _, trivial⟩ rfl rfl rfl rfl ?_
  refine r_call (pall_ok (readL ⟨b.toArray⟩) (by omega) hN) call27 rfl rfl ⟨Sub.refl _, trivial⟩ rfl rfl rfl rfl ?_
  refine r_call (all_ok (toksF (readL ⟨b.toArray⟩)) (by omega)) call26 rfl rfl ⟨Sub.refl _, trivial⟩ rfl rfl rfl rfl ?_
  have hE : shE b = if 500 < (shtA (allF b) 0).length then ([], 3) else (shtA (allF b) 0, 0) := rfl
  rw [hE]
  rw [show allA (toksF (readL ⟨b.toArray⟩)) 0 = allF b from rfl] at hl3 ⊢
  clear hE
  generalize allF b = l at hat ht hk hl3 ⊢
  have hll := nszs_len l
  have hlm : (l.map nF).length = l.length := List.length_map _
  repeat (first | refine awp_seq ?_ | refine thenA_normal ?_ | refine awp_block ?_ | refine a_region ?_ | refine r_done ?_ | (refine r_id ?_; first | refine r_ev tab_ok rfl rfl rfl rfl byE rfl ?_))
  refine a_loop (σ := ShS l) (fun x => [.row 0 45 4 (x.out.map rlD)]) (fun x => [(2, .row 0 0), (4, .sl 7 (l.map nF)), (5, .val (.int .i64 x.i))]) (fun x => l.length + 1 - x.i) ⟨0, [], Nat.zero_le _, Nat.zero_le _, rfl⟩ (fits_conv byV byV) ?_
  rintro ⟨i, out, hol, hi, heq⟩
  dsimp only
  have hom : (out.map rlD).length = out.length := List.length_map _
  repeat (first | refine awp_seq ?_ | refine thenA_normal ?_ | refine a_region ?_ | refine r_done ?_ | (refine r_id ?_; first | refine r_len tab_ok rfl rfl rfl rfl rfl rfl rfl ?_ | refine r_ev tab_ok rfl rfl rfl rfl byE rfl ?_))
  refine awp_cond_p rfl (fun hlt => ?_) (fun hge => ?_)
  rotate_left
  · rw [shtA_end (by omega), List.append_nil] at heq
    rw [← heq]
    repeat (first | refine awp_seq ?_ | refine thenA_normal ?_ | refine a_region ?_ | refine awp_exit ?_ | refine r_done ?_ | (refine r_id ?_; first | refine r_ev tab_ok rfl rfl rfl rfl byE rfl ?_ | refine r_ld tab_ok rfl rfl rfl rfl rfl ?_))
    refine awp_cond_p rfl (fun h => ?_) (fun h => ?_)
    · rw [if_pos (by omega)]
      repeat (first | refine awp_seq ?_ | refine thenA_normal ?_ | refine a_region ?_ | refine awp_ret ?_ | refine thenA_ret ?_ | refine r_done ?_ | (refine r_id ?_; first | refine r_ev tab_ok rfl rfl rfl rfl byE rfl ?_) | refine ret2 byO rfl rfl rfl rfl ?_ ?_)
      all_goals first | exact Sub.nil _ | exact Sub.refl _
    · rw [if_neg (by omega)]
      repeat (first | refine awp_seq ?_ | refine thenA_normal ?_ | refine a_region ?_ | refine awp_skip ?_ | refine r_done ?_ | (refine r_id ?_; first | refine r_ev tab_ok rfl rfl rfl rfl byE rfl ?_))
      refine awp_fits (s' := ⟨[.gone], [(2, .sl 4 (out.map rlD)), (3, .val (.int .i64 0))]⟩) (fits_conv byV ⟨c_thaw rfl rfl rfl, c_sub rfl (Sub.refl _) rfl, trivial⟩) ?_
      repeat (first | refine awp_ret ?_ | refine ret2 byO rfl rfl rfl rfl ?_ ?_)
      all_goals exact Sub.refl _
  have hi' : i < l.length := by omega
  have hgi := ndAt_get hi'
  rw [shtA_step hi'] at heq
  have hon := on_at hat hi'
  have hone := pone_ok l i hi' (by omega) ht hk
  have hge := enI_ge l i
  have hel := enI_le hi'
  repeat (first | refine awp_seq ?_ | refine thenA_normal ?_ | refine awp_block ?_ | refine a_region ?_ | refine awp_skip ?_ | (refine r_id ?_; first | refine r_ev tab_ok rfl rfl rfl rfl byE rfl ?_ | refine r_idx tab_ok rfl rfl rfl rfl rfl rfl rfl (by first | exact ⟨by omega, by omega⟩ | (simp; omega)) rfl rfl ?_))
  simp only [Int.toNat_natCast, hgi]
  refine r_call (pskip_ok (ndAt l i)) call29 rfl rfl ⟨Sub.agg (by repeat' first | exact trivial | exact Sub.refl _ | exact Sub.nil _ | refine Sub.agg ?_ | apply And.intro), trivial⟩ rfl rfl rfl rfl ?_
  repeat (first | refine thenA_normal ?_ | refine r_done ?_)
  refine awp_cond rfl (fun hc => ?_) (fun hc => ?_)
  · rw [if_pos (show skB (ndAt l i) = true from hc)] at heq
    repeat (first | refine awp_seq ?_ | refine thenA_normal ?_ | refine a_region ?_ | refine awp_exit ?_ | refine thenA_exit ?_ | refine blockA_hit rfl ?_ | refine r_done ?_ | (refine r_id ?_; first | refine r_ev tab_ok rfl rfl rfl rfl byE rfl ?_))
    exact ⟨⟨i + 1, out, by omega, by omega, heq⟩, by dsimp only; omega, fits_of rfl byK⟩
  rw [if_neg (by rw [show skB (ndAt l i) = false from hc]; exact Bool.false_ne_true), emI] at heq
  repeat (first | refine awp_seq ?_ | refine a_region ?_ | refine awp_skip ?_ | (refine r_id ?_; first | refine r_ev tab_ok rfl rfl rfl rfl byE rfl ?_))
  refine r_call hone call30 rfl rfl ⟨Sub.refl _, Sub.refl _, trivial⟩ rfl rfl rfl rfl ?_
  rw [hon]
  generalize rlAt l i = r at heq ⊢
  generalize enI l i = k at heq hge hel ⊢
  repeat (first | refine awp_seq ?_ | refine thenA_normal ?_ | refine a_region ?_ | refine r_done ?_ | (refine r_id ?_; first | refine r_ev tab_ok rfl rfl rfl rfl byE rfl ?_ | refine r_wr tab_ok rfl rfl rfl rfl rfl ?_ | refine r_st tab_ok rfl rfl rfl rfl ?_))
  refine awp_cond rfl (fun ho => ?_) (fun ho => ?_)
  · rw [if_pos ho] at heq
    repeat (first | refine thenA_normal ?_ | refine a_region ?_ | refine blockA_normal ?_ | refine r_done ?_ | (refine r_id ?_; first | refine r_ev tab_ok rfl rfl rfl rfl byE rfl ?_ | refine r_ld tab_ok rfl rfl rfl rfl rfl ?_ | refine r_built tab_ok rfl rfl rfl rfl rfl rfl rfl rfl rfl ?_ | refine r_append tab_ok rfl rfl rfl rfl rfl rfl rfl rfl rfl (by first | omega | (simp; omega)) rfl ?_))
    refine ⟨⟨k + 1, out ++ [r], by simp; omega, by omega, by rw [List.append_assoc]; exact heq⟩, by dsimp only; omega, ?_⟩
    dsimp only
    rw [show (out ++ [r]).map rlD = out.map rlD ++ [rlD r] from List.map_append]
    exact fits_trans (s' := ⟨[.row 0 45 4 (out.map rlD ++ [rlD r]), .gone], [(2, .row 0 0), (4, .sl 7 (l.map nF)), (5, .val (.int .i64 (k + 1 : Nat)))]⟩) (fits_conv byV ⟨c_row rfl rfl rfl, c_sub rfl (Sub.refl _) rfl, c_sub rfl (Sub.refl _) rfl, trivial⟩) (fits_drop 1 rfl rfl byK)
  · rw [if_neg (by rw [ho]; exact Bool.false_ne_true), List.nil_append] at heq
    repeat (first | refine thenA_normal ?_ | refine blockA_normal ?_ | refine awp_skip ?_)
    exact ⟨⟨k + 1, out, by omega, by omega, heq⟩, by dsimp only; omega, fits_drop 1 rfl rfl byK⟩
end Go.Proofs.YtiolnmfaeenlmaaGreatDoor

/- The reference's SameDecls and SameRules of a thing and itself. -/
namespace Go.Proofs.YtiolnmfaeenlmaaGreatDoor
open Go Go.RowKit
set_option maxRecDepth 20000

theorem rsame_self (l : List Nd) (h : nszs l < 549755813888) : PCalls Tryz.prog 21 [.sl 7 (l.map nF), .sl 7 (l.map nF)] (.val (.bool true)) := by
  have := refSame_ok 549755813888 l l h (by decide)
  rwa [sameL_self] at this
set_option maxHeartbeats 4000000 in
theorem sdecls_self (a : List Dc) (hl : a.length ≤ 1099511627776) (hz : ∀ d ∈ a, nszs d.value < 549755813888) : PCalls Tryz.prog 18 [.sl 3 (a.map dcD), .sl 3 (a.map dcD)] (.val (.bool true)) := by
  refine p_start Tryz.func18 Tryz.ntmps18 rfl rfl rfl fun S w => ?_
  have hla : (a.map dcD).length = a.length := List.length_map _
  repeat (first | refine awp_seq ?_ | refine thenA_normal ?_ | refine a_region ?_ | refine r_done ?_ | (refine r_id ?_; first | refine r_len tab_ok rfl rfl rfl rfl rfl rfl rfl ?_ | refine r_ev tab_ok rfl rfl rfl rfl byE rfl ?_))
  refine awp_cond_n rfl (fun hne => absurd rfl hne) (fun _ => ?_)
  repeat (first | refine awp_seq ?_ | refine thenA_normal ?_ | refine awp_block ?_ | refine a_region ?_ | refine awp_skip ?_ | refine r_done ?_ | (refine r_id ?_; first | refine r_ev tab_ok rfl rfl rfl rfl byE rfl ?_))
  refine a_loop (σ := {i : Nat // i ≤ a.length}) (fun _ => []) (fun x => [(0, .sl 3 (a.map dcD)), (1, .sl 3 (a.map dcD)), (5, .val (.int .i64 x.1))]) (fun x => a.length - x.1) ⟨0, Nat.zero_le _⟩ (fits_of rfl byK) ?_
  rintro ⟨i, hi⟩
  dsimp only
  repeat (first | refine awp_seq ?_ | refine thenA_normal ?_ | refine a_region ?_ | refine r_done ?_ | (refine r_id ?_; first | refine r_len tab_ok rfl rfl rfl rfl rfl rfl rfl ?_ | refine r_ev tab_ok rfl rfl rfl rfl byE rfl ?_))
  refine awp_cond_p rfl (fun hlt => ?_) (fun hge => ?_)
  · have hi' : i < a.length := by omega
    obtain ⟨d, hd⟩ : ∃ d, a[i] = d := ⟨_, rfl⟩
    have hdz := hz d (by rw [← hd]; exact List.getElem_mem hi')
    repeat (first | refine awp_seq ?_ | refine awp_block ?_ | refine a_draw1 mixed_ok (by kernel_rfl) ?_ | refine awp_skip ?_ | (refine r_id ?_; first | refine r_ev tab_ok rfl rfl rfl rfl byE rfl ?_ | refine r_idx tab_ok rfl rfl rfl rfl rfl rfl rfl (by first | exact ⟨by omega, by omega⟩ | (simp; omega)) rfl rfl ?_) | refine r_g rfl rfl (congrArg (fun b => AV.val (.bool b)) (bnot_t rfl)) ?_ | refine r_pick_f rfl rfl (congrArg (fun b => AV.val (.bool b)) (bnot_t rfl)) rfl rfl rfl rfl ?_)
    try simp only [Int.toNat_natCast, hd]
    try simp only [Int.toNat_natCast, hd]
    refine r_call (rsame_self d.value hdz) call21 rfl rfl ⟨Sub.refl _, Sub.refl _, trivial⟩ rfl rfl rfl rfl ?_
    repeat (first | refine thenA_normal ?_ | refine a_region ?_ | refine awp_skip ?_ | refine r_done ?_ | refine r_done' ?_ | (refine r_id ?_; first | refine r_ev tab_ok rfl rfl rfl rfl byE rfl ?_) | refine awp_cond_f rfl ?_ | refine r_g rfl rfl (congrArg (fun b => AV.val (.bool b)) (bnot_t rfl)) ?_ | refine r_pick_f rfl rfl (congrArg (fun b => AV.val (.bool b)) (bnot_t rfl)) rfl rfl rfl rfl ?_)
    exact ⟨⟨i + 1, hi'⟩, by dsimp only; omega, fits_of rfl byK⟩
  · repeat (first | refine awp_seq ?_ | refine thenA_normal ?_ | refine a_region ?_ | refine awp_ret ?_ | refine awp_exit ?_ | refine r_done ?_ | (refine r_id ?_; first | refine r_ev tab_ok rfl rfl rfl rfl byE rfl ?_) | refine ret1 byO rfl rfl rfl ?_)
    exact Sub.refl _
set_option maxHeartbeats 4000000 in
theorem srules_self (a : List Rl) (hl : a.length ≤ 1099511627776) (hz : ∀ r ∈ a, nszs r.pre < 549755813888 ∧ r.decls.length ≤ 1099511627776 ∧ ∀ d ∈ r.decls, nszs d.value < 549755813888) : PCalls Tryz.prog 17 [.sl 4 (a.map rlD), .sl 4 (a.map rlD)] (.val (.bool true)) := by
  refine p_start Tryz.func17 Tryz.ntmps17 rfl rfl rfl fun S w => ?_
  have hla : (a.map rlD).length = a.length := List.length_map _
  repeat (first | refine awp_seq ?_ | refine thenA_normal ?_ | refine a_region ?_ | refine r_done ?_ | (refine r_id ?_; first | refine r_len tab_ok rfl rfl rfl rfl rfl rfl rfl ?_ | refine r_ev tab_ok rfl rfl rfl rfl byE rfl ?_))
  refine awp_cond_n rfl (fun hne => absurd rfl hne) (fun _ => ?_)
  repeat (first | refine awp_seq ?_ | refine thenA_normal ?_ | refine awp_block ?_ | refine a_region ?_ | refine awp_skip ?_ | refine r_done ?_ | (refine r_id ?_; first | refine r_ev tab_ok rfl rfl rfl rfl byE rfl ?_))
  refine a_loop (σ := {i : Nat // i ≤ a.length}) (fun _ => []) (fun x => [(0, .sl 4 (a.map rlD)), (1, .sl 4 (a.map rlD)), (5, .val (.int .i64 x.1))]) (fun x => a.length - x.1) ⟨0, Nat.zero_le _⟩ (fits_of rfl byK) ?_
  rintro ⟨i, hi⟩
  dsimp only
  repeat (first | refine awp_seq ?_ | refine thenA_normal ?_ | refine a_region ?_ | refine r_done ?_ | (refine r_id ?_; first | refine r_len tab_ok rfl rfl rfl rfl rfl rfl rfl ?_ | refine r_ev tab_ok rfl rfl rfl rfl byE rfl ?_))
  refine awp_cond_p rfl (fun hlt => ?_) (fun hge => ?_)
  · have hi' : i < a.length := by omega
    obtain ⟨d, hd⟩ : ∃ d, a[i] = d := ⟨_, rfl⟩
    obtain ⟨h1, h2, h3⟩ := hz d (by rw [← hd]; exact List.getElem_mem hi')
    repeat (first | refine awp_seq ?_ | refine awp_block ?_ | refine a_draw1 mixed_ok (by kernel_rfl) ?_ | refine awp_skip ?_ | (refine r_id ?_; first | refine r_ev tab_ok rfl rfl rfl rfl byE rfl ?_ | refine r_idx tab_ok rfl rfl rfl rfl rfl rfl rfl (by first | exact ⟨by omega, by omega⟩ | (simp; omega)) rfl rfl ?_) | refine r_g rfl rfl (congrArg (fun b => AV.val (.bool b)) (bnot_t rfl)) ?_ | refine r_pick_f rfl rfl (congrArg (fun b => AV.val (.bool b)) (bnot_t rfl)) rfl rfl rfl rfl ?_)
    try simp only [Int.toNat_natCast, hd]
    try simp only [Int.toNat_natCast, hd]
    refine r_call (rsame_self d.pre h1) call21 rfl rfl ⟨Sub.refl _, Sub.refl _, trivial⟩ rfl rfl rfl rfl ?_
    repeat (first | (refine r_id ?_; first | refine r_ev tab_ok rfl rfl rfl rfl byE rfl ?_ | refine r_idx tab_ok rfl rfl rfl rfl rfl rfl rfl (by first | exact ⟨by omega, by omega⟩ | (simp; omega)) rfl rfl ?_ | refine r_ev_on tab_ok rfl rfl rfl rfl rfl rfl (by first | exact trivial | exact ⟨by omega, by omega⟩ | omega) rfl ?_) | refine r_g rfl rfl rfl ?_ | refine r_g rfl rfl (congrArg (fun b => AV.val (.bool b)) (bnot_t rfl)) ?_ | refine r_pick_f rfl rfl (congrArg (fun b => AV.val (.bool b)) (bnot_t rfl)) rfl rfl rfl rfl ?_)
    try simp only [Int.toNat_natCast, hd]
    refine r_call (sdecls_self d.decls h2 h3) call18 rfl rfl ⟨Sub.refl _, Sub.refl _, trivial⟩ rfl rfl rfl rfl ?_
    repeat (first | refine thenA_normal ?_ | refine a_region ?_ | refine awp_skip ?_ | refine r_done ?_ | refine r_done' ?_ | (refine r_id ?_; first | refine r_ev tab_ok rfl rfl rfl rfl byE rfl ?_ | refine r_pick_f rfl rfl rfl rfl rfl rfl rfl ?_ | refine r_ev_on tab_ok rfl rfl rfl rfl rfl rfl (by first | exact trivial | exact ⟨by omega, by omega⟩ | omega) rfl ?_) | refine awp_cond_f rfl ?_)
    exact ⟨⟨i + 1, hi'⟩, by dsimp only; omega, fits_of rfl byK⟩
  · repeat (first | refine awp_seq ?_ | refine thenA_normal ?_ | refine a_region ?_ | refine awp_ret ?_ | refine awp_exit ?_ | refine r_done ?_ | (refine r_id ?_; first | refine r_ev tab_ok rfl rfl rfl rfl byE rfl ?_) | refine ret1 byO rfl rfl rfl ?_)
    exact Sub.refl _
end Go.Proofs.YtiolnmfaeenlmaaGreatDoor
