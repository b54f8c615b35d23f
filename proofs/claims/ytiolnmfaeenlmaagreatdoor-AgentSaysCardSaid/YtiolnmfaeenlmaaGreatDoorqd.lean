/- rules.Decls handed back as own rows. -/
import Derived.Test.YtiolnmfaeenlmaaGreatDoorRl
namespace Go.Proofs.YtiolnmfaeenlmaaGreatDoor
open Go Go.RowKit
set_option maxRecDepth 20000

set_option maxHeartbeats 16000000 in
theorem declsM_ok (l : List Nd) (hl : nszs l < 549755813888) (ht : ∀ n ∈ l, n.tok.text.size ≤ 1099511627776) : MCalls Tryz.prog 19 [] [.sl 7 (l.map nF)] [.row 0 51 3 ((decA l 0).map dcD)] (.row 0 0) := by
  refine mcalls_ofn Tryz.func19 Tryz.ntmps19 rfl rfl rfl 1 (by decide) fun S w β => ?_
  have hlm : (l.map nF).length = l.length := List.length_map _
  have hll := nszs_len l
  repeat (first | refine awp_seq ?_ | refine thenA_normal ?_ | refine awp_block ?_ | refine a_region ?_ | refine r_done ?_ | (refine r_id ?_; first | refine r_ev tab_ok rfl rfl rfl rfl byE rfl ?_))
  refine a_loop (σ := DcS l) (fun x => [.row 0 51 3 (x.out.map dcD)]) (fun x => [(0, .sl 7 (l.map nF)), (2, .row 0 0), (3, .val (.int .i64 x.i))]) (fun x => l.length + 1 - x.i) ⟨0, [], Nat.zero_le _, Nat.zero_le _, rfl⟩ (fits_conv byV byV) ?_
  rintro ⟨i, out, hol, hi, heq⟩
  dsimp only
  have hom : (out.map dcD).length = out.length := List.length_map _
  repeat (first | refine awp_seq ?_ | refine thenA_normal ?_ | refine a_region ?_ | refine r_done ?_ | (refine r_id ?_; first | refine r_len tab_ok rfl rfl rfl rfl rfl rfl rfl ?_ | refine r_ev tab_ok rfl rfl rfl rfl byE rfl ?_))
  refine awp_cond_p rfl (fun hlt => ?_) (fun hge => ?_)
  rotate_left
  · rw [decA_end (by omega), List.append_nil] at heq
    rw [heq]
    repeat (first | refine awp_seq ?_ | refine thenA_normal ?_ | refine a_region ?_ | refine awp_exit ?_ | refine r_done ?_ | (refine r_id ?_; first | refine r_ev tab_ok rfl rfl rfl rfl byE rfl ?_))
    refine awp_fits (s' := ⟨[.row 0 51 3 ((decA l 0).map dcD)], [(2, .row 0 0)]⟩) (fits_conv byV ⟨c_row rfl rfl rfl, trivial⟩) ?_
    repeat (first | refine awp_ret ?_ | refine retM1 byO rfl rfl rfl rfl rfl ?_)
    all_goals exact Sub.refl _
  have hi' : i < l.length := by omega
  have hgi := ndAt_get hi'
  rw [decA_step hi'] at heq
  obtain ⟨n, hn⟩ : ∃ n, ndAt l i = n := ⟨_, rfl⟩
  have hnt := ht n (by rw [← hn, ← hgi]; exact List.getElem_mem hi')
  simp only [hn] at heq hgi
  repeat (first | refine awp_seq ?_ | refine thenA_normal ?_ | refine awp_block ?_ | refine a_region ?_ | refine awp_skip ?_ | refine r_done ?_ | (refine r_id ?_; first | refine r_ev tab_ok rfl rfl rfl rfl byE rfl ?_ | refine r_idx tab_ok rfl rfl rfl rfl rfl rfl rfl (by first | exact ⟨by omega, by omega⟩ | (simp; omega)) rfl rfl ?_))
  simp only [Int.toNat_natCast, hgi]
  refine awp_cond_p rfl (fun h13 => ?_) (fun h13 => ?_)
  · rw [decide_eq_true h13, Bool.true_or, if_pos rfl] at heq
    repeat (first | refine thenA_normal ?_ | refine awp_skip ?_)
    refine awp_cond_p rfl (fun _ => ?_) (fun h => absurd h13 h)
    repeat (first | refine thenA_normal ?_ | refine a_region ?_ | refine blockA_normal ?_ | refine r_done ?_ | (refine r_id ?_; first | refine r_ev tab_ok rfl rfl rfl rfl byE rfl ?_))
    exact ⟨⟨i + 1, out, by omega, by omega, heq⟩, by dsimp only; omega, fits_of rfl byK⟩
  rw [decide_eq_false h13, Bool.false_or] at heq
  repeat (first | refine thenA_normal ?_ | refine a_region ?_ | refine r_done ?_ | (refine r_id ?_; first | refine r_ev tab_ok rfl rfl rfl rfl byE rfl ?_))
  refine awp_cond_p rfl (fun h17 => ?_) (fun h17 => ?_)
  · rw [decide_eq_true h17, if_pos rfl] at heq
    repeat (first | refine thenA_normal ?_ | refine a_region ?_ | refine blockA_normal ?_ | refine r_done ?_ | (refine r_id ?_; first | refine r_ev tab_ok rfl rfl rfl rfl byE rfl ?_))
    exact ⟨⟨i + 1, out, by omega, by omega, heq⟩, by dsimp only; omega, fits_of rfl byK⟩
  rw [decide_eq_false h17, if_neg Bool.false_ne_true] at heq
  repeat (first | refine awp_seq ?_ | refine thenA_normal ?_ | refine a_region ?_ | refine r_done ?_ | (refine r_id ?_; first | refine r_ev tab_ok rfl rfl rfl rfl byE rfl ?_))
  refine awp_cond_p rfl (fun hat => ?_) (fun hat => ?_)
  · rw [if_pos hat] at heq
    have hge := runE_ge (fun n => !semB n && !blkB n) l i
    have hle := runE_le (p := fun n => !semB n && !blkB n) (Nat.le_of_lt hi')
    repeat (first | refine a_region ?_ | (refine r_id ?_; first | refine r_ev tab_ok rfl rfl rfl rfl byE rfl ?_))
    refine r_call (show PCalls Tryz.prog 41 [.sl 7 (l.map nF), .val (.int .i64 i), .cl 42 []] (.val (.int .i64 (runE (fun n => !semB n && !blkB n) l i))) by rw [← nab_eq]; exact until_ok l i endB 42 [] (by omega) (by omega) call42 rfl (fun s _ => pends_ok s)) call41 rfl rfl ⟨Sub.refl _, Sub.refl _, Sub.refl _, trivial⟩ rfl rfl rfl rfl ?_
    generalize runE (fun n => !semB n && !blkB n) l i = k at heq hge hle ⊢
    repeat (first | refine thenA_normal ?_ | refine blockA_normal ?_ | refine r_done ?_ | (refine r_id ?_; first | refine r_ev tab_ok rfl rfl rfl rfl byE rfl ?_))
    exact ⟨⟨k + 1, out, by omega, by omega, heq⟩, by dsimp only; omega, fits_of rfl byK⟩
  rw [if_neg hat] at heq
  have hsn : semB n = false := by rw [semB]; exact decide_eq_false h17
  have hkgt : i < runE (fun n => !semB n) l i := runE_gt hi' (by rw [hn, hsn]; rfl)
  have hkle : runE (fun n => !semB n) l i ≤ l.length := runE_le (Nat.le_of_lt hi')
  have hcol := col_at hkgt hkle
  have hcge := runE_ge whN l (i + 1)
  have hcle := runE_le (p := whN) (l := l) (i := i + 1) (by omega)
  repeat (first | refine awp_seq ?_ | refine a_region ?_ | (refine r_id ?_; first | refine r_ev tab_ok rfl rfl rfl rfl byE rfl ?_))
  refine r_call (show PCalls Tryz.prog 41 [.sl 7 (l.map nF), .val (.int .i64 ((i : Int) + 1)), .cl 43 []] (.val (.int .i64 (runE whN l (i + 1)))) by
    have := until_ok l (i + 1) (fun n => !whN n) 43 [] (by omega) (by omega) call43 rfl (fun s _ => pnw_ok s)
    rw [nnw_eq] at this
    exact this) call41 rfl rfl ⟨Sub.refl _, Sub.refl _, Sub.refl _, trivial⟩ rfl rfl rfl rfl ?_
  repeat (first | refine awp_seq ?_ | refine a_region ?_ | refine r_done ?_ | (refine r_id ?_; first | refine r_ev tab_ok rfl rfl rfl rfl byE rfl ?_))
  refine r_call (until_ok l i semB 44 [] (by omega) (by omega) call44 rfl (fun s _ => psemi_ok s)) call41 rfl rfl ⟨Sub.refl _, Sub.refl _, Sub.refl _, trivial⟩ rfl rfl rfl rfl ?_
  rw [oneD] at heq
  generalize runE (fun n => !semB n) l i = k at heq hkgt hkle hcol ⊢
  generalize hcc : runE whN l (i + 1) = c at hcol hcge hcle ⊢
  have hnx : ∀ D : List Dc, D.length ≤ 1 → (out ++ D).length ≤ k := fun D hD => by rw [List.length_append]; omega
  by_cases hk1 : n.tok.kind = 1
  rotate_left
  · rw [decide_eq_false (show ¬ (ndAt l i).tok.kind = 1 by rw [hn]; exact hk1), Bool.false_and, if_neg Bool.false_ne_true, List.nil_append] at heq
    repeat (first | refine awp_seq ?_ | refine thenA_normal ?_ | refine a_region ?_ | refine blockA_normal ?_ | refine awp_skip ?_ | refine r_done ?_ | (refine r_id ?_; first | refine r_ev tab_ok rfl rfl rfl rfl byE rfl ?_ | refine r_pick_f rfl rfl rfl rfl rfl rfl rfl ?_ | refine r_off rfl rfl rfl rfl rfl rfl ?_) | refine awp_cond_f rfl ?_ | refine r_pick_f rfl rfl (congrArg (fun b => AV.val (.bool b)) (decide_eq_false (by omega))) rfl rfl rfl rfl ?_ | refine r_off rfl rfl (congrArg (fun b => AV.val (.bool b)) (decide_eq_false (by omega))) rfl rfl rfl ?_)
    exact ⟨⟨k, out, by omega, by omega, heq⟩, by dsimp only; omega, fits_of rfl byK⟩
  rw [decide_eq_true (show (ndAt l i).tok.kind = 1 by rw [hn]; exact hk1), Bool.true_and] at heq
  by_cases hck : c < k
  rotate_left
  · rw [decide_eq_false (hcol.2 hck), Bool.false_and, if_neg Bool.false_ne_true, List.nil_append] at heq
    repeat (first | refine awp_seq ?_ | refine thenA_normal ?_ | refine a_region ?_ | refine blockA_normal ?_ | refine awp_skip ?_ | refine r_done ?_ | (refine r_id ?_; first | refine r_ev tab_ok rfl rfl rfl rfl byE rfl ?_) | refine awp_cond_f rfl ?_ | refine r_g rfl rfl (congrArg (fun b => AV.val (.bool b)) (decide_eq_true (by omega))) ?_ | refine r_pick_t rfl rfl (congrArg (fun b => AV.val (.bool b)) (decide_eq_true (by omega))) rfl rfl rfl rfl ?_ | refine r_pick_f rfl rfl (congrArg (fun b => AV.val (.bool b)) (decide_eq_false (by omega))) rfl rfl rfl rfl ?_ | refine r_off rfl rfl (congrArg (fun b => AV.val (.bool b)) (decide_eq_false (by omega))) rfl rfl rfl ?_)
    exact ⟨⟨k, out, by omega, by omega, heq⟩, by dsimp only; omega, fits_of rfl byK⟩
  rw [hcol.1 hck, decide_eq_true hck, Bool.true_and] at heq
  have hcl : c < l.length := by omega
  have hgc := ndAt_get hcl
  obtain ⟨m, hm⟩ : ∃ m, ndAt l c = m := ⟨_, rfl⟩
  rw [hm] at heq hgc
  clear hcol
  repeat (first | refine awp_seq ?_ | refine thenA_normal ?_ | refine a_region ?_ | refine r_done ?_ | (refine r_id ?_; first | refine r_ev tab_ok rfl rfl rfl rfl byE rfl ?_ | refine r_idx tab_ok rfl rfl rfl rfl rfl rfl rfl (by first | exact ⟨by omega, by omega⟩ | (simp; omega)) rfl rfl ?_) | refine r_g rfl rfl (congrArg (fun b => AV.val (.bool b)) (decide_eq_true (by omega))) ?_ | refine r_pick_t rfl rfl (congrArg (fun b => AV.val (.bool b)) (decide_eq_true (by omega))) rfl rfl rfl rfl ?_)
  simp only [Int.toNat_natCast, hgc]
  refine awp_cond_p rfl (fun h16 => ?_) (fun h16 => ?_)
  rotate_left
  · rw [decide_eq_false h16, if_neg Bool.false_ne_true, List.nil_append] at heq
    repeat (first | refine thenA_normal ?_ | refine a_region ?_ | refine blockA_normal ?_ | refine awp_skip ?_ | refine r_done ?_ | (refine r_id ?_; first | refine r_ev tab_ok rfl rfl rfl rfl byE rfl ?_))
    exact ⟨⟨k, out, by omega, by omega, heq⟩, by dsimp only; omega, fits_of rfl byK⟩
  rw [decide_eq_true h16, if_pos rfl] at heq
  obtain ⟨q, hq⟩ : ∃ q, q = (l.take k).drop (c + 1) := ⟨_, rfl⟩
  rw [← hq] at heq
  have hqm : ∀ n ∈ q, n ∈ l := fun n hn => by rw [hq] at hn; exact List.mem_of_mem_take (List.mem_of_mem_drop hn)
  have hqz : nszs q ≤ nszs l := by rw [hq]; exact Nat.le_trans (nszs_td _ _).2 (nszs_td _ _).1
  repeat (first | refine awp_seq ?_ | refine a_region ?_ | (refine r_id ?_; first | refine r_ev tab_ok rfl rfl rfl rfl byE rfl ?_))
  refine r_cut tab_ok rfl rfl rfl rfl rfl rfl rfl rfl (by show (0 : Int) ≤ ((c : Nat) : Int) + 1 ∧ ((c : Nat) : Int) + 1 ≤ ((k : Nat) : Int) ∧ ((k : Nat) : Int) ≤ (l.length : Int); omega) rfl ?_
  have hV := pvalue_ok q (by omega) (fun z hz => ht z (hqm z hz))
  have hvl := valF_len q
  obtain ⟨v, im, hvi⟩ : ∃ v im, valF q = (v, im) := ⟨_, _, rfl⟩
  have hvm : (v.map nF).length = v.length := List.length_map _
  have hql : q.length ≤ l.length := by rw [hq, List.length_drop, List.length_take]; omega
  rw [hvi] at hV hvl heq
  dsimp only at hV hvl heq
  rw [may_any] at heq
  rw [hq] at hV
  refine r_call hV call15 rfl rfl ⟨Sub.refl _, trivial⟩ rfl rfl rfl rfl ?_
  repeat (first | refine awp_seq ?_ | refine r_done ?_ | (refine r_id ?_; first | refine r_ev tab_ok rfl rfl rfl rfl byE rfl ?_))
  by_cases hv0 : 0 < v.length
  rotate_left
  · rw [decide_eq_false hv0, Bool.false_and, if_neg Bool.false_ne_true, List.nil_append] at heq
    repeat (first | refine thenA_normal ?_ | refine a_region ?_ | refine blockA_normal ?_ | refine awp_skip ?_ | refine r_done ?_ | (refine r_id ?_; first | refine r_len tab_ok rfl rfl rfl rfl rfl rfl rfl ?_ | refine r_ev tab_ok rfl rfl rfl rfl byE rfl ?_) | refine awp_cond_f rfl ?_ | refine r_pick_f rfl rfl (congrArg (fun b => AV.val (.bool b)) (decide_eq_false (by omega))) rfl rfl rfl rfl ?_ | refine r_off rfl rfl (congrArg (fun b => AV.val (.bool b)) (decide_eq_false (by omega))) rfl rfl rfl ?_)
    exact ⟨⟨k, out, by omega, by omega, heq⟩, by dsimp only; omega, fits_of rfl byK⟩
  rw [decide_eq_true hv0, Bool.true_and] at heq
  repeat (first | refine a_region ?_ | (refine r_id ?_; first | refine r_len tab_ok rfl rfl rfl rfl rfl rfl rfl ?_ | refine r_ev tab_ok rfl rfl rfl rfl byE rfl ?_) | refine r_g rfl rfl (congrArg (fun b => AV.val (.bool b)) (decide_eq_true (by omega))) ?_)
  refine r_call (anyN_ok v (fun n => notB n.tok) 46 [] (by omega) call46 rfl (fun s _ => podd_ok s)) call45 rfl rfl ⟨Sub.refl _, Sub.refl _, trivial⟩ rfl rfl rfl rfl ?_
  cases ha : v.any (fun n => notB n.tok) with
  | true =>
    rw [ha, if_neg (by decide), List.nil_append] at heq
    repeat (first | refine thenA_normal ?_ | refine a_region ?_ | refine blockA_normal ?_ | refine awp_skip ?_ | refine r_done ?_ | (refine r_id ?_; first | refine r_ev tab_ok rfl rfl rfl rfl byE rfl ?_) | refine awp_cond_f rfl ?_ | refine r_g rfl rfl (congrArg (fun b => AV.val (.bool b)) (decide_eq_true (by omega))) ?_ | refine r_pick_t rfl rfl (congrArg (fun b => AV.val (.bool b)) (decide_eq_true (by omega))) rfl rfl rfl rfl ?_)
    exact ⟨⟨k, out, by omega, by omega, heq⟩, by dsimp only; omega, fits_of rfl byK⟩
  | false =>
    rw [ha, if_pos (by decide)] at heq
    repeat (first | refine thenA_normal ?_ | refine a_region ?_ | refine r_done ?_ | (refine r_id ?_; first | refine r_ev tab_ok rfl rfl rfl rfl byE rfl ?_ | refine r_idx tab_ok rfl rfl rfl rfl rfl rfl rfl (by first | exact ⟨by omega, by omega⟩ | (simp; omega)) rfl rfl ?_) | refine awp_cond_t rfl ?_ | refine r_g rfl rfl (congrArg (fun b => AV.val (.bool b)) (decide_eq_true (by omega))) ?_ | refine r_pick_t rfl rfl (congrArg (fun b => AV.val (.bool b)) (decide_eq_true (by omega))) rfl rfl rfl rfl ?_)
    simp only [Int.toNat_natCast, hgi]
    refine r_call (prname_ok n.tok.text (by omega)) call47 rfl rfl ⟨Sub.refl _, trivial⟩ rfl rfl rfl rfl ?_
    repeat (first | refine thenA_normal ?_ | refine a_region ?_ | refine blockA_normal ?_ | refine r_done ?_ | (refine r_id ?_; first | refine r_ev tab_ok rfl rfl rfl rfl byE rfl ?_ | refine r_build tab_ok rfl rfl rfl rfl rfl rfl ?_ | refine r_built tab_ok rfl rfl rfl rfl rfl rfl rfl rfl rfl ?_ | refine r_append tab_ok rfl rfl rfl rfl rfl rfl rfl rfl rfl (by first | omega | (simp; omega)) rfl ?_))
    refine ⟨⟨k, out ++ [⟨nameS n.tok.text, v, im⟩], by simp; omega, by omega, by rw [List.append_assoc]; rw [hn] at heq; exact heq⟩, by dsimp only; omega, ?_⟩
    dsimp only
    rw [show (out ++ [(⟨nameS n.tok.text, v, im⟩ : Dc)]).map dcD = out.map dcD ++ [dcD ⟨nameS n.tok.text, v, im⟩] from List.map_append]
    exact fits_conv byV byV
end Go.Proofs.YtiolnmfaeenlmaaGreatDoor
