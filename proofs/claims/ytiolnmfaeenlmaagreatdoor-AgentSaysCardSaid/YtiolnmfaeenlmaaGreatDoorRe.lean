import Derived.Test.YtiolnmfaeenlmaaGreatDoorRc
import Derived.Test.YtiolnmfaeenlmaaGreatDoorI8
/- rules.Decls, walked. -/
namespace Go.Proofs.YtiolnmfaeenlmaaGreatDoor
open Go Go.RowKit
set_option maxRecDepth 20000

theorem nab_eq : (fun n => !endB n) = (fun n => !semB n && !blkB n) := funext fun n => by rw [endB]; cases blkB n <;> cases semB n <;> rfl
theorem nnw_eq : (fun n : Nd => !(fun n => !whN n) n) = whN := funext fun n => Bool.not_not _
theorem col_at {l : List Nd} {i k : Nat} (hik : i < k) (hk : k ≤ l.length) : (runE whN l (i + 1) < k → runE whN (l.take k) (i + 1) = runE whN l (i + 1)) ∧ (¬ runE whN l (i + 1) < k → ¬ runE whN (l.take k) (i + 1) < k) := by
  have hlt : (l.take k).length = k := by rw [List.length_take]; omega
  have g1 := runE_ge whN l (i + 1)
  have g2 := runE_ge whN (l.take k) (i + 1)
  have key : ∀ c, runE whN (l.take k) (i + 1) = c → c < k → c < runE whN l (i + 1) → False := by
    intro c hc h1 h2
    have h3 := runE_at (p := whN) (l := l.take k) (i := i + 1) (by omega)
    rw [hc, ndAt_take h1] at h3
    have h4 := (runE_lt (p := whN) (l := l) (i := i + 1) (k := c) (by omega) h2).2
    rw [h3] at h4
    cases h4
  refine ⟨fun h => ?_, fun h h2 => key _ rfl h2 (by omega)⟩
  rcases Nat.lt_trichotomy (runE whN (l.take k) (i + 1)) (runE whN l (i + 1)) with h1 | h1 | h1
  · exact (key _ rfl (by omega) h1).elim
  · exact h1
  · have h3 := (runE_lt (p := whN) (l := l.take k) (i := i + 1) (k := runE whN l (i + 1)) (by omega) h1).2
    have h4 := runE_at (p := whN) (l := l) (i := i + 1) (by omega)
    rw [ndAt_take h, h4] at h3
    cases h3
theorem may_any (l : List Nd) : mayF l = (decide (0 < l.length) && !l.any fun n => notB n.tok) := by
  rw [mayF, Bool.and_comm]
  congr 1
  induction l with
  | nil => rfl
  | cons a r ih => rw [List.all_cons, List.any_cons, ih, Bool.not_or]
theorem nszs_td (l : List Nd) (k : Nat) : nszs (l.take k) ≤ nszs l ∧ nszs (l.drop k) ≤ nszs l := by
  have h := nszs_append (l.take k) (l.drop k)
  rw [List.take_append_drop] at h
  omega
set_option maxHeartbeats 16000000 in
theorem pdecls_ok (l : List Nd) (hl : nszs l < 549755813888) (ht : ∀ n ∈ l, n.tok.text.size ≤ 1099511627776) : PCalls Tryz.prog 19 [.sl 7 (l.map nF)] (.sl 3 ((decA l 0).map dcD)) := by
  refine p_start Tryz.func19 Tryz.ntmps19 rfl rfl rfl fun S w => ?_
  have hlm : (l.map nF).length = l.length := List.length_map _
  have hll := nszs_len l
  repeat (first | refine awp_seq ?_ | refine thenA_normal ?_ | refine awp_block ?_ | refine a_region ?_ | refine r_done ?_ | (refine r_id ?_; first | refine r_ev tab_ok rfl rfl rfl rfl byE rfl ?_))
  refine a_loop (σ := DcS l) (fun x => [.row 0 51 3 (x.out.map dcD)]) (fun x => [(0, .sl 7 (l.map nF)), (2, .row 0 0), (3, .val (.int .i64 x.i))]) (fun x => l.length + 1 - x.i) ⟨0, [], Nat.zero_le _, Nat.zero_le _, rfl⟩ (fits_conv byV byV) ?_
  rintro ⟨i, out, hol, hi, heq⟩
  dsimp only
  have hom : (out.map dcD).length = out.length := List.length_map _
  repeat (first | refine awp_seq ?_ | refine thenA_normal ?_ | refine a_region ?_ | refine r_done ?_ | (refine r_id ?_; first | refine r_len tab_ok rfl rfl rfl rfl rfl rfl rfl ?_ | refine r_ev tab_ok rfl rfl rfl rfl byE rfl ?_))
  refine awp_cond_p rfl (fun hlt => ?_) (fun hge => ?_)
  rotate_left
  · rw [decA_end (by omega), List.append_nil] at heq
    rw [heq]
    repeat (first | refine awp_seq ?_ | refine thenA_normal ?_ | refine a_region ?_ | refine awp_ret ?_ | refine awp_exit ?_ | refine r_done ?_ | (refine r_id ?_; first | refine r_ev tab_ok rfl rfl rfl rfl byE rfl ?_) | refine ret1_row byO rfl rfl rfl ?_)
    all_goals exact Sub.refl _
  have hi' : i < l.length := by omega
  have hgi := ndAt_get hi'
  rw [decA_step hi'] at heq
  obtain ⟨n, hn⟩ : ∃ n, ndAt l i = n := ⟨_, rfl⟩
  have hnt := ht n (by rw [← hn, ← hgi]; exact List.getElem_mem hi')
  simp only [hn] at heq hgi
  repeat (first | refine awp_seq ?_ | refine thenA_normal ?_ | refine awp_block ?_ | refine a_region ?_ | refine awp_skip ?_ | refine r_done ?_ | (refine r_id ?_; first | refine r_ev tab_ok rfl rfl rfl rfl byE rfl ?_ | refine r_idx tab_ok rfl rfl rfl rfl rfl rfl rfl (by first | exact ⟨by omega, by omega⟩ | (simp; omega)) rfl rfl ?_))
  simp only [Int.toNat_natCast, hgi]
  refine awp_cond_p rfl (fun h13 => ?_) (fun h13 => ?_)
  · rw [decide_eq_true h13, Bool.true_or, if_pos rfl] at heq
    repeat (first | refine thenA_normal ?_ | refine awp_skip ?_)
    refine awp_cond_p rfl (fun _ => ?_) (fun h => absurd h13 h)
    repeat (first | refine thenA_normal ?_ | refine a_region ?_ | refine blockA_normal ?_ | refine r_done ?_ | (refine r_id ?_; first | refine r_ev tab_ok rfl rfl rfl rfl byE rfl ?_))
    exact ⟨⟨i + 1, out, by omega, by omega, heq⟩, by dsimp only; omega, fits_of rfl byK⟩
  rw [decide_eq_false h13, Bool.false_or] at heq
  repeat (first | refine thenA_normal ?_ | refine a_region ?_ | refine r_done ?_ | (refine r_id ?_; first | refine r_ev tab_ok rfl rfl rfl rfl byE rfl ?_))
  refine awp_cond_p rfl (fun h17 => ?_) (fun h17 => ?_)
  · rw [decide_eq_true h17, if_pos rfl] at heq
    repeat (first | refine thenA_normal ?_ | refine a_region ?_ | refine blockA_normal ?_ | refine r_done ?_ | (refine r_id ?_; first | refine r_ev tab_ok rfl rfl rfl rfl byE rfl ?_))
    exact ⟨⟨i + 1, out, by omega, by omega, heq⟩, by dsimp only; omega, fits_of rfl byK⟩
  rw [decide_eq_false h17, if_neg Bool.false_ne_true] at heq
  repeat (first | refine awp_seq ?_ | refine thenA_normal ?_ | refine a_region ?_ | refine r_done ?_ | (refine r_id ?_; first | refine r_ev tab_ok rfl rfl rfl rfl byE rfl ?_))
  refine awp_cond_p rfl (fun hat => ?_) (fun hat => ?_)
  · rw [if_pos hat] at heq
    have hge := runE_ge (fun n => !semB n && !blkB n) l i
    have hle := runE_le (p := fun n => !semB n && !blkB n) (Nat.le_of_lt hi')
    repeat (first | refine a_region ?_ | (refine r_id ?_; first | refine r_ev tab_ok rfl rfl rfl rfl byE rfl ?_))
    refine r_call (show PCalls Tryz.prog 41 [.sl 7 (l.map nF), .val (.int .i64 i), .cl 42 []] (.val (.int .i64 (runE (fun n => !semB n && !blkB n) l i))) by rw [← nab_eq]; exact until_ok l i endB 42 [] (by omega) (by omega) call42 rfl (fun s _ => pends_ok s)) call41 rfl rfl ⟨Sub.refl _, Sub.refl _, Sub.refl _, trivial⟩ rfl rfl rfl rfl ?_
    generalize runE (fun n => !semB n && !blkB n) l i = k at heq hge hle ⊢
    repeat (first | refine thenA_normal ?_ | refine blockA_normal ?_ | refine r_done ?_ | (refine r_id ?_; first | refine r_ev tab_ok rfl rfl rfl rfl byE rfl ?_))
    exact ⟨⟨k + 1, out, by omega, by omega, heq⟩, by dsimp only; omega, fits_of rfl byK⟩
  rw [if_neg hat] at heq
  have hsn : semB n = false := by rw [semB]; exact decide_eq_false h17
  have hkgt : i < runE (fun n => !semB n) l i := runE_gt hi' (by rw [hn, hsn]; rfl)
  have hkle : runE (fun n => !semB n) l i ≤ l.length := runE_le (Nat.le_of_lt hi')
  have hcol := col_at hkgt hkle
  have hcge := runE_ge whN l (i + 1)
  have hcle := runE_le (p := whN) (l := l) (i := i + 1) (by omega)
  repeat (first | refine awp_seq ?_ | refine a_region ?_ | (refine r_id ?_; first | refine r_ev tab_ok rfl rfl rfl rfl byE rfl ?_))
  refine r_call (show PCalls Tryz.prog 41 [.sl 7 (l.map nF), .val (.int .i64 ((i : Int) + 1)), .cl 43 []] (.val (.int .i64 (runE whN l (i + 1)))) by
    have := until_ok l (i + 1) (fun n => !whN n) 43 [] (by omega) (by omega) call43 rfl (fun s _ => pnw_ok s)
    rw [nnw_eq] at this
    exact this) call41 rfl rfl ⟨Sub.refl _, Sub.refl _, Sub.refl _, trivial⟩ rfl rfl rfl rfl ?_
  repeat (first | refine awp_seq ?_ | refine a_region ?_ | refine r_done ?_ | (refine r_id ?_; first | refine r_ev tab_ok rfl rfl rfl rfl byE rfl ?_))
  refine r_call (until_ok l i semB 44 [] (by omega) (by omega) call44 rfl (fun s _ => psemi_ok s)) call41 rfl rfl ⟨Sub.refl _, Sub.refl _, Sub.refl _, trivial⟩ rfl rfl rfl rfl ?_
  rw [oneD] at heq
  generalize runE (fun n => !semB n) l i = k at heq hkgt hkle hcol ⊢
  generalize hcc : runE whN l (i + 1) = c at hcol hcge hcle ⊢
  have hnx : ∀ D : List Dc, D.length ≤ 1 → (out ++ D).length ≤ k := fun D hD => by rw [List.length_append]; omega
  by_cases hk1 : n.tok.kind = 1
  rotate_left
  · rw [decide_eq_false (show ¬ (ndAt l i).tok.kind = 1 by rw [hn]; exact hk1), Bool.false_and, if_neg Bool.false_ne_true, List.nil_append] at heq
    repeat (first | refine awp_seq ?_ | refine thenA_normal ?_ | refine a_region ?_ | refine blockA_normal ?_ | refine awp_skip ?_ | refine r_done ?_ | (refine r_id ?_; first | refine r_ev tab_ok rfl rfl rfl rfl byE rfl ?_ | refine r_pick_f rfl rfl rfl rfl rfl rfl rfl ?_ | refine r_off rfl rfl rfl rfl rfl rfl ?_) | refine awp_cond_f rfl ?_ | refine r_pick_f rfl rfl (congrArg (fun b => AV.val (.bool b)) (decide_eq_false (by omega))) rfl rfl rfl rfl ?_ | refine r_off rfl rfl (congrArg (fun b => AV.val (.bool b)) (decide_eq_false (by omega))) rfl rfl rfl ?_)
    exact ⟨⟨k, out, by omega, by omega, heq⟩, by dsimp only; omega, fits_of rfl byK⟩
  rw [decide_eq_true (show (ndAt l i).tok.kind = 1 by rw [hn]; exact hk1), Bool.true_and] at heq
  by_cases hck : c < k
  rotate_left
  · rw [decide_eq_false (hcol.2 hck), Bool.false_and, if_neg Bool.false_ne_true, List.nil_append] at heq
    repeat (first | refine awp_seq ?_ | refine thenA_normal ?_ | refine a_region ?_ | refine blockA_normal ?_ | refine awp_skip ?_ | refine r_done ?_ | (refine r_id ?_; first | refine r_ev tab_ok rfl rfl rfl rfl byE rfl ?_) | refine awp_cond_f rfl ?_ | refine r_g rfl rfl (congrArg (fun b => AV.val (.bool b)) (decide_eq_true (by omega))) ?_ | refine r_pick_t rfl rfl (congrArg (fun b => AV.val (.bool b)) (decide_eq_true (by omega))) rfl rfl rfl rfl ?_ | refine r_pick_f rfl rfl (congrArg (fun b => AV.val (.bool b)) (decide_eq_false (by omega))) rfl rfl rfl rfl ?_ | refine r_off rfl rfl (congrArg (fun b => AV.val (.bool b)) (decide_eq_false (by omega))) rfl rfl rfl ?_)
    exact ⟨⟨k, out, by omega, by omega, heq⟩, by dsimp only; omega, fits_of rfl byK⟩
  rw [hcol.1 hck, decide_eq_true hck, Bool.true_and] at heq
  have hcl : c < l.length := by omega
  have hgc := ndAt_get hcl
  obtain ⟨m, hm⟩ : ∃ m, ndAt l c = m := ⟨_, rfl⟩
  rw [hm] at heq hgc
  clear hcol
  repeat (first | refine awp_seq ?_ | refine thenA_normal ?_ | refine a_region ?_ | refine r_done ?_ | (refine r_id ?_; first | refine r_ev tab_ok rfl rfl rfl rfl byE rfl ?_ | refine r_idx tab_ok rfl rfl rfl rfl rfl rfl rfl (by first | exact ⟨by omega, by omega⟩ | (simp; omega)) rfl rfl ?_) | refine r_g rfl rfl (congrArg (fun b => AV.val (.bool b)) (decide_eq_true (by omega))) ?_ | refine r_pick_t rfl rfl (congrArg (fun b => AV.val (.bool b)) (decide_eq_true (by omega))) rfl rfl rfl rfl ?_)
  simp only [Int.toNat_natCast, hgc]
  refine awp_cond_p rfl (fun h16 => ?_) (fun h16 => ?_)
  rotate_left
  · rw [decide_eq_false h16, if_neg Bool.false_ne_true, List.nil_append] at heq
    repeat (first | refine thenA_normal ?_ | refine a_region ?_ | refine blockA_normal ?_ | refine awp_skip ?_ | refine r_done ?_ | (refine r_id ?_; first | refine r_ev tab_ok rfl rfl rfl rfl byE rfl ?_))
    exact ⟨⟨k, out, by omega, by omega, heq⟩, by dsimp only; omega, fits_of rfl byK⟩
  rw [decide_eq_true h16, if_pos rfl] at heq
  obtain ⟨q, hq⟩ : ∃ q, q = (l.take k).drop (c + 1) := ⟨_, rfl⟩
  rw [← hq] at heq
  have hqm : ∀ n ∈ q, n ∈ l := fun n hn => by rw [hq] at hn; exact List.mem_of_mem_take (List.mem_of_mem_drop hn)
  have hqz : nszs q ≤ nszs l := by rw [hq]; exact Nat.le_trans (nszs_td _ _).2 (nszs_td _ _).1
  repeat (first | refine awp_seq ?_ | refine a_region ?_ | (refine r_id ?_; first | refine r_ev tab_ok rfl rfl rfl rfl byE rfl ?_))
  refine r_cut tab_ok rfl rfl rfl rfl rfl rfl rfl rfl (by show (0 : Int) ≤ ((c : Nat) : Int) + 1 ∧ ((c : Nat) : Int) + 1 ≤ ((k : Nat) : Int) ∧ ((k : Nat) : Int) ≤ (l.length : Int); omega) rfl ?_
  have hV := pvalue_ok q (by omega) (fun z hz => ht z (hqm z hz))
  have hvl := valF_len q
  obtain ⟨v, im, hvi⟩ : ∃ v im, valF q = (v, im) := ⟨_, _, rfl⟩
  have hvm : (v.map nF).length = v.length := List.length_map _
  have hql : q.length ≤ l.length := by rw [hq, List.length_drop, List.length_take]; omega
  rw [hvi] at hV hvl heq
  dsimp only at hV hvl heq
  rw [may_any] at heq
  rw [hq] at hV
  refine r_call hV call15 rfl rfl ⟨Sub.refl _, trivial⟩ rfl rfl rfl rfl ?_
  repeat (first | refine awp_seq ?_ | refine r_done ?_ | (refine r_id ?_; first | refine r_ev tab_ok rfl rfl rfl rfl byE rfl ?_))
  by_cases hv0 : 0 < v.length
  rotate_left
  · rw [decide_eq_false hv0, Bool.false_and, if_neg Bool.false_ne_true, List.nil_append] at heq
    repeat (first | refine thenA_normal ?_ | refine a_region ?_ | refine blockA_normal ?_ | refine awp_skip ?_ | refine r_done ?_ | (refine r_id ?_; first | refine r_len tab_ok rfl rfl rfl rfl rfl rfl rfl ?_ | refine r_ev tab_ok rfl rfl rfl rfl byE rfl ?_) | refine awp_cond_f rfl ?_ | refine r_pick_f rfl rfl (congrArg (fun b => AV.val (.bool b)) (decide_eq_false (by omega))) rfl rfl rfl rfl ?_ | refine r_off rfl rfl (congrArg (fun b => AV.val (.bool b)) (decide_eq_false (by omega))) rfl rfl rfl ?_)
    exact ⟨⟨k, out, by omega, by omega, heq⟩, by dsimp only; omega, fits_of rfl byK⟩
  rw [decide_eq_true hv0, Bool.true_and] at heq
  repeat (first | refine a_region ?_ | (refine r_id ?_; first | refine r_len tab_ok rfl rfl rfl rfl rfl rfl rfl ?_ | refine r_ev tab_ok rfl rfl rfl rfl byE rfl ?_) | refine r_g rfl rfl (congrArg (fun b => AV.val (.bool b)) (decide_eq_true (by omega))) ?_)
  refine r_call (anyN_ok v (fun n => notB n.tok) 46 [] (by omega) call46 rfl (fun s _ => podd_ok s)) call45 rfl rfl ⟨Sub.refl _, Sub.refl _, trivial⟩ rfl rfl rfl rfl ?_
  cases ha : v.any (fun n => notB n.tok) with
  | true =>
    rw [ha, if_neg (by decide), List.nil_append] at heq
    repeat (first | refine thenA_normal ?_ | refine a_region ?_ | refine blockA_normal ?_ | refine awp_skip ?_ | refine r_done ?_ | (refine r_id ?_; first | refine r_ev tab_ok rfl rfl rfl rfl byE rfl ?_) | refine awp_cond_f rfl ?_ | refine r_g rfl rfl (congrArg (fun b => AV.val (.bool b)) (decide_eq_true (by omega))) ?_ | refine r_pick_t rfl rfl (congrArg (fun b => AV.val (.bool b)) (decide_eq_true (by omega))) rfl rfl rfl rfl ?_)
    exact ⟨⟨k, out, by omega, by omega, heq⟩, by dsimp only; omega, fits_of rfl byK⟩
  | false =>
    rw [ha, if_pos (by decide)] at heq
    repeat (first | refine thenA_normal ?_ | refine a_region ?_ | refine r_done ?_ | (refine r_id ?_; first | refine r_ev tab_ok rfl rfl rfl rfl byE rfl ?_ | refine r_idx tab_ok rfl rfl rfl rfl rfl rfl rfl (by first | exact ⟨by omega, by omega⟩ | (simp; omega)) rfl rfl ?_) | refine awp_cond_t rfl ?_ | refine r_g rfl rfl (congrArg (fun b => AV.val (.bool b)) (decide_eq_true (by omega))) ?_ | refine r_pick_t rfl rfl (congrArg (fun b => AV.val (.bool b)) (decide_eq_true (by omega))) rfl rfl rfl rfl ?_)
    simp only [Int.toNat_natCast, hgi]
    refine r_call (prname_ok n.tok.text (by omega)) call47 rfl rfl ⟨Sub.refl _, trivial⟩ rfl rfl rfl rfl ?_
    repeat (first | refine thenA_normal ?_ | refine a_region ?_ | refine blockA_normal ?_ | refine r_done ?_ | (refine r_id ?_; first | refine r_ev tab_ok rfl rfl rfl rfl byE rfl ?_ | refine r_build tab_ok rfl rfl rfl rfl rfl rfl ?_ | refine r_built tab_ok rfl rfl rfl rfl rfl rfl rfl rfl rfl ?_ | refine r_append tab_ok rfl rfl rfl rfl rfl rfl rfl rfl rfl (by first | omega | (simp; omega)) rfl ?_))
    refine ⟨⟨k, out ++ [⟨nameS n.tok.text, v, im⟩], by simp; omega, by omega, by rw [List.append_assoc]; rw [hn] at heq; exact heq⟩, by dsimp only; omega, ?_⟩
    dsimp only
    rw [show (out ++ [(⟨nameS n.tok.text, v, im⟩ : Dc)]).map dcD = out.map dcD ++ [dcD ⟨nameS n.tok.text, v, im⟩] from List.map_append]
    exact fits_conv byV byV
end Go.Proofs.YtiolnmfaeenlmaaGreatDoor

/- rules.one, walked. -/
namespace Go.Proofs.YtiolnmfaeenlmaaGreatDoor
open Go Go.RowKit
set_option maxRecDepth 20000

theorem ret3ct {P : Program} {fn : Func} {r1 r2 r3 x y z : AV} {e : Exit} {M : List AB} {F : List (Nat × AV)} {t u v : Tmp} {ty : TypeId} {te : TE} {i off e' : Nat} {cells : List AV} {tab : List (Nat × TE)} (ht : TyTab P tab) (he : e = .normal ∨ e = .ret) (hr : fn.results.toList = [.cell t ty, .tmp u, .tmp v]) (hte : tget tab ty = some te)
    (hp : look F t = .ptr i off) (hM : M[i]? = some (.box e' cells)) (hx : loadAV te (cells.drop off) = some x) (hy : nf (look F u) = some y) (hz : nf (look F v) = some z) (hf : (x.free && (y.free && z.free)) = true) (h : Sub x r1) (k : Sub y r2) (l : Sub z r3) : retQ P fn (.tup [r1, r2, r3]) e ⟨M, F⟩ := by
  rw [Bool.and_eq_true, Bool.and_eq_true] at hf
  refine ⟨he, [x, y, z], by rw [hr]; exact .cons (.cell (ht.get hte) hp hM hx hf.1) (.cons (.tmp (by rw [nf_eq hy]; exact Sub.refl _) hf.2.1) (.cons (.tmp (by rw [nf_eq hz]; exact Sub.refl _) hf.2.2) .nil)), ?_⟩
  rintro M β w imm v ⟨cs, h1, ⟨v1, r, e1, s1, v2, r', e2, s2, v3, r'', e3, s3, s4⟩⟩
  exact ⟨cs, h1, v1, r, e1, h _ _ _ _ _ s1, v2, r', e2, k _ _ _ _ _ s2, v3, r'', e3, l _ _ _ _ _ s3, s4⟩
theorem goT_eq : (fun n => !endB n) = goB true := funext fun n => by rw [endB, goB]; cases blkB n <;> cases semB n <;> rfl
theorem goF_eq : (fun n => !blkB n) = goB false := funext fun n => by rw [goB]; cases blkB n <;> rfl
theorem frI_le {l : List Nd} {i : Nat} (h : i < l.length) : frI l i ≤ l.length := by unfold frI; split <;> omega
theorem enI_le {l : List Nd} {i : Nat} (h : i < l.length) : enI l i ≤ l.length := runE_le (frI_le h)
def onB (l : List Nd) (i : Nat) : Bool := blI l (enI l i) || !decide ((rlAt l i).at_ = ⟨#[]⟩)
set_option maxHeartbeats 16000000 in
theorem pone_ok (l : List Nd) (i : Nat) (hi : i < l.length) (hl : nszs l < 549755813888) (ht : ∀ n ∈ l, n.tok.text.size ≤ 1099511627776) (hkt : ∀ n ∈ l, ∀ m ∈ n.kids, m.tok.text.size ≤ 1099511627776) :
    PCalls Tryz.prog 30 [.sl 7 (l.map nF), .val (.int .i64 i)] (.tup [rlA (rlAt l i), .val (.int .i64 ((enI l i : Int) + 1)), .val (.bool (onB l i))]) := by
  refine p_start Tryz.func30 Tryz.ntmps30 rfl rfl rfl fun S w => ?_
  have hlm : (l.map nF).length = l.length := List.length_map _
  have hll := nszs_len l
  have hgi := ndAt_get hi
  have hel := enI_le hi
  have hfl := frI_le hi
  have hge : frI l i ≤ enI l i := runE_ge _ _ _
  obtain ⟨n, hn⟩ : ∃ n, ndAt l i = n := ⟨_, rfl⟩
  have hnt := ht n (by rw [← hn, ← hgi]; exact List.getElem_mem hi)
  rw [hn] at hgi
  have hOn : onB l i = (blI l (enI l i) || !decide ((rlAt l i).at_ = ⟨#[]⟩)) := rfl
  have hRl : rlAt l i = ⟨if atKB n then lowS n.tok.text else ⟨#[]⟩, trimF ((l.take (enI l i)).drop (frI l i)), blI l (enI l i), if blI l (enI l i) then decA (ndAt l (enI l i)).kids 0 else []⟩ := by rw [rlAt, hn]
  have hEn : enI l i = runE (goB (atKB n)) l (frI l i) := by rw [enI, hn]
  have hFr : frI l i = if atKB n then i + 1 else i := by rw [frI, hn]
  rw [hOn, hRl, rlA, rlC]
  dsimp only
  have hpz : nszs ((l.take (enI l i)).drop (frI l i)) < 549755813888 := Nat.lt_of_le_of_lt (Nat.le_trans (nszs_td _ _).2 (nszs_td _ _).1) hl
  cases ha : atKB n with
  | true =>
    rw [ha] at hEn hFr
    rw [if_pos rfl] at hFr
    rw [if_pos rfl]
    rw [hFr] at hEn hge hpz ⊢
    have hat3 :  n.tok.kind = 3 := by simpa [atKB] using ha
    repeat (first | refine awp_seq ?_ | refine thenA_normal ?_ | refine a_region ?_ | refine r_done ?_ | (refine r_id ?_; first | refine r_ev tab_ok rfl rfl rfl rfl byE rfl ?_ | refine r_idx tab_ok rfl rfl rfl rfl rfl rfl rfl (by first | exact ⟨by omega, by omega⟩ | (simp; omega)) rfl rfl ?_ | refine r_wr tab_ok rfl rfl rfl rfl rfl ?_))
    simp only [Int.toNat_natCast, hgi]
    refine awp_cond_p rfl (fun h => ?_) (fun h => absurd hat3 h)
    repeat (first | refine awp_seq ?_ | refine a_region ?_ | (refine r_id ?_; first | refine r_ev tab_ok rfl rfl rfl rfl byE rfl ?_ | refine r_idx tab_ok rfl rfl rfl rfl rfl rfl rfl (by first | exact ⟨by omega, by omega⟩ | (simp; omega)) rfl rfl ?_))
    simp only [Int.toNat_natCast, hgi]
    refine r_call (plower_ok n.tok.text (by omega)) call39 rfl rfl ⟨Sub.refl _, trivial⟩ rfl rfl rfl rfl ?_
    repeat (first | refine awp_seq ?_ | refine thenA_normal ?_ | refine a_region ?_ | refine r_done ?_ | (refine r_id ?_; first | refine r_ev tab_ok rfl rfl rfl rfl byE rfl ?_ | refine r_st tab_ok rfl rfl rfl rfl ?_))
    refine r_call (show PCalls Tryz.prog 41 [.sl 7 (l.map nF), .val (.int .i64 ((i + 1 : Nat) : Int)), .cl 42 []] (.val (.int .i64 (enI l i))) by rw [hEn, ← goT_eq]; exact until_ok l (i + 1) endB 42 [] (by omega) (by omega) call42 rfl (fun s _ => pends_ok s)) call41 rfl rfl ⟨Sub.refl _, Sub.refl _, Sub.refl _, trivial⟩ rfl rfl rfl rfl ?_
    clear hEn hRl hOn
    generalize enI l i = k at hel hge hpz ⊢
    have hz0 := trimF_sz ((l.take k).drop (i + 1))
    repeat (first | refine awp_seq ?_ | refine a_region ?_ | refine r_done ?_ | (refine r_id ?_; first | refine r_ev tab_ok rfl rfl rfl rfl byE rfl ?_))
    refine r_cut tab_ok rfl rfl rfl rfl rfl rfl rfl rfl (by show (0 : Int) ≤ ((i + 1 : Nat) : Int) ∧ ((i + 1 : Nat) : Int) ≤ ((k : Nat) : Int) ∧ ((k : Nat) : Int) ≤ (l.length : Int); omega) rfl ?_
    refine r_call (show PCalls Tryz.prog 37 [.sl 7 (((l.take ((k : Nat) : Int).toNat).drop (((i + 1 : Nat) : Int)).toNat).map nF)] (.sl 7 ((trimF ((l.take k).drop (i + 1))).map nF)) by
        simp only [Int.toNat_natCast]
        exact trim_ok 549755813888 _ hpz (by decide)) call37 rfl rfl ⟨Sub.refl _, trivial⟩ rfl rfl rfl rfl ?_
    generalize trimF ((l.take k).drop (i + 1)) = pre at hz0 ⊢
    by_cases hkl : k < l.length
    · have hgk := ndAt_get hkl
      obtain ⟨m, hm⟩ : ∃ m, ndAt l k = m := ⟨_, rfl⟩
      have hmm : m ∈ l := by rw [← hm, ← hgk]; exact List.getElem_mem hkl
      have hkz := nszs_at hkl
      rw [hm] at hgk
      rw [hgk] at hkz
      have hbl : blI l k = blkB m := by rw [blI, decide_eq_true hkl, Bool.true_and, hm]
      rw [hbl, hm]
      repeat (first | refine awp_seq ?_ | refine a_region ?_ | refine r_done ?_ | (refine r_id ?_; first | refine r_len tab_ok rfl rfl rfl rfl rfl rfl rfl ?_ | refine r_ev tab_ok rfl rfl rfl rfl byE rfl ?_ | refine r_idx tab_ok rfl rfl rfl rfl rfl rfl rfl (by first | exact ⟨by omega, by omega⟩ | (simp; omega)) rfl rfl ?_ | refine r_st tab_ok rfl rfl rfl rfl ?_) | refine r_g rfl rfl (congrArg (fun b => AV.val (.bool b)) (decide_eq_true (by omega))) ?_)
      simp only [Int.toNat_natCast, hgk]
      refine r_call (pblock_ok m) call53 rfl rfl ⟨Sub.refl _, trivial⟩ rfl rfl rfl rfl ?_
      cases hb : blkB m with
      | true =>
        repeat (first | refine awp_seq ?_ | refine thenA_normal ?_ | refine a_region ?_ | refine r_done ?_ | (refine r_id ?_; first | refine r_ev tab_ok rfl rfl rfl rfl byE rfl ?_ | refine r_ld tab_ok rfl rfl rfl rfl rfl ?_ | refine r_idx tab_ok rfl rfl rfl rfl rfl rfl rfl (by first | exact ⟨by omega, by omega⟩ | (simp; omega)) rfl rfl ?_ | refine r_st tab_ok rfl rfl rfl rfl ?_) | refine awp_cond_t rfl ?_ | refine r_pick_t rfl rfl (congrArg (fun b => AV.val (.bool b)) (decide_eq_true (by omega))) rfl rfl rfl rfl ?_)
        simp only [Int.toNat_natCast, hgk]
        refine r_call (show PCalls Tryz.prog 19 [.sl 7 (m.kids.map nD)] (.sl 3 ((decA m.kids 0).map dcD)) by rw [nD_fun]; exact pdecls_ok m.kids (by omega) (hkt m hmm)) call19 rfl rfl ⟨Sub.refl _, trivial⟩ rfl rfl rfl rfl ?_
        repeat (first | refine awp_seq ?_ | refine thenA_normal ?_ | refine a_region ?_ | refine awp_ret ?_ | refine r_done ?_ | (refine r_id ?_; first | refine r_ev tab_ok rfl rfl rfl rfl byE rfl ?_ | refine r_ld tab_ok rfl rfl rfl rfl rfl ?_ | refine r_st tab_ok rfl rfl rfl rfl ?_ | refine r_pick_t rfl rfl rfl rfl rfl rfl rfl ?_ | refine r_off rfl rfl rfl rfl rfl rfl ?_))
        exact ret3ct tab_ok byO rfl rfl rfl rfl rfl rfl rfl rfl (Sub.agg (by repeat' first | exact trivial | exact Sub.refl _ | exact Sub.nil _ | refine Sub.agg ?_ | apply And.intro)) (Sub.refl _) (Sub.refl _)
      | false =>
        repeat (first | refine awp_seq ?_ | refine thenA_normal ?_ | refine a_region ?_ | refine awp_ret ?_ | refine awp_skip ?_ | refine r_done ?_ | (refine r_id ?_; first | refine r_ev tab_ok rfl rfl rfl rfl byE rfl ?_ | refine r_ld tab_ok rfl rfl rfl rfl rfl ?_ | refine r_st tab_ok rfl rfl rfl rfl ?_ | refine r_pick_f rfl rfl rfl rfl rfl rfl rfl ?_ | refine r_ev_on tab_ok rfl rfl rfl rfl rfl rfl (by first | exact trivial | exact ⟨by omega, by omega⟩ | omega) rfl ?_ | refine r_ld_on tab_ok rfl rfl rfl rfl rfl rfl rfl ?_) | refine awp_cond_f rfl ?_ | refine r_pick_t rfl rfl (congrArg (fun b => AV.val (.bool b)) (decide_eq_true (by omega))) rfl rfl rfl rfl ?_)
        exact ret3ct tab_ok byO rfl rfl rfl rfl rfl rfl rfl rfl (Sub.agg (by repeat' first | exact trivial | exact Sub.refl _ | exact Sub.nil _ | refine Sub.agg ?_ | apply And.intro)) (Sub.refl _) (Sub.refl _)
    · have hbl : blI l k = false := by rw [blI, decide_eq_false hkl]; rfl
      rw [hbl]
      repeat (first | refine awp_seq ?_ | refine thenA_normal ?_ | refine a_region ?_ | refine awp_ret ?_ | refine awp_skip ?_ | refine r_done ?_ | (refine r_id ?_; first | refine r_len tab_ok rfl rfl rfl rfl rfl rfl rfl ?_ | refine r_ev tab_ok rfl rfl rfl rfl byE rfl ?_ | refine r_ld tab_ok rfl rfl rfl rfl rfl ?_ | refine r_st tab_ok rfl rfl rfl rfl ?_ | refine r_pick_f rfl rfl rfl rfl rfl rfl rfl ?_ | refine r_ev_on tab_ok rfl rfl rfl rfl rfl rfl (by first | exact trivial | exact ⟨by omega, by omega⟩ | omega) rfl ?_ | refine r_ld_on tab_ok rfl rfl rfl rfl rfl rfl rfl ?_) | refine awp_cond_f rfl ?_ | refine r_pick_f rfl rfl (congrArg (fun b => AV.val (.bool b)) (decide_eq_false (by omega))) rfl rfl rfl rfl ?_ | refine r_off rfl rfl (congrArg (fun b => AV.val (.bool b)) (decide_eq_false (by omega))) rfl rfl rfl ?_)
      exact ret3ct tab_ok byO rfl rfl rfl rfl rfl rfl rfl rfl (Sub.agg (by repeat' first | exact trivial | exact Sub.refl _ | exact Sub.nil _ | refine Sub.agg ?_ | apply And.intro)) (Sub.refl _) (Sub.refl _)
  | false =>
    rw [ha] at hEn hFr
    rw [if_neg Bool.false_ne_true] at hFr
    rw [if_neg Bool.false_ne_true]
    rw [hFr] at hEn hge hpz ⊢
    have hat3 : ¬ n.tok.kind = 3 := by simpa [atKB] using ha
    repeat (first | refine awp_seq ?_ | refine thenA_normal ?_ | refine a_region ?_ | refine r_done ?_ | (refine r_id ?_; first | refine r_ev tab_ok rfl rfl rfl rfl byE rfl ?_ | refine r_idx tab_ok rfl rfl rfl rfl rfl rfl rfl (by first | exact ⟨by omega, by omega⟩ | (simp; omega)) rfl rfl ?_ | refine r_wr tab_ok rfl rfl rfl rfl rfl ?_))
    simp only [Int.toNat_natCast, hgi]
    refine awp_cond_p rfl (fun h => absurd h hat3) (fun h => ?_)
    repeat (first | refine awp_seq ?_ | refine a_region ?_ | refine awp_skip ?_ | (refine r_id ?_; first | refine r_ev tab_ok rfl rfl rfl rfl byE rfl ?_))
    refine r_call (show PCalls Tryz.prog 41 [.sl 7 (l.map nF), .val (.int .i64 ((i : Nat) : Int)), .cl 53 []] (.val (.int .i64 (enI l i))) by rw [hEn, ← goF_eq]; exact until_ok l (i) blkB 53 [] (by omega) (by omega) call53 rfl (fun s _ => pblock_ok s)) call41 rfl rfl ⟨Sub.refl _, Sub.refl _, Sub.refl _, trivial⟩ rfl rfl rfl rfl ?_
    clear hEn hRl hOn
    generalize enI l i = k at hel hge hpz ⊢
    have hz0 := trimF_sz ((l.take k).drop (i))
    repeat (first | refine awp_seq ?_ | refine a_region ?_ | refine r_done ?_ | (refine r_id ?_; first | refine r_ev tab_ok rfl rfl rfl rfl byE rfl ?_))
    refine r_cut tab_ok rfl rfl rfl rfl rfl rfl rfl rfl (by show (0 : Int) ≤ ((i : Nat) : Int) ∧ ((i : Nat) : Int) ≤ ((k : Nat) : Int) ∧ ((k : Nat) : Int) ≤ (l.length : Int); omega) rfl ?_
    refine r_call (show PCalls Tryz.prog 37 [.sl 7 (((l.take ((k : Nat) : Int).toNat).drop (((i : Nat) : Int)).toNat).map nF)] (.sl 7 ((trimF ((l.take k).drop (i))).map nF)) by
        simp only [Int.toNat_natCast]
        exact trim_ok 549755813888 _ hpz (by decide)) call37 rfl rfl ⟨Sub.refl _, trivial⟩ rfl rfl rfl rfl ?_
    generalize trimF ((l.take k).drop (i)) = pre at hz0 ⊢
    by_cases hkl : k < l.length
    · have hgk := ndAt_get hkl
      obtain ⟨m, hm⟩ : ∃ m, ndAt l k = m := ⟨_, rfl⟩
      have hmm : m ∈ l := by rw [← hm, ← hgk]; exact List.getElem_mem hkl
      have hkz := nszs_at hkl
      rw [hm] at hgk
      rw [hgk] at hkz
      have hbl : blI l k = blkB m := by rw [blI, decide_eq_true hkl, Bool.true_and, hm]
      rw [hbl, hm]
      repeat (first | refine awp_seq ?_ | refine a_region ?_ | refine r_done ?_ | (refine r_id ?_; first | refine r_len tab_ok rfl rfl rfl rfl rfl rfl rfl ?_ | refine r_ev tab_ok rfl rfl rfl rfl byE rfl ?_ | refine r_idx tab_ok rfl rfl rfl rfl rfl rfl rfl (by first | exact ⟨by omega, by omega⟩ | (simp; omega)) rfl rfl ?_ | refine r_st tab_ok rfl rfl rfl rfl ?_) | refine r_g rfl rfl (congrArg (fun b => AV.val (.bool b)) (decide_eq_true (by omega))) ?_)
      simp only [Int.toNat_natCast, hgk]
      refine r_call (pblock_ok m) call53 rfl rfl ⟨Sub.refl _, trivial⟩ rfl rfl rfl rfl ?_
      cases hb : blkB m with
      | true =>
        repeat (first | refine awp_seq ?_ | refine thenA_normal ?_ | refine a_region ?_ | refine r_done ?_ | (refine r_id ?_; first | refine r_ev tab_ok rfl rfl rfl rfl byE rfl ?_ | refine r_ld tab_ok rfl rfl rfl rfl rfl ?_ | refine r_idx tab_ok rfl rfl rfl rfl rfl rfl rfl (by first | exact ⟨by omega, by omega⟩ | (simp; omega)) rfl rfl ?_ | refine r_st tab_ok rfl rfl rfl rfl ?_) | refine awp_cond_t rfl ?_ | refine r_pick_t rfl rfl (congrArg (fun b => AV.val (.bool b)) (decide_eq_true (by omega))) rfl rfl rfl rfl ?_)
        simp only [Int.toNat_natCast, hgk]
        refine r_call (show PCalls Tryz.prog 19 [.sl 7 (m.kids.map nD)] (.sl 3 ((decA m.kids 0).map dcD)) by rw [nD_fun]; exact pdecls_ok m.kids (by omega) (hkt m hmm)) call19 rfl rfl ⟨Sub.refl _, trivial⟩ rfl rfl rfl rfl ?_
        repeat (first | refine awp_seq ?_ | refine thenA_normal ?_ | refine a_region ?_ | refine awp_ret ?_ | refine r_done ?_ | (refine r_id ?_; first | refine r_ev tab_ok rfl rfl rfl rfl byE rfl ?_ | refine r_ld tab_ok rfl rfl rfl rfl rfl ?_ | refine r_st tab_ok rfl rfl rfl rfl ?_ | refine r_pick_t rfl rfl rfl rfl rfl rfl rfl ?_ | refine r_off rfl rfl rfl rfl rfl rfl ?_))
        exact ret3ct tab_ok byO rfl rfl rfl rfl rfl rfl rfl rfl (Sub.agg (by repeat' first | exact trivial | exact Sub.refl _ | exact Sub.nil _ | refine Sub.agg ?_ | apply And.intro)) (Sub.refl _) (Sub.refl _)
      | false =>
        repeat (first | refine awp_seq ?_ | refine thenA_normal ?_ | refine a_region ?_ | refine awp_ret ?_ | refine awp_skip ?_ | refine r_done ?_ | (refine r_id ?_; first | refine r_ev tab_ok rfl rfl rfl rfl byE rfl ?_ | refine r_ld tab_ok rfl rfl rfl rfl rfl ?_ | refine r_st tab_ok rfl rfl rfl rfl ?_ | refine r_pick_f rfl rfl rfl rfl rfl rfl rfl ?_ | refine r_ev_on tab_ok rfl rfl rfl rfl rfl rfl (by first | exact trivial | exact ⟨by omega, by omega⟩ | omega) rfl ?_ | refine r_ld_on tab_ok rfl rfl rfl rfl rfl rfl rfl ?_) | refine awp_cond_f rfl ?_ | refine r_pick_t rfl rfl (congrArg (fun b => AV.val (.bool b)) (decide_eq_true (by omega))) rfl rfl rfl rfl ?_)
        exact ret3ct tab_ok byO rfl rfl rfl rfl rfl rfl rfl rfl (Sub.agg (by repeat' first | exact trivial | exact Sub.refl _ | exact Sub.nil _ | refine Sub.agg ?_ | apply And.intro)) (Sub.refl _) (Sub.refl _)
    · have hbl : blI l k = false := by rw [blI, decide_eq_false hkl]; rfl
      rw [hbl]
      repeat (first | refine awp_seq ?_ | refine thenA_normal ?_ | refine a_region ?_ | refine awp_ret ?_ | refine awp_skip ?_ | refine r_done ?_ | (refine r_id ?_; first | refine r_len tab_ok rfl rfl rfl rfl rfl rfl rfl ?_ | refine r_ev tab_ok rfl rfl rfl rfl byE rfl ?_ | refine r_ld tab_ok rfl rfl rfl rfl rfl ?_ | refine r_st tab_ok rfl rfl rfl rfl ?_ | refine r_pick_f rfl rfl rfl rfl rfl rfl rfl ?_ | refine r_ev_on tab_ok rfl rfl rfl rfl rfl rfl (by first | exact trivial | exact ⟨by omega, by omega⟩ | omega) rfl ?_ | refine r_ld_on tab_ok rfl rfl rfl rfl rfl rfl rfl ?_) | refine awp_cond_f rfl ?_ | refine r_pick_f rfl rfl (congrArg (fun b => AV.val (.bool b)) (decide_eq_false (by omega))) rfl rfl rfl rfl ?_ | refine r_off rfl rfl (congrArg (fun b => AV.val (.bool b)) (decide_eq_false (by omega))) rfl rfl rfl ?_)
      exact ret3ct tab_ok byO rfl rfl rfl rfl rfl rfl rfl rfl (Sub.agg (by repeat' first | exact trivial | exact Sub.refl _ | exact Sub.nil _ | refine Sub.agg ?_ | apply And.intro)) (Sub.refl _) (Sub.refl _)
end Go.Proofs.YtiolnmfaeenlmaaGreatDoor
