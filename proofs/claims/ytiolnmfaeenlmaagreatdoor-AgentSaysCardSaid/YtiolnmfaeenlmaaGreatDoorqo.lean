/- rules.one handed back as own rows. -/
import Derived.Test.YtiolnmfaeenlmaaGreatDoorqT
import Derived.Test.YtiolnmfaeenlmaaGreatDoorqd
namespace Go.Proofs.YtiolnmfaeenlmaaGreatDoor
open Go Go.RowKit
set_option maxRecDepth 20000

theorem retM3ct {P : Program} {fn : Func} {n : Nat} {r1 r2 r3 x y z : AV} {e : Exit} {M M1 : List AB} {F : List (Nat × AV)} {t u v : Tmp} {ty : TypeId} {te : TE} {i off e' : Nat} {cells : List AV} {tab : List (Nat × TE)} (ht : TyTab P tab) (he : e = .normal ∨ e = .ret) (hr : fn.results.toList = [.cell t ty, .tmp u, .tmp v]) (hte : tget tab ty = some te)
    (hp : look F t = .ptr i off) (hMi : M[i]? = some (.box e' cells)) (hx : ldAV te (cells.drop off) = some x) (hy : nf (look F u) = some y) (hz : nf (look F v) = some z) (hf : (x.under n && (y.under n && z.under n)) = true) (hM : M.take n = M1) (hu : M1.all (AB.under n) = true) (h : Sub x r1) (k : Sub y r2) (l : Sub z r3) : retM P fn n M1 (.tup [r1, r2, r3]) e ⟨M, F⟩ := by
  rw [Bool.and_eq_true, Bool.and_eq_true] at hf
  refine ⟨he, hM, hu, [x, y, z], by rw [hr]; exact .cons (.cell (ht.get hte) hp hMi (ldAV_eq hx) hf.1) (.cons (.tmp (by rw [nf_eq hy]; exact Sub.refl _) (by rw [nf_eq hy]; exact hf.2.1)) (.cons (.tmp (by rw [nf_eq hz]; exact Sub.refl _) (by rw [nf_eq hz]; exact hf.2.2)) .nil)), ?_⟩
  rintro M β w imm v ⟨cs, h1, ⟨v1, r, e1, s1, v2, r', e2, s2, v3, r'', e3, s3, s4⟩⟩
  exact ⟨cs, h1, v1, r, e1, h _ _ _ _ _ s1, v2, r', e2, k _ _ _ _ _ s2, v3, r'', e3, l _ _ _ _ _ s3, s4⟩
set_option maxHeartbeats 16000000 in
theorem oneM_ok (l : List Nd) (i : Nat) (hi : i < l.length) (hl : nszs l < 549755813888) (ht : ∀ n ∈ l, n.tok.text.size ≤ 1099511627776) (hkt : ∀ n ∈ l, ∀ m ∈ n.kids, m.tok.text.size ≤ 1099511627776) (hA : atKB (ndAt l i) = false) (hK : enI l i < l.length) (hB : blkB (ndAt l (enI l i)) = true) :
    MCalls Tryz.prog 30 [] [.sl 7 (l.map nF), .val (.int .i64 i)] [.box 45 [.val (.string ⟨#[]⟩), .row 1 0, .val (.bool true), .row 2 0], .row 0 49 7 ((rlAt l i).pre.map nF), .row 0 51 3 ((rlAt l i).decls.map dcD)] (.tup [.agg [.val (.string ⟨#[]⟩), .row 1 0, .val (.bool true), .row 2 0], .val (.int .i64 ((enI l i : Int) + 1)), .val (.bool true)]) := by
  refine mcalls_ofn Tryz.func30 Tryz.ntmps30 rfl rfl rfl 3 (by decide) fun S w β => ?_
  have hlm : (l.map nF).length = l.length := List.length_map _
  have hll := nszs_len l
  have hgi := ndAt_get hi
  have hel := enI_le hi
  have hfl := frI_le hi
  have hge : frI l i ≤ enI l i := runE_ge _ _ _
  obtain ⟨n, hn⟩ : ∃ n, ndAt l i = n := ⟨_, rfl⟩
  have hnt := ht n (by rw [← hn, ← hgi]; exact List.getElem_mem hi)
  rw [hn] at hgi
  have hRl : rlAt l i = ⟨if atKB n then lowS n.tok.text else ⟨#[]⟩, trimF ((l.take (enI l i)).drop (frI l i)), blI l (enI l i), if blI l (enI l i) then decA (ndAt l (enI l i)).kids 0 else []⟩ := by rw [rlAt, hn]
  have hEn : enI l i = runE (goB (atKB n)) l (frI l i) := by rw [enI, hn]
  have hFr : frI l i = if atKB n then i + 1 else i := by rw [frI, hn]
  rw [hRl]
  dsimp only
  have hpz : nszs ((l.take (enI l i)).drop (frI l i)) < 549755813888 := Nat.lt_of_le_of_lt (Nat.le_trans (nszs_td _ _).2 (nszs_td _ _).1) hl
  have ha : atKB n = false := by rw [← hn]; exact hA
  rw [ha] at hEn hFr
  rw [if_neg Bool.false_ne_true] at hFr
  rw [hFr] at hEn hge hpz ⊢
  have hat3 : ¬ n.tok.kind = 3 := by simpa [atKB] using ha
  repeat (first | refine awp_seq ?_ | refine thenA_normal ?_ | refine a_region ?_ | refine r_done ?_ | (refine r_id ?_; first | refine r_ev tab_ok rfl rfl rfl rfl byE rfl ?_ | refine r_idx tab_ok rfl rfl rfl rfl rfl rfl rfl (by first | exact ⟨by omega, by omega⟩ | (simp; omega)) rfl rfl ?_ | refine r_wr tab_ok rfl rfl rfl rfl rfl ?_))
  simp only [Int.toNat_natCast, hgi]
  refine awp_cond_p rfl (fun h => absurd h hat3) (fun h => ?_)
  repeat (first | refine awp_seq ?_ | refine a_region ?_ | refine awp_skip ?_ | (refine r_id ?_; first | refine r_ev tab_ok rfl rfl rfl rfl byE rfl ?_))
  refine r_call (show PCalls Tryz.prog 41 [.sl 7 (l.map nF), .val (.int .i64 ((i : Nat) : Int)), .cl 53 []] (.val (.int .i64 (enI l i))) by rw [hEn, ← goF_eq]; exact until_ok l (i) blkB 53 [] (by omega) (by omega) call53 rfl (fun s _ => pblock_ok s)) call41 rfl rfl ⟨Sub.refl _, Sub.refl _, Sub.refl _, trivial⟩ rfl rfl rfl rfl ?_
  clear hEn hRl
  generalize enI l i = k at hel hge hpz hK hB ⊢
  have hz0 := trimF_sz ((l.take k).drop (i))
  repeat (first | refine awp_seq ?_ | refine a_region ?_ | refine r_done ?_ | (refine r_id ?_; first | refine r_ev tab_ok rfl rfl rfl rfl byE rfl ?_))
  refine r_cut tab_ok rfl rfl rfl rfl rfl rfl rfl rfl (by show (0 : Int) ≤ ((i : Nat) : Int) ∧ ((i : Nat) : Int) ≤ ((k : Nat) : Int) ∧ ((k : Nat) : Int) ≤ (l.length : Int); omega) rfl ?_
  refine r_rcall (show MCalls Tryz.prog 37 [] [.sl 7 (((l.take ((k : Nat) : Int).toNat).drop (((i : Nat) : Int)).toNat).map nF)] [.row 0 49 7 ((trimF ((l.take k).drop i)).map nF)] (.row 0 0) by
      simp only [Int.toNat_natCast]
      exact trimM_ok _ hpz) call37 rfl rfl ⟨Sub.refl _, trivial⟩ rfl rfl rfl rfl rfl rfl ?_
  generalize trimF ((l.take k).drop (i)) = pre at hz0 ⊢
  have hgk := ndAt_get hK
  obtain ⟨m, hm⟩ : ∃ m, ndAt l k = m := ⟨_, rfl⟩
  have hmm : m ∈ l := by rw [← hm, ← hgk]; exact List.getElem_mem hK
  have hkz := nszs_at hK
  rw [hm] at hgk
  rw [hgk] at hkz
  have hbl : blI l k = blkB m := by rw [blI, decide_eq_true hK, Bool.true_and, hm]
  rw [hbl, hm]
  repeat (first | refine awp_seq ?_ | refine a_region ?_ | refine r_done ?_ | (refine r_id ?_; first | refine r_len tab_ok rfl rfl rfl rfl rfl rfl rfl ?_ | refine r_ev tab_ok rfl rfl rfl rfl byE rfl ?_ | refine r_idx tab_ok rfl rfl rfl rfl rfl rfl rfl (by first | exact ⟨by omega, by omega⟩ | (simp; omega)) rfl rfl ?_ | refine r_st tab_ok rfl rfl rfl rfl ?_) | refine r_g rfl rfl (congrArg (fun b => AV.val (.bool b)) (decide_eq_true (by omega))) ?_)
  simp only [Int.toNat_natCast, hgk]
  refine r_call (pblock_ok m) call53 rfl rfl ⟨Sub.refl _, trivial⟩ rfl rfl rfl rfl ?_
  have hb : blkB m = true := by rw [← hm]; exact hB
  rw [hb, if_pos rfl]
  repeat (first | refine awp_seq ?_ | refine thenA_normal ?_ | refine a_region ?_ | refine r_done ?_ | (refine r_id ?_; first | refine r_ev tab_ok rfl rfl rfl rfl byE rfl ?_ | refine r_ld tab_ok rfl rfl rfl rfl rfl ?_ | refine r_idx tab_ok rfl rfl rfl rfl rfl rfl rfl (by first | exact ⟨by omega, by omega⟩ | (simp; omega)) rfl rfl ?_ | refine r_st tab_ok rfl rfl rfl rfl ?_) | refine awp_cond_t rfl ?_ | refine r_pick_t rfl rfl (congrArg (fun b => AV.val (.bool b)) (decide_eq_true (by omega))) rfl rfl rfl rfl ?_)
  simp only [Int.toNat_natCast, hgk]
  refine r_rcall (show MCalls Tryz.prog 19 [] [.sl 7 (m.kids.map nD)] [.row 0 51 3 ((decA m.kids 0).map dcD)] (.row 0 0) by rw [nD_fun]; exact declsM_ok m.kids (by omega) (hkt m hmm)) call19 rfl rfl ⟨Sub.refl _, trivial⟩ rfl rfl rfl rfl rfl rfl ?_
  repeat (first | refine awp_seq ?_ | refine thenA_normal ?_ | refine a_region ?_ | refine awp_ret ?_ | refine r_done ?_ | (refine r_id ?_; first | refine r_ev tab_ok rfl rfl rfl rfl byE rfl ?_ | refine r_ld tab_ok rfl rfl rfl rfl rfl ?_ | refine r_st tab_ok rfl rfl rfl rfl ?_ | refine r_pick_t rfl rfl rfl rfl rfl rfl rfl ?_ | refine r_off rfl rfl rfl rfl rfl rfl ?_))
  exact retM3ct tab_ok byO rfl rfl rfl rfl rfl rfl rfl rfl rfl rfl (Sub.refl _) (Sub.refl _) (Sub.refl _)
end Go.Proofs.YtiolnmfaeenlmaaGreatDoor
