import Derived.Test.YtfmafehogfikmaaGreatDoorL0
import Derived.Test.YtfmafehogfikmaaGreatDoorP8
/- Rules, as data. -/
namespace Go.Proofs.YtfmafehogfikmaaGreatDoor
open Go Go.RowKit
set_option maxRecDepth 20000

structure Rl where
  at_ : ByteArray
  pre : List Nd
  blk : Bool
  decls : List Dc
def rlC (r : Rl) : List AV := [.val (.string r.at_), .sl 7 (r.pre.map nF), .val (.bool r.blk), .sl 3 (r.decls.map dcD)]
def rlA (r : Rl) : AV := .agg (rlC r)
def rlD (r : Rl) : D := .ag [.val (.string r.at_), .sl 7 (r.pre.map nF), .val (.bool r.blk), .sl 3 (r.decls.map dcD)]
theorem StepG.offu {P : Program} {ops : Array Oper} {o : Oper} {M : List AB} {F : Nat → AV} {j : Nat} {want : Bool} {g : Tmp} (hg : o.guard = some (j, want)) (hj : dstOf ops j = some g) (hF : F g = .val undef) : StepG P ops o M F M (.val undef) := by
  intro S B β a w hm hs K Q hK
  have h1 := hs g (guard_mem hg hj)
  rw [hF] at h1
  have hy := yielded_of (a := a) hj h1
  have hw : Region.wanted o (yielded ops a.tmps) = false := by simp [Region.wanted, hg, hy, boolOf, undef]
  rw [hw]
  exact hK undef β w (Ev.refl _ _ _) hm rfl
/-- An operation whose guard was not carried out. -/
theorem r_offu {P : Program} {ops : Array Oper} {N : Nat} {K : AS → Prop} {o : Oper} {r : List Oper} {fo fo' : Option (List Nat)} {M : List AB} {F : List (Nat × AV)} {dt : Tmp} {j : Nat} {want : Bool} {g : Tmp} (hg : o.guard = some (j, want)) (hj : dstOf ops j = some g) (hF : look F g = .val undef) (hdd : o.dst = some dt) (hd : dstB o.dst N = true)
    (hp : popF fo 0 = some fo') (k : RunX P ops N K r fo' (M) ((dt, (.val undef)) :: F)) : RunX P ops N K (o :: r) fo M F :=
  RunX.mk (fun _ k => Run.pure_ hd (fun _ => StepG.offu hg hj hF) (by rw [put_eq hdd]; exact k)) hp k
end Go.Proofs.YtfmafehogfikmaaGreatDoor

/- define: Symbol, Fixed, whole, word, bound, weighed; walked. -/
namespace Go.Proofs.YtfmafehogfikmaaGreatDoor
open Go Go.RowKit
set_option maxRecDepth 20000

def symF (n : Nd) : ByteArray × Bool := if n.tok.kind = 5 ∨ n.tok.kind = 1 then (n.tok.text, true) else (⟨#[]⟩, false)
theorem symbol_ok (n : Nd) : PCalls Tryz.prog 13 [nA n] (.tup [.val (.string (symF n).1), .val (.bool (symF n).2)]) := by
  refine p_start Tryz.func13 Tryz.ntmps13 rfl rfl rfl fun S w0 => ?_
  by_cases h5 : n.tok.kind = 5
  · rw [show symF n = (n.tok.text, true) from if_pos (.inl h5)]
    repeat (first | refine awp_seq ?_ | refine thenA_normal ?_ | refine a_region ?_ | refine awp_ret ?_ | refine awp_skip ?_ | refine r_done ?_ | (refine r_id ?_; first | refine r_ev tab_ok rfl rfl rfl rfl byE rfl ?_ | refine r_ld tab_ok rfl rfl rfl rfl rfl ?_ | refine r_wr tab_ok rfl rfl rfl rfl rfl ?_) | refine ret2 byO rfl rfl rfl rfl ?_ ?_ | refine awp_cond_f rfl ?_ | refine r_pick_f rfl rfl (congrArg (fun b => AV.val (.bool b)) (bnot_t (by omega))) rfl rfl rfl rfl ?_ | refine r_off rfl rfl (congrArg (fun b => AV.val (.bool b)) (bnot_t (by omega))) rfl rfl rfl ?_)
    all_goals exact Sub.refl _
  by_cases h1 : n.tok.kind = 1
  · rw [show symF n = (n.tok.text, true) from if_pos (.inr h1)]
    repeat (first | refine awp_seq ?_ | refine thenA_normal ?_ | refine a_region ?_ | refine r_done ?_ | (refine r_id ?_; first | refine r_ev tab_ok rfl rfl rfl rfl byE rfl ?_ | refine r_ld tab_ok rfl rfl rfl rfl rfl ?_ | refine r_wr tab_ok rfl rfl rfl rfl rfl ?_) | refine r_g rfl rfl (congrArg (fun b => AV.val (.bool b)) (bnot_f (by omega))) ?_ | refine r_pick_t rfl rfl (congrArg (fun b => AV.val (.bool b)) (bnot_f (by omega))) rfl rfl rfl rfl ?_)
    refine awp_cond_n rfl (fun h => absurd h1 h) (fun _ => ?_)
    repeat (first | refine awp_seq ?_ | refine thenA_normal ?_ | refine a_region ?_ | refine awp_ret ?_ | refine awp_skip ?_ | refine r_done ?_ | (refine r_id ?_; first | refine r_ev tab_ok rfl rfl rfl rfl byE rfl ?_ | refine r_ld tab_ok rfl rfl rfl rfl rfl ?_) | refine ret2 byO rfl rfl rfl rfl ?_ ?_)
    all_goals exact Sub.refl _
  · rw [show symF n = (⟨#[]⟩, false) from if_neg (by rintro (h | h); exact h5 h; exact h1 h)]
    repeat (first | refine awp_seq ?_ | refine thenA_normal ?_ | refine a_region ?_ | refine r_done ?_ | (refine r_id ?_; first | refine r_ev tab_ok rfl rfl rfl rfl byE rfl ?_ | refine r_ld tab_ok rfl rfl rfl rfl rfl ?_ | refine r_wr tab_ok rfl rfl rfl rfl rfl ?_) | refine r_g rfl rfl (congrArg (fun b => AV.val (.bool b)) (bnot_f (by omega))) ?_ | refine r_pick_t rfl rfl (congrArg (fun b => AV.val (.bool b)) (bnot_f (by omega))) rfl rfl rfl rfl ?_)
    refine awp_cond_n rfl (fun _ => ?_) (fun h => absurd h h1)
    repeat (first | refine awp_seq ?_ | refine thenA_normal ?_ | refine a_region ?_ | refine awp_ret ?_ | refine thenA_ret ?_ | refine r_done ?_ | (refine r_id ?_; first | refine r_ev tab_ok rfl rfl rfl rfl byE rfl ?_) | refine ret2 byO rfl rfl rfl rfl ?_ ?_)
    all_goals exact Sub.refl _
def fixN : ByteArray := ⟨#[100, 101, 99, 105, 109, 97, 108, 32, 100, 105, 115, 99, 32, 115, 113, 117, 97, 114, 101, 32, 99, 105, 114, 99, 108, 101]⟩
theorem fixed_ok (s : ByteArray) (h : s.size ≤ 1099511627776) : PCalls Tryz.prog 18 [.val (.string s)] (.val (.bool (amgF fixN (lowS s)))) := by
  refine p_start Tryz.func18 Tryz.ntmps18 rfl rfl rfl fun S w0 => ?_
  repeat (first | refine awp_seq ?_ | refine a_region ?_ | refine r_done ?_ | (refine r_id ?_; first | refine r_ev tab_ok rfl rfl rfl rfl byE rfl ?_))
  refine r_call (plower_ok s (by omega)) call30 rfl rfl ⟨Sub.refl _, trivial⟩ rfl rfl rfl rfl ?_
  refine r_call (among_ok fixN (lowS s) (by decide) (by kernel_rfl)) call29 rfl rfl ⟨Sub.refl _, Sub.refl _, trivial⟩ rfl rfl rfl rfl ?_
  repeat (first | refine thenA_normal ?_ | refine awp_ret ?_ | refine r_done ?_ | (refine r_id ?_; first | refine r_ev tab_ok rfl rfl rfl rfl byE rfl ?_) | refine ret1 byO rfl rfl rfl ?_)
  exact Sub.refl _
def whoF (n : Nd) : Int × Bool := if n.tok.kind = 10 ∧ n.tok.whole = true then (n.tok.int, true) else (0, false)
theorem whole_ok (n : Nd) : PCalls Tryz.prog 69 [nA n] (.tup [.val (.int .i64 (whoF n).1), .val (.bool (whoF n).2)]) := by
  refine p_start Tryz.func69 Tryz.ntmps69 rfl rfl rfl fun S w0 => ?_
  by_cases h : n.tok.kind = 10
  · cases hw : n.tok.whole with
    | true =>
      rw [show whoF n = (n.tok.int, true) from if_pos ⟨h, hw⟩]
      repeat (first | refine awp_seq ?_ | refine thenA_normal ?_ | refine a_region ?_ | refine r_done ?_ | (refine r_id ?_; first | refine r_ev tab_ok rfl rfl rfl rfl byE rfl ?_ | refine r_ld tab_ok rfl rfl rfl rfl rfl ?_ | refine r_wr tab_ok rfl rfl rfl rfl rfl ?_) | refine r_g rfl rfl (congrArg (fun b => AV.val (.bool b)) (bnot_t (by omega))) ?_ | refine r_pick_f rfl rfl (congrArg (fun b => AV.val (.bool b)) (bnot_t (by omega))) rfl rfl rfl rfl ?_)
      refine awp_cond rfl (fun h2 => absurd h2 (by rw [hw]; decide)) (fun _ => ?_)
      repeat (first | refine awp_seq ?_ | refine thenA_normal ?_ | refine a_region ?_ | refine awp_ret ?_ | refine awp_skip ?_ | refine r_done ?_ | (refine r_id ?_; first | refine r_ev tab_ok rfl rfl rfl rfl byE rfl ?_ | refine r_ld tab_ok rfl rfl rfl rfl rfl ?_) | refine ret2 byO rfl rfl rfl rfl ?_ ?_)
      all_goals exact Sub.refl _
    | false =>
      rw [show whoF n = (0, false) from if_neg (by rintro ⟨_, h2⟩; rw [hw] at h2; cases h2)]
      repeat (first | refine awp_seq ?_ | refine thenA_normal ?_ | refine a_region ?_ | refine r_done ?_ | (refine r_id ?_; first | refine r_ev tab_ok rfl rfl rfl rfl byE rfl ?_ | refine r_ld tab_ok rfl rfl rfl rfl rfl ?_ | refine r_wr tab_ok rfl rfl rfl rfl rfl ?_) | refine r_g rfl rfl (congrArg (fun b => AV.val (.bool b)) (bnot_t (by omega))) ?_ | refine r_pick_f rfl rfl (congrArg (fun b => AV.val (.bool b)) (bnot_t (by omega))) rfl rfl rfl rfl ?_)
      refine awp_cond rfl (fun _ => ?_) (fun h2 => absurd h2 (by rw [hw]; decide))
      repeat (first | refine awp_seq ?_ | refine thenA_normal ?_ | refine a_region ?_ | refine awp_ret ?_ | refine thenA_ret ?_ | refine r_done ?_ | (refine r_id ?_; first | refine r_ev tab_ok rfl rfl rfl rfl byE rfl ?_) | refine ret2 byO rfl rfl rfl rfl ?_ ?_)
      all_goals exact Sub.refl _
  · rw [show whoF n = (0, false) from if_neg (fun h2 => h h2.1)]
    repeat (first | refine awp_seq ?_ | refine thenA_normal ?_ | refine a_region ?_ | refine awp_ret ?_ | refine thenA_ret ?_ | refine r_done ?_ | (refine r_id ?_; first | refine r_ev tab_ok rfl rfl rfl rfl byE rfl ?_ | refine r_ld tab_ok rfl rfl rfl rfl rfl ?_ | refine r_wr tab_ok rfl rfl rfl rfl rfl ?_) | refine ret2 byO rfl rfl rfl rfl ?_ ?_ | refine awp_cond_t rfl ?_ | refine r_pick_t rfl rfl (congrArg (fun b => AV.val (.bool b)) (bnot_f (by omega))) rfl rfl rfl rfl ?_ | refine r_off rfl rfl (congrArg (fun b => AV.val (.bool b)) (bnot_f (by omega))) rfl rfl rfl ?_)
    all_goals exact Sub.refl _
def isWd (n : Nd) (w : ByteArray) : Bool := decide (n.tok.kind = 1) && decide (lowS n.tok.text = w)
theorem dword_ok (n : Nd) (w : ByteArray) (h : n.tok.text.size ≤ 1099511627776) : PCalls Tryz.prog 70 [nA n, .val (.string w)] (.val (.bool (isWd n w))) := by
  refine p_start Tryz.func70 Tryz.ntmps70 rfl rfl rfl fun S w0 => ?_
  repeat (first | refine awp_seq ?_ | refine a_region ?_ | refine r_done ?_ | (refine r_id ?_; first | refine r_ev tab_ok rfl rfl rfl rfl byE rfl ?_ | refine r_ld tab_ok rfl rfl rfl rfl rfl ?_ | refine r_wr tab_ok rfl rfl rfl rfl rfl ?_))
  refine r_call (word_ok2 n 1 w h) call102 rfl rfl ⟨Sub.refl _, Sub.refl _, Sub.refl _, Sub.refl _, trivial⟩ rfl rfl rfl rfl ?_
  repeat (first | refine thenA_normal ?_ | refine awp_ret ?_ | refine r_done ?_ | (refine r_id ?_; first | refine r_ev tab_ok rfl rfl rfl rfl byE rfl ?_) | refine ret1 byO rfl rfl rfl ?_)
  exact Sub.refl _
def infS : ByteArray := ⟨#[105, 110, 102, 105, 110, 105, 116, 101]⟩
def bndF (n : Nd) (e : Int) : Int × Bool := if isWd n infS then (e, true) else whoF n
theorem bound_ok (n : Nd) (e : Int) (h : n.tok.text.size ≤ 1099511627776) : PCalls Tryz.prog 72 [nA n, .val (.int .i64 e)] (.tup [.val (.int .i64 (bndF n e).1), .val (.bool (bndF n e).2)]) := by
  refine p_start Tryz.func72 Tryz.ntmps72 rfl rfl rfl fun S w0 => ?_
  rw [bndF]
  repeat (first | refine awp_seq ?_ | refine a_region ?_ | refine r_done ?_ | (refine r_id ?_; first | refine r_ev tab_ok rfl rfl rfl rfl byE rfl ?_ | refine r_ld tab_ok rfl rfl rfl rfl rfl ?_ | refine r_wr tab_ok rfl rfl rfl rfl rfl ?_))
  refine r_call (dword_ok n infS h) call70 rfl rfl ⟨Sub.refl _, Sub.refl _, trivial⟩ rfl rfl rfl rfl ?_
  cases isWd n infS with
  | true =>
    rw [if_pos rfl]
    repeat (first | refine awp_seq ?_ | refine thenA_normal ?_ | refine a_region ?_ | refine awp_ret ?_ | refine thenA_ret ?_ | refine r_done ?_ | (refine r_id ?_; first | refine r_ev tab_ok rfl rfl rfl rfl byE rfl ?_) | refine ret2 byO rfl rfl rfl rfl ?_ ?_ | refine awp_cond_t rfl ?_)
    all_goals exact Sub.refl _
  | false =>
    rw [if_neg Bool.false_ne_true]
    repeat (first | refine awp_seq ?_ | refine thenA_normal ?_ | refine a_region ?_ | refine awp_skip ?_ | refine r_done ?_ | (refine r_id ?_; first | refine r_ld tab_ok rfl rfl rfl rfl rfl ?_) | refine awp_cond_f rfl ?_)
    refine r_call (whole_ok n) call69 rfl rfl ⟨Sub.refl _, trivial⟩ rfl rfl rfl rfl ?_
    repeat (first | refine thenA_normal ?_ | refine awp_ret ?_ | refine r_done ?_ | (refine r_id ?_; first | refine r_ev tab_ok rfl rfl rfl rfl byE rfl ?_) | refine ret2 byO rfl rfl rfl rfl ?_ ?_)
    all_goals exact Sub.refl _
def weiF : List Nd → (Int × ByteArray) × Bool
  | [a, b] =>
    if a.tok.kind = 10 then (((whoF a).1, (symF b).1), (whoF a).2 && (symF b).2 && decide (0 ≤ (whoF a).1))
    else (((whoF b).1, (symF a).1), (whoF b).2 && (symF a).2 && decide (0 ≤ (whoF b).1))
  | _ => ((0, ⟨#[]⟩), false)
theorem ret3t {P : Program} {fn : Func} {r1 r2 r3 x y z : AV} {e : Exit} {M : List AB} {F : List (Nat × AV)} {t u v : Tmp} (he : e = .normal ∨ e = .ret) (hr : fn.results.toList = [.tmp t, .tmp u, .tmp v]) (hx : nf (look F t) = some x) (hy : nf (look F u) = some y) (hz : nf (look F v) = some z)
    (hf : (x.free && (y.free && z.free)) = true) (h : Sub x r1) (k : Sub y r2) (l : Sub z r3) : retQ P fn (.tup [r1, r2, r3]) e ⟨M, F⟩ := by
  rw [Bool.and_eq_true, Bool.and_eq_true] at hf
  refine ⟨he, [x, y, z], by rw [hr]; exact .cons (.tmp (by rw [nf_eq hx]; exact Sub.refl _) hf.1) (.cons (.tmp (by rw [nf_eq hy]; exact Sub.refl _) hf.2.1) (.cons (.tmp (by rw [nf_eq hz]; exact Sub.refl _) hf.2.2) .nil)), ?_⟩
  rintro M β w imm v ⟨cs, h1, ⟨v1, r, e1, s1, v2, r', e2, s2, v3, r'', e3, s3, s4⟩⟩
  exact ⟨cs, h1, v1, r, e1, h _ _ _ _ _ s1, v2, r', e2, k _ _ _ _ _ s2, v3, r'', e3, l _ _ _ _ _ s3, s4⟩
set_option maxHeartbeats 1000000 in
theorem weighed_ok (l : List Nd) (hl : l.length ≤ 1099511627776) : PCalls Tryz.prog 73 [.sl 7 (l.map nF)] (.tup [.val (.int .i64 (weiF l).1.1), .val (.string (weiF l).1.2), .val (.bool (weiF l).2)]) := by
  refine p_start Tryz.func73 Tryz.ntmps73 rfl rfl rfl fun S w0 => ?_
  have hlm : (l.map nF).length = l.length := List.length_map _
  match l, hl, hlm with
  | [], _, _ =>
    repeat (first | refine awp_seq ?_ | refine thenA_normal ?_ | refine a_region ?_ | refine awp_ret ?_ | refine thenA_ret ?_ | refine r_done ?_ | (refine r_id ?_; first | refine r_len tab_ok rfl rfl rfl rfl rfl rfl rfl ?_ | refine r_ev tab_ok rfl rfl rfl rfl byE rfl ?_) | refine awp_cond_t rfl ?_)
    all_goals exact ret3t byO rfl rfl rfl rfl rfl (Sub.refl _) (Sub.refl _) (Sub.refl _)
  | [_], _, _ =>
    repeat (first | refine awp_seq ?_ | refine thenA_normal ?_ | refine a_region ?_ | refine awp_ret ?_ | refine thenA_ret ?_ | refine r_done ?_ | (refine r_id ?_; first | refine r_len tab_ok rfl rfl rfl rfl rfl rfl rfl ?_ | refine r_ev tab_ok rfl rfl rfl rfl byE rfl ?_) | refine awp_cond_t rfl ?_)
    all_goals exact ret3t byO rfl rfl rfl rfl rfl (Sub.refl _) (Sub.refl _) (Sub.refl _)
  | a :: b :: c :: r, hl, hlm =>
    have hne : ¬ (((a :: b :: c :: r).length : Nat) : Int) = 2 := by simp only [List.length_cons]; omega
    repeat (first | refine awp_seq ?_ | refine thenA_normal ?_ | refine a_region ?_ | refine awp_ret ?_ | refine thenA_ret ?_ | refine r_done ?_ | (refine r_id ?_; first | refine r_len tab_ok rfl rfl rfl rfl rfl rfl rfl ?_ | refine r_ev tab_ok rfl rfl rfl rfl byE rfl ?_) | refine awp_cond_t rfl ?_)
    all_goals exact ret3t byO rfl rfl rfl rfl rfl (Sub.refl _) (Sub.refl _) (Sub.refl _)
  | [a, b], _, _ =>
    by_cases hk : a.tok.kind = 10
    · rw [show weiF [a, b] = (((whoF a).1, (symF b).1), (whoF a).2 && (symF b).2 && decide (0 ≤ (whoF a).1)) from if_pos hk]
      have hk2 : ([a, b][Int.toNat 0]'(Nat.succ_pos _)).tok.kind = 10 := hk
      repeat (first | refine awp_seq ?_ | refine thenA_normal ?_ | refine a_region ?_ | refine awp_skip ?_ | refine r_done ?_ | (refine r_id ?_; first | refine r_len tab_ok rfl rfl rfl rfl rfl rfl rfl ?_ | refine r_ev tab_ok rfl rfl rfl rfl byE rfl ?_ | refine r_idxd tab_ok rfl rfl rfl rfl rfl rfl rfl (by decide) rfl rfl rfl ?_) | refine awp_cond_f rfl ?_)
      refine awp_cond_n rfl (fun h => absurd hk2 h) (fun _ => ?_)
      repeat (first | refine awp_seq ?_ | refine a_region ?_ | refine awp_skip ?_ | (refine r_id ?_; first | refine r_ev tab_ok rfl rfl rfl rfl byE rfl ?_ | refine r_idxd tab_ok rfl rfl rfl rfl rfl rfl rfl (by decide) rfl rfl rfl ?_))
      refine r_call (whole_ok a) call69 rfl rfl ⟨Sub.refl _, trivial⟩ rfl rfl rfl rfl ?_
      repeat (first | refine awp_seq ?_ | refine a_region ?_ | refine r_done ?_ | (refine r_id ?_; first | refine r_ev tab_ok rfl rfl rfl rfl byE rfl ?_ | refine r_idxd tab_ok rfl rfl rfl rfl rfl rfl rfl (by decide) rfl rfl rfl ?_))
      refine r_call (symbol_ok b) call13 rfl rfl ⟨Sub.refl _, trivial⟩ rfl rfl rfl rfl ?_
      repeat (first | refine awp_seq ?_ | refine thenA_normal ?_ | refine a_region ?_ | refine awp_ret ?_ | refine r_done ?_ | (refine r_id ?_; first | refine r_ev tab_ok rfl rfl rfl rfl byE rfl ?_ | refine r_ev_cnd tab_ok rfl rfl rfl rfl rfl rfl byC (by first | exact fun _ => trivial | (intro h; simp at h; first | exact ⟨by omega, by omega⟩ | omega)) rfl ?_ | refine r_and rfl rfl rfl rfl rfl rfl rfl rfl ?_))
      all_goals exact ret3t byO rfl rfl rfl rfl rfl (Sub.refl _) (Sub.refl _) (Sub.refl _)
    · rw [show weiF [a, b] = (((whoF b).1, (symF a).1), (whoF b).2 && (symF a).2 && decide (0 ≤ (whoF b).1)) from if_neg hk]
      have hk2 : ¬ ([a, b][Int.toNat 0]'(Nat.succ_pos _)).tok.kind = 10 := hk
      repeat (first | refine awp_seq ?_ | refine thenA_normal ?_ | refine a_region ?_ | refine awp_skip ?_ | refine r_done ?_ | (refine r_id ?_; first | refine r_len tab_ok rfl rfl rfl rfl rfl rfl rfl ?_ | refine r_ev tab_ok rfl rfl rfl rfl byE rfl ?_ | refine r_idxd tab_ok rfl rfl rfl rfl rfl rfl rfl (by decide) rfl rfl rfl ?_) | refine awp_cond_f rfl ?_)
      refine awp_cond_n rfl (fun _ => ?_) (fun h => absurd h hk2)
      repeat (first | refine awp_seq ?_ | refine a_region ?_ | refine a_draw1 mixed_ok (by kernel_rfl) ?_ | refine r_done' ?_ | (refine r_id ?_; first | refine r_ev tab_ok rfl rfl rfl rfl byE rfl ?_ | refine r_idxd tab_ok rfl rfl rfl rfl rfl rfl rfl (by decide) rfl rfl rfl ?_ | refine r_built tab_ok rfl rfl rfl rfl rfl rfl rfl rfl rfl ?_))
      refine r_call (whole_ok b) call69 rfl rfl ⟨Sub.refl _, trivial⟩ rfl rfl rfl rfl ?_
      repeat (first | refine awp_seq ?_ | refine a_region ?_ | refine r_done ?_ | (refine r_id ?_; first | refine r_ev tab_ok rfl rfl rfl rfl byE rfl ?_ | refine r_idxd tab_ok rfl rfl rfl rfl rfl rfl rfl (by decide) rfl rfl rfl ?_))
      refine r_call (symbol_ok a) call13 rfl rfl ⟨Sub.refl _, trivial⟩ rfl rfl rfl rfl ?_
      repeat (first | refine awp_seq ?_ | refine thenA_normal ?_ | refine a_region ?_ | refine awp_ret ?_ | refine r_done ?_ | (refine r_id ?_; first | refine r_ev tab_ok rfl rfl rfl rfl byE rfl ?_ | refine r_ev_cnd tab_ok rfl rfl rfl rfl rfl rfl byC (by first | exact fun _ => trivial | (intro h; simp at h; first | exact ⟨by omega, by omega⟩ | omega)) rfl ?_ | refine r_and rfl rfl rfl rfl rfl rfl rfl rfl ?_))
      all_goals exact ret3t byO rfl rfl rfl rfl rfl (Sub.refl _) (Sub.refl _) (Sub.refl _)
end Go.Proofs.YtfmafehogfikmaaGreatDoor

/- define: a style that is put together; systemOf, negativeOf, around; walked. -/
namespace Go.Proofs.YtfmafehogfikmaaGreatDoor
open Go Go.RowKit
set_option maxRecDepth 20000

structure Sd where
  name : ByteArray
  system : ByteArray
  first : Int
  symbols : List ByteArray
  weights : List Int
  neg1 : ByteArray
  neg2 : ByteArray
  pre : ByteArray
  suf : ByteArray
  auto : Bool
  range : List (Int × Int)
  pad : Int
  padSign : ByteArray
  fall : ByteArray
  ext : ByteArray
  said : Nat
  syms : List ByteArray
  sums : List ByteArray
  wts : List Int
  symbolic : Bool
  additive : Bool
def rgD (p : Int × Int) : D := .ag [.val (.int .i64 p.1), .val (.int .i64 p.2)]
def wtD (n : Int) : D := .val (.int .i64 n)
def dfC (S : Sd) : List AV := [.val (.string S.name), .val (.string S.system), .val (.int .i64 S.first), .sl 1 (S.symbols.map sF), .sl 1 (S.weights.map wtD), .val (.string S.neg1), .val (.string S.neg2), .val (.string S.pre), .val (.string S.suf), .val (.bool S.auto), .sl 2 (S.range.map rgD), .val (.int .i64 S.pad), .val (.string S.padSign), .val (.string S.fall), .val (.string S.ext), .val (.int .i64 (S.said : Nat))]
def dfA (S : Sd) : AV := .agg (dfC S)
def sdB (S : Sd) : AB := .box 61 [.val (.string S.name), .val (.string S.system), .val (.int .i64 S.first), .sl 1 (S.symbols.map sF), .sl 1 (S.weights.map wtD), .val (.string S.neg1), .val (.string S.neg2), .val (.string S.pre), .val (.string S.suf), .val (.bool S.auto), .sl 2 (S.range.map rgD), .val (.int .i64 S.pad), .val (.string S.padSign), .val (.string S.fall), .val (.string S.ext), .val (.int .i64 (S.said : Nat)), .sl 1 (S.syms.map sF), .sl 1 (S.sums.map sF), .sl 1 (S.wts.map wtD), .val (.bool S.symbolic), .val (.bool S.additive)]
section
variable {P : Program} {o : Oper} {M : List AB} {ρ : Operand → AV}
theorem astep_orN {t u : Nat} {x y : Operand} {k b : Nat} (ho : o.op = .binOp .or t x y u) (hx : ρ x = .val (.int .i64 (k : Int))) (hy : ρ y = .val (.int .i64 (b : Int))) (hk : k < 4611686018427387904) (hb : b < 4611686018427387904) : AStep P o M ρ M (.val (.int .i64 ((k ||| b : Nat) : Int))) :=
  .value fun S B β A w _ hs => by
    have h1 := hs x (by simp [ho, Op.operands])
    have h2 := hs y (by simp [ho, Op.operands])
    rw [hx] at h1; rw [hy] at h2
    have h2 : A.eval y = .int .i64 b := h2
    have h1 : A.eval x = .int .i64 k := h1
    refine ⟨.int .i64 ((k ||| b : Nat) : Int), ?_, rfl⟩
    have e : (Op.intBits .or .i64 (k : Int) (b : Int)).run P w = .ok (.int .i64 ((k ||| b : Nat) : Int)) w := by
      have hlt : k ||| b < 4611686018427387904 := Nat.or_lt_two_pow (n := 62) hk hb
      have h3 : (BitVec.ofInt 64 (k : Int) ||| BitVec.ofInt 64 (b : Int)).toNat = k ||| b := by
        rw [BitVec.toNat_or]
        simp only [BitVec.ofInt_natCast, BitVec.toNat_ofNat]
        rw [Nat.mod_eq_of_lt (by omega), Nat.mod_eq_of_lt (by omega)]
      have h4 : IntKind.i64.wrap ((k ||| b : Nat) : Int) = ((k ||| b : Nat) : Int) := by
        simp only [IntKind.wrap, IntKind.bits, IntKind.signed]
        simp
        omega
      show (pure (Value.int .i64 (IntKind.i64.wrap ((BitVec.ofInt 64 (k : Int) ||| BitVec.ofInt 64 (b : Int)).toNat : Int))) : Sem Value).run P w = _
      rw [h3, h4]; rfl
    simp [execOp, ho, h1, h2, eqGuard, binOp, e]
variable {ops : Array Oper} {N : Nat} {K : AS → Prop} {r : List Oper} {fo fo' : Option (List Nat)} {F : List (Nat × AV)} {dt : Tmp}
theorem r_orN {t u : Nat} {x y : Operand} {k b : Nat} (hg : o.guard = none) (ho : o.op = .binOp .or t x y u) (hx : aval (look F) x = .val (.int .i64 (k : Int))) (hy : aval (look F) y = .val (.int .i64 (b : Int))) (hk : k < 4611686018427387904) (hb : b < 4611686018427387904) (hdd : o.dst = some dt) (hd : dstB o.dst N = true) (hp : popF fo 0 = some fo')
    (k' : RunX P ops N K r fo' M ((dt, .val (.int .i64 ((k ||| b : Nat) : Int))) :: F)) : RunX P ops N K (o :: r) fo M F :=
  RunX.mk (fun _ k => Run.pure_ hd (fun _ => StepG.plain hg (astep_orN ho hx hy hk hb)) (by rw [put_eq hdd]; exact k)) hp k'
end
def plaN : ByteArray := ⟨#[99, 121, 99, 108, 105, 99, 32, 110, 117, 109, 101, 114, 105, 99, 32, 97, 108, 112, 104, 97, 98, 101, 116, 105, 99, 32, 115, 121, 109, 98, 111, 108, 105, 99, 32, 97, 100, 100, 105, 116, 105, 118, 101, 32, 102, 105, 120, 101, 100]⟩
def fxdS : ByteArray := ⟨#[102, 105, 120, 101, 100]⟩
def extS : ByteArray := ⟨#[101, 120, 116, 101, 110, 100, 115]⟩
def sysF1 (first : ByteArray) (m : Nd) (S : Sd) : Sd × Bool :=
  if first = fxdS then (if (whoF m).2 then ({ S with system := first, first := (whoF m).1, ext := ⟨#[]⟩ }, true) else (S, false)) else
  if first = extS then (if (nmF [m]).2 then ({ S with system := first, first := 1, ext := (nmF [m]).1 }, true) else (S, false)) else (S, false)
def sysF (S : Sd) : List Nd → Sd × Bool
  | [n] => if n.tok.kind = 1 then (if amgF plaN (lowS n.tok.text) then ({ S with system := lowS n.tok.text, first := 1, ext := ⟨#[]⟩ }, true) else (S, false)) else (S, false)
  | [n, m] => if n.tok.kind = 1 then sysF1 (lowS n.tok.text) m S else (S, false)
  | _ => (S, false)
set_option maxHeartbeats 8000000 in
theorem system_ok (S0 : Sd) (l : List Nd) (hne : l ≠ []) (hl : nszs l < 1099511627776) (ht : ∀ n ∈ l, n.tok.text.size ≤ 1099511627776) : MCalls Tryz.prog 38 [sdB S0] [.ptr 0 0, .sl 7 (l.map nF)] [sdB (sysF S0 l).1] (.val (.bool (sysF S0 l).2)) := by
  have hlm : (l.map nF).length = l.length := List.length_map _
  have hll := nszs_len l
  refine m_startF Tryz.func38 Tryz.ntmps38 rfl rfl rfl fun S w β => ?_
  match l, hne, hl, ht, hlm, hll with
  | [], hne, _, _, _, _ => exact absurd rfl hne
  | [n], _, hl, ht, hlm, hll =>
    have hp := plower_ok n.tok.text (by have := ht n (by simp); omega)
    repeat (first | refine awp_seq ?_ | refine a_region ?_ | refine r_done ?_ | (refine r_id ?_; first | refine r_ev tab_ok rfl rfl rfl rfl byE rfl ?_ | refine r_idxd tab_ok rfl rfl rfl rfl rfl rfl rfl (by decide) rfl rfl rfl ?_))
    refine r_call hp call30 rfl rfl ⟨Sub.refl _, trivial⟩ rfl rfl rfl rfl ?_
    by_cases hk : n.tok.kind = 1
    · rw [show sysF S0 [n] = (if amgF plaN (lowS n.tok.text) then ({ S0 with system := lowS n.tok.text, first := 1, ext := ⟨#[]⟩ }, true) else (S0, false)) from if_pos hk]
      have hk2 : ([n][Int.toNat 0]'(Nat.succ_pos _)).tok.kind = 1 := hk
      repeat (first | refine awp_seq ?_ | refine thenA_normal ?_ | refine awp_block ?_ | refine a_region ?_ | refine r_done ?_ | (refine r_id ?_; first | refine r_len tab_ok rfl rfl rfl rfl rfl rfl rfl ?_ | refine r_ev tab_ok rfl rfl rfl rfl byE rfl ?_ | refine r_idxd tab_ok rfl rfl rfl rfl rfl rfl rfl (by decide) rfl rfl rfl ?_ | refine r_ev_on tab_ok rfl rfl rfl rfl rfl rfl (by first | exact trivial | exact ⟨by omega, by omega⟩ | omega) rfl ?_) | refine awp_cond_f rfl ?_ | refine r_g rfl rfl rfl ?_ | refine r_g rfl rfl (congrArg (fun b => AV.val (.bool b)) (bnot_t (by omega))) ?_ | refine r_pick_f rfl rfl (congrArg (fun b => AV.val (.bool b)) (bnot_t (by omega))) rfl rfl rfl rfl ?_)
      refine r_call (among_ok plaN (lowS n.tok.text) (by decide) (by kernel_rfl)) call29 rfl rfl ⟨Sub.refl _, Sub.refl _, trivial⟩ rfl rfl rfl rfl ?_
      cases hb : amgF plaN (lowS n.tok.text) with
      | true =>
        rw [if_pos rfl]
        repeat (first | refine awp_seq ?_ | refine thenA_normal ?_ | refine a_region ?_ | refine awp_ret ?_ | refine thenA_ret ?_ | refine blockA_ret ?_ | refine r_done ?_ | (refine r_id ?_; first | refine r_ev tab_ok rfl rfl rfl rfl byE rfl ?_ | refine r_st tab_ok rfl rfl rfl rfl ?_ | refine r_pick_t rfl rfl rfl rfl rfl rfl rfl ?_ | refine r_nilck rfl rfl rfl rfl rfl rfl rfl ?_) | refine awp_cond_t rfl ?_)
        exact retF1 [sdB { S0 with system := lowS n.tok.text, first := 1, ext := ⟨#[]⟩ }] [(4, .val (.bool true))] (fits_convM byV byV ⟨trivial, trivial⟩) byO rfl rfl rfl rfl rfl (Sub.refl _)
      | false =>
        rw [if_neg Bool.false_ne_true]
        repeat (first | refine awp_seq ?_ | refine thenA_normal ?_ | refine a_region ?_ | refine awp_ret ?_ | refine awp_skip ?_ | refine r_done ?_ | (refine r_id ?_; first | refine r_len tab_ok rfl rfl rfl rfl rfl rfl rfl ?_ | refine r_ev tab_ok rfl rfl rfl rfl byE rfl ?_ | refine r_pick_t rfl rfl rfl rfl rfl rfl rfl ?_ | refine r_pick_f rfl rfl rfl rfl rfl rfl rfl ?_ | refine r_off rfl rfl rfl rfl rfl rfl ?_) | refine awp_cond_f rfl ?_)
        exact retF1 [sdB S0] [(4, .val (.bool false))] (fits_convM byV byV ⟨trivial, trivial⟩) byO rfl rfl rfl rfl rfl (Sub.refl _)
    · rw [show sysF S0 [n] = (S0, false) from if_neg hk]
      have hk2 : ¬ ([n][Int.toNat 0]'(Nat.succ_pos _)).tok.kind = 1 := hk
      repeat (first | refine awp_seq ?_ | refine thenA_normal ?_ | refine awp_block ?_ | refine a_region ?_ | refine awp_ret ?_ | refine thenA_ret ?_ | refine blockA_ret ?_ | refine r_done ?_ | (refine r_id ?_; first | refine r_ev tab_ok rfl rfl rfl rfl byE rfl ?_ | refine r_idxd tab_ok rfl rfl rfl rfl rfl rfl rfl (by decide) rfl rfl rfl ?_) | refine awp_cond_t rfl ?_ | refine r_pick_t rfl rfl (congrArg (fun b => AV.val (.bool b)) (bnot_f (by omega))) rfl rfl rfl rfl ?_ | refine r_off rfl rfl (congrArg (fun b => AV.val (.bool b)) (bnot_f (by omega))) rfl rfl rfl ?_)
      exact retF1 [sdB S0] [(4, .val (.bool false))] (fits_convM byV byV ⟨trivial, trivial⟩) byO rfl rfl rfl rfl rfl (Sub.refl _)
  | a :: b :: c :: r, _, hl, ht, hlm, hll =>
    have hp := plower_ok a.tok.text (by have := ht a (by simp); omega)
    have hne : (2 : Int) < (((a :: b :: c :: r).length : Nat) : Int) := by simp only [List.length_cons]; omega
    repeat (first | refine awp_seq ?_ | refine a_region ?_ | refine r_done ?_ | (refine r_id ?_; first | refine r_ev tab_ok rfl rfl rfl rfl byE rfl ?_ | refine r_idx tab_ok rfl rfl rfl rfl rfl rfl rfl (by first | exact ⟨by omega, by omega⟩ | (simp; omega)) rfl rfl ?_))
    refine r_call hp call30 rfl rfl ⟨Sub.refl _, trivial⟩ rfl rfl rfl rfl ?_
    by_cases hk : a.tok.kind = 1
    · have hk2 : ((a :: b :: c :: r)[Int.toNat 0]'(Nat.succ_pos _)).tok.kind = 1 := hk
      repeat (first | refine awp_seq ?_ | refine thenA_normal ?_ | refine awp_block ?_ | refine a_region ?_ | refine r_done ?_ | (refine r_id ?_; first | refine r_len tab_ok rfl rfl rfl rfl rfl rfl rfl ?_ | refine r_ev tab_ok rfl rfl rfl rfl byE rfl ?_ | refine r_idx tab_ok rfl rfl rfl rfl rfl rfl rfl (by first | exact ⟨by omega, by omega⟩ | (simp; omega)) rfl rfl ?_) | refine r_g rfl rfl (congrArg (fun b => AV.val (.bool b)) (bnot_t (by omega))) ?_ | refine r_pick_f rfl rfl (congrArg (fun b => AV.val (.bool b)) (bnot_t (by omega))) rfl rfl rfl rfl ?_)
      refine awp_cond_p rfl (fun _ => ?_) (fun h => absurd hne h)
      repeat (first | refine awp_seq ?_ | refine thenA_normal ?_ | refine a_region ?_ | refine awp_ret ?_ | refine thenA_ret ?_ | refine blockA_ret ?_ | refine r_done ?_ | (refine r_id ?_; first | refine r_ev tab_ok rfl rfl rfl rfl byE rfl ?_))
      exact retF1 [sdB S0] [(4, .val (.bool false))] (fits_convM byV byV ⟨trivial, trivial⟩) byO rfl rfl rfl rfl rfl (Sub.refl _)
    · have hk2 : ¬ ((a :: b :: c :: r)[Int.toNat 0]'(Nat.succ_pos _)).tok.kind = 1 := hk
      repeat (first | refine awp_seq ?_ | refine thenA_normal ?_ | refine awp_block ?_ | refine a_region ?_ | refine awp_ret ?_ | refine thenA_ret ?_ | refine blockA_ret ?_ | refine r_done ?_ | (refine r_id ?_; first | refine r_ev tab_ok rfl rfl rfl rfl byE rfl ?_ | refine r_idx tab_ok rfl rfl rfl rfl rfl rfl rfl (by first | exact ⟨by omega, by omega⟩ | (simp; omega)) rfl rfl ?_) | refine awp_cond_t rfl ?_ | refine r_pick_t rfl rfl (congrArg (fun b => AV.val (.bool b)) (bnot_f (by omega))) rfl rfl rfl rfl ?_ | refine r_off rfl rfl (congrArg (fun b => AV.val (.bool b)) (bnot_f (by omega))) rfl rfl rfl ?_)
      exact retF1 [sdB S0] [(4, .val (.bool false))] (fits_convM byV byV ⟨trivial, trivial⟩) byO rfl rfl rfl rfl rfl (Sub.refl _)
  | [n, m], _, hl, ht, hlm, hll =>
    have hp := plower_ok n.tok.text (by have := ht n (by simp); omega)
    repeat (first | refine awp_seq ?_ | refine a_region ?_ | refine r_done ?_ | (refine r_id ?_; first | refine r_ev tab_ok rfl rfl rfl rfl byE rfl ?_ | refine r_idxd tab_ok rfl rfl rfl rfl rfl rfl rfl (by decide) rfl rfl rfl ?_))
    refine r_call hp call30 rfl rfl ⟨Sub.refl _, trivial⟩ rfl rfl rfl rfl ?_
    by_cases hk : n.tok.kind = 1
    · rw [show sysF S0 [n, m] = sysF1 (lowS n.tok.text) m S0 from if_pos hk]
      have hk2 : ([n, m][Int.toNat 0]'(Nat.succ_pos _)).tok.kind = 1 := hk
      generalize lowS n.tok.text = first
      repeat (first | refine awp_seq ?_ | refine thenA_normal ?_ | refine awp_block ?_ | refine a_region ?_ | refine r_done ?_ | (refine r_id ?_; first | refine r_len tab_ok rfl rfl rfl rfl rfl rfl rfl ?_ | refine r_ev tab_ok rfl rfl rfl rfl byE rfl ?_ | refine r_idxd tab_ok rfl rfl rfl rfl rfl rfl rfl (by decide) rfl rfl rfl ?_ | refine r_pick_t rfl rfl rfl rfl rfl rfl rfl ?_ | refine r_pick_f rfl rfl rfl rfl rfl rfl rfl ?_ | refine r_off rfl rfl rfl rfl rfl rfl ?_ | refine r_ev_on tab_ok rfl rfl rfl rfl rfl rfl (by first | exact trivial | exact ⟨by omega, by omega⟩ | omega) rfl ?_) | refine awp_cond_f rfl ?_ | refine r_g rfl rfl (congrArg (fun b => AV.val (.bool b)) (bnot_t (by omega))) ?_ | refine r_pick_f rfl rfl (congrArg (fun b => AV.val (.bool b)) (bnot_t (by omega))) rfl rfl rfl rfl ?_)
      refine awp_cond_p rfl (fun (hf : first = fxdS) => ?_) (fun (hf : ¬ first = fxdS) => ?_)
      · rw [show sysF1 first m S0 = (if (whoF m).2 then ({ S0 with system := first, first := (whoF m).1, ext := ⟨#[]⟩ }, true) else (S0, false)) from if_pos hf]
        repeat (first | refine awp_seq ?_ | refine a_region ?_ | (refine r_id ?_; first | refine r_ev tab_ok rfl rfl rfl rfl byE rfl ?_ | refine r_idxd tab_ok rfl rfl rfl rfl rfl rfl rfl (by decide) rfl rfl rfl ?_))
        refine r_call (whole_ok m) call69 rfl rfl ⟨Sub.refl _, trivial⟩ rfl rfl rfl rfl ?_
        cases hb : (whoF m).2 with
        | true =>
          rw [if_pos rfl]
          repeat (first | refine awp_seq ?_ | refine thenA_normal ?_ | refine a_region ?_ | refine awp_ret ?_ | refine thenA_ret ?_ | refine blockA_ret ?_ | refine r_done ?_ | (refine r_id ?_; first | refine r_ev tab_ok rfl rfl rfl rfl byE rfl ?_ | refine r_st tab_ok rfl rfl rfl rfl ?_ | refine r_nilck rfl rfl rfl rfl rfl rfl rfl ?_) | refine awp_cond_t rfl ?_)
          exact retF1 [sdB { S0 with system := first, first := (whoF m).1, ext := ⟨#[]⟩ }] [(4, .val (.bool true))] (fits_convM byV byV ⟨trivial, trivial⟩) byO rfl rfl rfl rfl rfl (Sub.refl _)
        | false =>
          rw [if_neg Bool.false_ne_true]
          repeat (first | refine awp_seq ?_ | refine thenA_normal ?_ | refine a_region ?_ | refine awp_ret ?_ | refine thenA_ret ?_ | refine blockA_ret ?_ | refine awp_skip ?_ | refine r_done ?_ | (refine r_id ?_; first | refine r_ev tab_ok rfl rfl rfl rfl byE rfl ?_) | refine awp_cond_f rfl ?_)
          exact retF1 [sdB S0] [(4, .val (.bool false))] (fits_convM byV byV ⟨trivial, trivial⟩) byO rfl rfl rfl rfl rfl (Sub.refl _)
      repeat (first | refine awp_seq ?_ | refine thenA_normal ?_ | refine a_region ?_ | refine r_done ?_ | (refine r_id ?_; first | refine r_len tab_ok rfl rfl rfl rfl rfl rfl rfl ?_ | refine r_ev tab_ok rfl rfl rfl rfl byE rfl ?_ | refine r_pick_t rfl rfl rfl rfl rfl rfl rfl ?_ | refine r_ev_on tab_ok rfl rfl rfl rfl rfl rfl (by first | exact trivial | exact ⟨by omega, by omega⟩ | omega) rfl ?_))
      refine awp_cond_p rfl (fun (hf2 : first = extS) => ?_) (fun (hf2 : ¬ first = extS) => ?_)
      · rw [show sysF1 first m S0 = (if (nmF [m]).2 then ({ S0 with system := first, first := 1, ext := (nmF [m]).1 }, true) else (S0, false)) from (if_neg hf).trans (if_pos hf2)]
        repeat (first | refine awp_seq ?_ | refine a_region ?_ | (refine r_id ?_; first | refine r_ev tab_ok rfl rfl rfl rfl byE rfl ?_))
        refine r_cut tab_ok rfl rfl rfl rfl rfl rfl rfl rfl (by simp) rfl ?_
        refine r_call (dname_ok [m] (by simp only [nszs] at hl ⊢; omega) (fun x hx => ht x (by simp at hx ⊢; exact .inr hx))) call11 rfl rfl ⟨Sub.refl _, trivial⟩ rfl rfl rfl rfl ?_
        cases hb : (nmF [m]).2 with
        | true =>
          rw [if_pos rfl]
          repeat (first | refine awp_seq ?_ | refine thenA_normal ?_ | refine a_region ?_ | refine awp_ret ?_ | refine thenA_ret ?_ | refine blockA_ret ?_ | refine r_done ?_ | (refine r_id ?_; first | refine r_ev tab_ok rfl rfl rfl rfl byE rfl ?_ | refine r_st tab_ok rfl rfl rfl rfl ?_ | refine r_nilck rfl rfl rfl rfl rfl rfl rfl ?_) | refine awp_cond_t rfl ?_)
          exact retF1 [sdB { S0 with system := first, first := 1, ext := (nmF [m]).1 }] [(4, .val (.bool true))] (fits_convM byV byV ⟨trivial, trivial⟩) byO rfl rfl rfl rfl rfl (Sub.refl _)
        | false =>
          rw [if_neg Bool.false_ne_true]
          repeat (first | refine awp_seq ?_ | refine thenA_normal ?_ | refine a_region ?_ | refine awp_ret ?_ | refine thenA_ret ?_ | refine blockA_ret ?_ | refine awp_skip ?_ | refine r_done ?_ | (refine r_id ?_; first | refine r_ev tab_ok rfl rfl rfl rfl byE rfl ?_) | refine awp_cond_f rfl ?_)
          exact retF1 [sdB S0] [(4, .val (.bool false))] (fits_convM byV byV ⟨trivial, trivial⟩) byO rfl rfl rfl rfl rfl (Sub.refl _)
      · rw [show sysF1 first m S0 = (S0, false) from (if_neg hf).trans (if_neg hf2)]
        repeat (first | refine awp_seq ?_ | refine thenA_normal ?_ | refine a_region ?_ | refine awp_ret ?_ | refine awp_skip ?_ | refine r_done ?_ | (refine r_id ?_; first | refine r_ev tab_ok rfl rfl rfl rfl byE rfl ?_))
        exact retF1 [sdB S0] [(4, .val (.bool false))] (fits_convM byV byV ⟨trivial, trivial⟩) byO rfl rfl rfl rfl rfl (Sub.refl _)
    · rw [show sysF S0 [n, m] = (S0, false) from if_neg hk]
      have hk2 : ¬ ([n, m][Int.toNat 0]'(Nat.succ_pos _)).tok.kind = 1 := hk
      repeat (first | refine awp_seq ?_ | refine thenA_normal ?_ | refine awp_block ?_ | refine a_region ?_ | refine awp_ret ?_ | refine thenA_ret ?_ | refine blockA_ret ?_ | refine r_done ?_ | (refine r_id ?_; first | refine r_ev tab_ok rfl rfl rfl rfl byE rfl ?_ | refine r_idxd tab_ok rfl rfl rfl rfl rfl rfl rfl (by decide) rfl rfl rfl ?_) | refine awp_cond_t rfl ?_ | refine r_pick_t rfl rfl (congrArg (fun b => AV.val (.bool b)) (bnot_f (by omega))) rfl rfl rfl rfl ?_ | refine r_off rfl rfl (congrArg (fun b => AV.val (.bool b)) (bnot_f (by omega))) rfl rfl rfl ?_)
      exact retF1 [sdB S0] [(4, .val (.bool false))] (fits_convM byV byV ⟨trivial, trivial⟩) byO rfl rfl rfl rfl rfl (Sub.refl _)
/-- A sign for a prefix, or a suffix: in which cell. -/
def aroF (S : Sd) (sfx : Bool) (l : List Nd) : Sd × Bool :=
  match l with
  | [n] => if (symF n).2 then (if sfx then { S with suf := (symF n).1, said := S.said ||| 4 } else { S with pre := (symF n).1, said := S.said ||| 2 }, true) else (S, false)
  | _ => (S, false)
set_option maxHeartbeats 8000000 in
theorem prefix_ok (S0 : Sd) (l : List Nd) (hne : l ≠ []) (hl : nszs l < 1099511627776) (hS : S0.said < 1000) : MCalls Tryz.prog 40 [sdB S0] [.ptr 0 0, .sl 7 (l.map nF), .ptr 0 7, .val (.int .i64 2)] [sdB (aroF S0 false l).1] (.val (.bool (aroF S0 false l).2)) := by
  have hlm : (l.map nF).length = l.length := List.length_map _
  have hll := nszs_len l
  refine m_startF Tryz.func40 Tryz.ntmps40 rfl rfl rfl fun S w β => ?_
  match l, hne, hl, hlm, hll with
  | [], hne, _, _, _ => exact absurd rfl hne
  | [n], _, _, _, _ =>
    repeat (first | refine awp_seq ?_ | refine a_region ?_ | refine r_done ?_ | (refine r_id ?_; first | refine r_ev tab_ok rfl rfl rfl rfl byE rfl ?_ | refine r_idxd tab_ok rfl rfl rfl rfl rfl rfl rfl (by decide) rfl rfl rfl ?_))
    refine r_call (symbol_ok n) call13 rfl rfl ⟨Sub.refl _, trivial⟩ rfl rfl rfl rfl ?_
    cases hb : (symF n).2 with
    | true =>
      rw [show aroF S0 false [n] = ({ S0 with pre := (symF n).1, said := S0.said ||| 2 }, true) by simp [aroF, hb]]
      repeat (first | refine awp_seq ?_ | refine thenA_normal ?_ | refine a_region ?_ | refine awp_skip ?_ | refine r_done ?_ | (refine r_id ?_; first | refine r_ev tab_ok rfl rfl rfl rfl byE rfl ?_ | refine r_ld tab_ok rfl rfl rfl rfl rfl ?_ | refine r_st tab_ok rfl rfl rfl rfl ?_ | refine r_pick_f rfl rfl rfl rfl rfl rfl rfl ?_ | refine r_len_on tab_ok rfl rfl rfl rfl rfl rfl rfl rfl rfl ?_ | refine r_ev_on tab_ok rfl rfl rfl rfl rfl rfl (by first | exact trivial | exact ⟨by omega, by omega⟩ | omega) rfl ?_ | refine r_nilck rfl rfl rfl rfl rfl rfl rfl ?_) | refine awp_cond_f rfl ?_)
      refine r_orN rfl rfl rfl rfl (by omega) (by decide) rfl rfl rfl ?_
      repeat (first | refine awp_seq ?_ | refine thenA_normal ?_ | refine a_region ?_ | refine awp_ret ?_ | refine r_done ?_ | (refine r_id ?_; first | refine r_ev tab_ok rfl rfl rfl rfl byE rfl ?_ | refine r_st tab_ok rfl rfl rfl rfl ?_ | refine r_nilck rfl rfl rfl rfl rfl rfl rfl ?_))
      exact retF1 [sdB { S0 with pre := (symF n).1, said := S0.said ||| 2 }] [(8, .val (.bool true))] (fits_convM byV byV ⟨trivial, trivial⟩) byO rfl rfl rfl rfl rfl (Sub.refl _)
    | false =>
      rw [show aroF S0 false [n] = (S0, false) by simp [aroF, hb]]
      repeat (first | refine awp_seq ?_ | refine thenA_normal ?_ | refine a_region ?_ | refine awp_ret ?_ | refine thenA_ret ?_ | refine r_done ?_ | (refine r_id ?_; first | refine r_ev tab_ok rfl rfl rfl rfl byE rfl ?_ | refine r_pick_t rfl rfl rfl rfl rfl rfl rfl ?_ | refine r_off rfl rfl rfl rfl rfl rfl ?_) | refine awp_cond_t rfl ?_)
      exact retF1 [sdB S0] [(8, .val (.bool false))] (fits_convM byV byV ⟨trivial, trivial⟩) byO rfl rfl rfl rfl rfl (Sub.refl _)
  | a :: b :: r, _, hl, hlm, hll =>
    have hne : ¬ (((a :: b :: r).length : Nat) : Int) = 1 := by simp only [List.length_cons]; omega
    rw [show aroF S0 false (a :: b :: r) = (S0, false) from rfl]
    repeat (first | refine awp_seq ?_ | refine a_region ?_ | refine r_done ?_ | (refine r_id ?_; first | refine r_ev tab_ok rfl rfl rfl rfl byE rfl ?_ | refine r_idxd tab_ok rfl rfl rfl rfl rfl rfl rfl (by decide) rfl rfl rfl ?_))
    refine r_call (symbol_ok a) call13 rfl rfl ⟨Sub.refl _, trivial⟩ rfl rfl rfl rfl ?_
    cases hb : (symF a).2 with
    | true =>
      repeat (first | refine awp_seq ?_ | refine thenA_normal ?_ | refine a_region ?_ | refine awp_ret ?_ | refine thenA_ret ?_ | refine r_done ?_ | (refine r_id ?_; first | refine r_ev tab_ok rfl rfl rfl rfl byE rfl ?_ | refine r_pick_f rfl rfl rfl rfl rfl rfl rfl ?_ | refine r_len_on tab_ok rfl rfl rfl rfl rfl rfl rfl rfl rfl ?_ | refine r_ev_on tab_ok rfl rfl rfl rfl rfl rfl (by first | exact trivial | exact ⟨by omega, by omega⟩ | omega) rfl ?_) | refine awp_cond_t rfl ?_)
      exact retF1 [sdB S0] [(8, .val (.bool false))] (fits_convM byV byV ⟨trivial, trivial⟩) byO rfl rfl rfl rfl rfl (Sub.refl _)
    | false =>
      repeat (first | refine awp_seq ?_ | refine thenA_normal ?_ | refine a_region ?_ | refine awp_ret ?_ | refine thenA_ret ?_ | refine r_done ?_ | (refine r_id ?_; first | refine r_ev tab_ok rfl rfl rfl rfl byE rfl ?_ | refine r_pick_t rfl rfl rfl rfl rfl rfl rfl ?_ | refine r_off rfl rfl rfl rfl rfl rfl ?_) | refine awp_cond_t rfl ?_)
      exact retF1 [sdB S0] [(8, .val (.bool false))] (fits_convM byV byV ⟨trivial, trivial⟩) byO rfl rfl rfl rfl rfl (Sub.refl _)
set_option maxHeartbeats 8000000 in
theorem suffix_ok (S0 : Sd) (l : List Nd) (hne : l ≠ []) (hl : nszs l < 1099511627776) (hS : S0.said < 1000) : MCalls Tryz.prog 40 [sdB S0] [.ptr 0 0, .sl 7 (l.map nF), .ptr 0 8, .val (.int .i64 4)] [sdB (aroF S0 true l).1] (.val (.bool (aroF S0 true l).2)) := by
  have hlm : (l.map nF).length = l.length := List.length_map _
  have hll := nszs_len l
  refine m_startF Tryz.func40 Tryz.ntmps40 rfl rfl rfl fun S w β => ?_
  match l, hne, hl, hlm, hll with
  | [], hne, _, _, _ => exact absurd rfl hne
  | [n], _, _, _, _ =>
    repeat (first | refine awp_seq ?_ | refine a_region ?_ | refine r_done ?_ | (refine r_id ?_; first | refine r_ev tab_ok rfl rfl rfl rfl byE rfl ?_ | refine r_idxd tab_ok rfl rfl rfl rfl rfl rfl rfl (by decide) rfl rfl rfl ?_))
    refine r_call (symbol_ok n) call13 rfl rfl ⟨Sub.refl _, trivial⟩ rfl rfl rfl rfl ?_
    cases hb : (symF n).2 with
    | true =>
      rw [show aroF S0 true [n] = ({ S0 with suf := (symF n).1, said := S0.said ||| 4 }, true) by simp [aroF, hb]]
      repeat (first | refine awp_seq ?_ | refine thenA_normal ?_ | refine a_region ?_ | refine awp_skip ?_ | refine r_done ?_ | (refine r_id ?_; first | refine r_ev tab_ok rfl rfl rfl rfl byE rfl ?_ | refine r_ld tab_ok rfl rfl rfl rfl rfl ?_ | refine r_st tab_ok rfl rfl rfl rfl ?_ | refine r_pick_f rfl rfl rfl rfl rfl rfl rfl ?_ | refine r_len_on tab_ok rfl rfl rfl rfl rfl rfl rfl rfl rfl ?_ | refine r_ev_on tab_ok rfl rfl rfl rfl rfl rfl (by first | exact trivial | exact ⟨by omega, by omega⟩ | omega) rfl ?_ | refine r_nilck rfl rfl rfl rfl rfl rfl rfl ?_) | refine awp_cond_f rfl ?_)
      refine r_orN rfl rfl rfl rfl (by omega) (by decide) rfl rfl rfl ?_
      repeat (first | refine awp_seq ?_ | refine thenA_normal ?_ | refine a_region ?_ | refine awp_ret ?_ | refine r_done ?_ | (refine r_id ?_; first | refine r_ev tab_ok rfl rfl rfl rfl byE rfl ?_ | refine r_st tab_ok rfl rfl rfl rfl ?_ | refine r_nilck rfl rfl rfl rfl rfl rfl rfl ?_))
      exact retF1 [sdB { S0 with suf := (symF n).1, said := S0.said ||| 4 }] [(8, .val (.bool true))] (fits_convM byV byV ⟨trivial, trivial⟩) byO rfl rfl rfl rfl rfl (Sub.refl _)
    | false =>
      rw [show aroF S0 true [n] = (S0, false) by simp [aroF, hb]]
      repeat (first | refine awp_seq ?_ | refine thenA_normal ?_ | refine a_region ?_ | refine awp_ret ?_ | refine thenA_ret ?_ | refine r_done ?_ | (refine r_id ?_; first | refine r_ev tab_ok rfl rfl rfl rfl byE rfl ?_ | refine r_pick_t rfl rfl rfl rfl rfl rfl rfl ?_ | refine r_off rfl rfl rfl rfl rfl rfl ?_) | refine awp_cond_t rfl ?_)
      exact retF1 [sdB S0] [(8, .val (.bool false))] (fits_convM byV byV ⟨trivial, trivial⟩) byO rfl rfl rfl rfl rfl (Sub.refl _)
  | a :: b :: r, _, hl, hlm, hll =>
    have hne : ¬ (((a :: b :: r).length : Nat) : Int) = 1 := by simp only [List.length_cons]; omega
    rw [show aroF S0 true (a :: b :: r) = (S0, false) from rfl]
    repeat (first | refine awp_seq ?_ | refine a_region ?_ | refine r_done ?_ | (refine r_id ?_; first | refine r_ev tab_ok rfl rfl rfl rfl byE rfl ?_ | refine r_idxd tab_ok rfl rfl rfl rfl rfl rfl rfl (by decide) rfl rfl rfl ?_))
    refine r_call (symbol_ok a) call13 rfl rfl ⟨Sub.refl _, trivial⟩ rfl rfl rfl rfl ?_
    cases hb : (symF a).2 with
    | true =>
      repeat (first | refine awp_seq ?_ | refine thenA_normal ?_ | refine a_region ?_ | refine awp_ret ?_ | refine thenA_ret ?_ | refine r_done ?_ | (refine r_id ?_; first | refine r_ev tab_ok rfl rfl rfl rfl byE rfl ?_ | refine r_pick_f rfl rfl rfl rfl rfl rfl rfl ?_ | refine r_len_on tab_ok rfl rfl rfl rfl rfl rfl rfl rfl rfl ?_ | refine r_ev_on tab_ok rfl rfl rfl rfl rfl rfl (by first | exact trivial | exact ⟨by omega, by omega⟩ | omega) rfl ?_) | refine awp_cond_t rfl ?_)
      exact retF1 [sdB S0] [(8, .val (.bool false))] (fits_convM byV byV ⟨trivial, trivial⟩) byO rfl rfl rfl rfl rfl (Sub.refl _)
    | false =>
      repeat (first | refine awp_seq ?_ | refine thenA_normal ?_ | refine a_region ?_ | refine awp_ret ?_ | refine thenA_ret ?_ | refine r_done ?_ | (refine r_id ?_; first | refine r_ev tab_ok rfl rfl rfl rfl byE rfl ?_ | refine r_pick_t rfl rfl rfl rfl rfl rfl rfl ?_ | refine r_off rfl rfl rfl rfl rfl rfl ?_) | refine awp_cond_t rfl ?_)
      exact retF1 [sdB S0] [(8, .val (.bool false))] (fits_convM byV byV ⟨trivial, trivial⟩) byO rfl rfl rfl rfl rfl (Sub.refl _)
end Go.Proofs.YtfmafehogfikmaaGreatDoor

/- define: padOf, fallbackOf, symbolsOf, rangeOf; walked. -/
namespace Go.Proofs.YtfmafehogfikmaaGreatDoor
open Go Go.RowKit
set_option maxRecDepth 20000

def padF (S : Sd) (l : List Nd) : Sd × Bool := if (weiF l).2 then ({ S with pad := (weiF l).1.1, padSign := (weiF l).1.2, said := S.said ||| 16 }, true) else (S, false)
set_option maxHeartbeats 4000000 in
theorem pad_ok (S0 : Sd) (l : List Nd) (hl : l.length ≤ 1099511627776) (hS : S0.said < 1000) : MCalls Tryz.prog 42 [sdB S0] [.ptr 0 0, .sl 7 (l.map nF)] [sdB (padF S0 l).1] (.val (.bool (padF S0 l).2)) := by
  refine m_startF Tryz.func42 Tryz.ntmps42 rfl rfl rfl fun S w β => ?_
  rw [padF]
  repeat (first | refine awp_seq ?_ | refine a_region ?_ | refine r_done ?_ | (refine r_id ?_; first | refine r_ev tab_ok rfl rfl rfl rfl byE rfl ?_))
  refine r_call (weighed_ok l hl) call73 rfl rfl ⟨Sub.refl _, trivial⟩ rfl rfl rfl rfl ?_
  cases hb : (weiF l).2 with
  | true =>
    rw [if_pos rfl]
    repeat (first | refine awp_seq ?_ | refine thenA_normal ?_ | refine a_region ?_ | refine r_done ?_ | (refine r_id ?_; first | refine r_ev tab_ok rfl rfl rfl rfl byE rfl ?_ | refine r_ld tab_ok rfl rfl rfl rfl rfl ?_ | refine r_st tab_ok rfl rfl rfl rfl ?_ | refine r_nilck rfl rfl rfl rfl rfl rfl rfl ?_) | refine awp_cond_t rfl ?_)
    refine r_orN rfl rfl rfl rfl (by omega) (by decide) rfl rfl rfl ?_
    repeat (first | refine awp_seq ?_ | refine thenA_normal ?_ | refine a_region ?_ | refine awp_ret ?_ | refine r_done ?_ | (refine r_id ?_; first | refine r_ev tab_ok rfl rfl rfl rfl byE rfl ?_ | refine r_st tab_ok rfl rfl rfl rfl ?_ | refine r_nilck rfl rfl rfl rfl rfl rfl rfl ?_))
    exact retF1 [sdB { S0 with pad := (weiF l).1.1, padSign := (weiF l).1.2, said := S0.said ||| 16 }] [(4, .val (.bool true))] (fits_convM byV byV ⟨trivial, trivial⟩) byO rfl rfl rfl rfl rfl (Sub.refl _)
  | false =>
    rw [if_neg Bool.false_ne_true]
    repeat (first | refine awp_seq ?_ | refine thenA_normal ?_ | refine a_region ?_ | refine awp_ret ?_ | refine awp_skip ?_ | refine r_done ?_ | (refine r_id ?_; first | refine r_ev tab_ok rfl rfl rfl rfl byE rfl ?_) | refine awp_cond_f rfl ?_)
    exact retF1 [sdB S0] [(4, .val (.bool false))] (fits_convM byV byV ⟨trivial, trivial⟩) byO rfl rfl rfl rfl rfl (Sub.refl _)
def falF (S : Sd) (l : List Nd) : Sd × Bool := if (nmF l).2 then ({ S with fall := (nmF l).1, said := S.said ||| 32 }, true) else (S, false)
set_option maxHeartbeats 4000000 in
theorem fallback_ok (S0 : Sd) (l : List Nd) (hl : nszs l < 1099511627776) (ht : ∀ n ∈ l, n.tok.text.size ≤ 1099511627776) (hS : S0.said < 1000) : MCalls Tryz.prog 43 [sdB S0] [.ptr 0 0, .sl 7 (l.map nF)] [sdB (falF S0 l).1] (.val (.bool (falF S0 l).2)) := by
  refine m_startF Tryz.func43 Tryz.ntmps43 rfl rfl rfl fun S w β => ?_
  rw [falF]
  repeat (first | refine awp_seq ?_ | refine a_region ?_ | refine r_done ?_ | (refine r_id ?_; first | refine r_ev tab_ok rfl rfl rfl rfl byE rfl ?_))
  refine r_call (dname_ok l hl ht) call11 rfl rfl ⟨Sub.refl _, trivial⟩ rfl rfl rfl rfl ?_
  cases hb : (nmF l).2 with
  | true =>
    rw [if_pos rfl]
    repeat (first | refine awp_seq ?_ | refine thenA_normal ?_ | refine a_region ?_ | refine r_done ?_ | (refine r_id ?_; first | refine r_ev tab_ok rfl rfl rfl rfl byE rfl ?_ | refine r_ld tab_ok rfl rfl rfl rfl rfl ?_ | refine r_st tab_ok rfl rfl rfl rfl ?_ | refine r_nilck rfl rfl rfl rfl rfl rfl rfl ?_) | refine awp_cond_t rfl ?_)
    refine r_orN rfl rfl rfl rfl (by omega) (by decide) rfl rfl rfl ?_
    repeat (first | refine awp_seq ?_ | refine thenA_normal ?_ | refine a_region ?_ | refine awp_ret ?_ | refine r_done ?_ | (refine r_id ?_; first | refine r_ev tab_ok rfl rfl rfl rfl byE rfl ?_ | refine r_st tab_ok rfl rfl rfl rfl ?_ | refine r_nilck rfl rfl rfl rfl rfl rfl rfl ?_))
    exact retF1 [sdB { S0 with fall := (nmF l).1, said := S0.said ||| 32 }] [(4, .val (.bool true))] (fits_convM byV byV ⟨trivial, trivial⟩) byO rfl rfl rfl rfl rfl (Sub.refl _)
  | false =>
    rw [if_neg Bool.false_ne_true]
    repeat (first | refine awp_seq ?_ | refine thenA_normal ?_ | refine a_region ?_ | refine awp_ret ?_ | refine awp_skip ?_ | refine r_done ?_ | (refine r_id ?_; first | refine r_ev tab_ok rfl rfl rfl rfl byE rfl ?_) | refine awp_cond_f rfl ?_)
    exact retF1 [sdB S0] [(4, .val (.bool false))] (fits_convM byV byV ⟨trivial, trivial⟩) byO rfl rfl rfl rfl rfl (Sub.refl _)
def symF1 : List Nd → List ByteArray → Option (List ByteArray)
  | [], acc => some acc
  | n :: r, acc => if (symF n).2 then symF1 r (acc ++ [(symF n).1]) else none
def symsF (S : Sd) (l : List Nd) : Sd × Bool :=
  match symF1 l [] with
  | none => (S, false)
  | some a => ({ S with syms := a, symbolic := true }, true)
structure SyS (l : List Nd) where
  i : Nat
  acc : List ByteArray
  hi : i ≤ l.length
  ha : acc.length ≤ i
  eq : symF1 (l.drop i) acc = symF1 l []
set_option maxHeartbeats 4000000 in
theorem symbols_ok (S0 : Sd) (l : List Nd) (hl : l.length ≤ 1099511627776) : MCalls Tryz.prog 44 [sdB S0] [.ptr 0 0, .sl 7 (l.map nF)] [sdB (symsF S0 l).1] (.val (.bool (symsF S0 l).2)) := by
  have hlm : (l.map nF).length = l.length := List.length_map _
  refine m_startF Tryz.func44 Tryz.ntmps44 rfl rfl rfl fun S w β => ?_
  rw [symsF]
  repeat (first | refine awp_seq ?_ | refine thenA_normal ?_ | refine awp_block ?_ | refine a_region ?_ | refine r_done ?_ | (refine r_id ?_; first | refine r_len tab_ok rfl rfl rfl rfl rfl rfl rfl ?_ | refine r_ev tab_ok rfl rfl rfl rfl byE rfl ?_))
  refine a_loop (σ := SyS l) (fun x => [sdB S0, .row 0 9 1 (x.acc.map sF)]) (fun x => [(0, .ptr 0 0), (5, .row 1 0), (10, .sl 7 (l.map nF)), (11, .val (.int .i64 l.length)), (12, .val (.int .i64 x.i))]) (fun x => l.length - x.i) ⟨0, [], Nat.zero_le _, Nat.le_refl _, rfl⟩ (fits_convM byV ⟨c_ptr rfl rfl rfl rfl, c_nil rfl rfl, c_sub rfl (Sub.refl _) rfl, c_sub rfl (Sub.refl _) rfl, c_sub rfl (Sub.refl _) rfl, trivial⟩ ⟨trivial, trivial⟩) ?_
  rintro ⟨i, acc, hi, ha, heq⟩
  dsimp only
  rw [← heq]
  have hal : (acc.map sF).length = acc.length := List.length_map _
  repeat (first | refine awp_seq ?_ | refine a_region ?_ | refine r_done ?_ | (refine r_id ?_; first | refine r_ev tab_ok rfl rfl rfl rfl byE rfl ?_))
  refine awp_cond_p rfl (fun hlt => ?_) (fun hge => ?_)
  · have hi' : i < l.length := by omega
    have hin : ((i : Nat) : Int).toNat < l.length := by simp only [Int.toNat_natCast]; exact hi'
    have hdr : l.drop i = l[i] :: l.drop (i + 1) := List.drop_eq_getElem_cons hi'
    rw [hdr] at heq ⊢
    repeat (first | refine awp_seq ?_ | refine awp_block ?_ | refine a_region ?_ | refine awp_skip ?_ | refine r_done ?_ | (refine r_id ?_; first | refine r_ev tab_ok rfl rfl rfl rfl byE rfl ?_ | refine r_ld tab_ok rfl rfl rfl rfl rfl ?_ | refine r_idx tab_ok rfl rfl rfl rfl rfl rfl rfl (by first | exact ⟨by omega, by omega⟩ | (simp; omega)) rfl rfl ?_ | refine r_wr tab_ok rfl rfl rfl rfl rfl ?_ | refine r_st tab_ok rfl rfl rfl rfl ?_))
    simp only [Int.toNat_natCast]
    refine r_call (symbol_ok l[i]) call13 rfl rfl ⟨Sub.refl _, trivial⟩ rfl rfl rfl rfl ?_
    cases hb : (symF l[i]).2 with
    | false =>
      rw [show symF1 (l[i] :: l.drop (i + 1)) acc = none by rw [symF1, hb, if_neg Bool.false_ne_true]]
      repeat (first | refine awp_seq ?_ | refine thenA_normal ?_ | refine a_region ?_ | refine awp_ret ?_ | refine thenA_ret ?_ | refine blockA_ret ?_ | refine r_done ?_ | (refine r_id ?_; first | refine r_ev tab_ok rfl rfl rfl rfl byE rfl ?_) | refine awp_cond_t rfl ?_)
      exact retF1 [sdB S0, .gone, .gone] [(4, .val (.bool false))] (fits_convM byV byV ⟨trivial, trivial⟩) byO rfl rfl rfl rfl rfl (Sub.refl _)
    | true =>
      repeat (first | refine awp_seq ?_ | refine thenA_normal ?_ | refine a_region ?_ | refine awp_skip ?_ | refine r_done ?_ | (refine r_id ?_; first | refine r_ev tab_ok rfl rfl rfl rfl byE rfl ?_ | refine r_built tab_ok rfl rfl rfl rfl rfl rfl rfl rfl rfl ?_ | refine r_append tab_ok rfl rfl rfl rfl rfl rfl rfl rfl rfl (by first | omega | (simp; omega)) rfl ?_) | refine awp_cond_f rfl ?_)
      refine ⟨⟨i + 1, acc ++ [(symF l[i]).1], hi', by simp; omega, by rw [← heq, symF1, hb, if_pos rfl]⟩, by dsimp only; omega, ?_⟩
      dsimp only
      rw [show (acc ++ [((symF l[i]).1 : ByteArray)]).map sF = acc.map sF ++ [sF (symF l[i]).1] from List.map_append]
      exact fits_trans (s' := ⟨[sdB S0, .row 0 9 1 (acc.map sF ++ [sF (symF l[i]).1]), .gone], [(0, .ptr 0 0), (5, .row 1 0), (10, .sl 7 (l.map nF)), (11, .val (.int .i64 l.length)), (12, .val (.int .i64 (i + 1 : Nat)))]⟩) (fits_convM byV byV ⟨trivial, trivial⟩) (fits_drop 2 rfl rfl byK)
  · have : i = l.length := by omega
    subst this
    rw [show symF1 (l.drop l.length) acc = some acc by rw [List.drop_length, symF1]]
    repeat (first | refine awp_seq ?_ | refine awp_exit ?_)
    refine awp_fits (s' := ⟨[sdB S0, .gone], [(0, .ptr 0 0), (5, .sl 1 (acc.map sF))]⟩) (fits_convM byV ⟨c_ptr rfl rfl rfl rfl, c_thaw rfl rfl rfl, trivial⟩ ⟨trivial, trivial⟩) ?_
    repeat (first | refine awp_seq ?_ | refine thenA_normal ?_ | refine a_region ?_ | refine awp_ret ?_ | refine r_done ?_ | (refine r_id ?_; first | refine r_ev tab_ok rfl rfl rfl rfl byE rfl ?_ | refine r_st tab_ok rfl rfl rfl rfl ?_ | refine r_nilck rfl rfl rfl rfl rfl rfl rfl ?_))
    exact retF1 [sdB { S0 with syms := acc, symbolic := true }, .gone] [(4, .val (.bool true))] (fits_convM byV byV ⟨trivial, trivial⟩) byO rfl rfl rfl rfl rfl (Sub.refl _)
def autS1 : ByteArray := ⟨#[97, 117, 116, 111]⟩
def rgF1 : List (List Nd) → List (Int × Int) → Option (List (Int × Int))
  | [], acc => some acc
  | [a, b] :: r, acc => if (bndF a (-2147483648)).2 && (bndF b 2147483647).2 && decide ((bndF a (-2147483648)).1 ≤ (bndF b 2147483647).1) then rgF1 r (acc ++ [((bndF a (-2147483648)).1, (bndF b 2147483647).1)]) else none
  | _, _ => none
def isAut : List Nd → Bool
  | [n] => isWd n autS1
  | _ => false
def rngF (S : Sd) (l : List Nd) : Sd × Bool :=
  if isAut l then ({ S with auto := true, range := [], said := S.said ||| 8 }, true) else
  match rgF1 (splitF l) [] with
  | none => (S, false)
  | some a => ({ S with auto := false, range := a, said := S.said ||| 8 }, true)
end Go.Proofs.YtfmafehogfikmaaGreatDoor

/- define: rangeOf; walked. -/
namespace Go.Proofs.YtfmafehogfikmaaGreatDoor
open Go Go.RowKit
set_option maxRecDepth 20000

structure RgS (ps : List (List Nd)) where
  i : Nat
  acc : List (Int × Int)
  hi : i ≤ ps.length
  ha : acc.length ≤ i
  eq : rgF1 (ps.drop i) acc = rgF1 ps []
set_option maxHeartbeats 16000000 in
theorem range_0 (S0 : Sd) (l : List Nd) (hl0 : l = []) (hl : nszs l < 1099511627776) (ht : ∀ n ∈ l, n.tok.text.size ≤ 1099511627776) (hS : S0.said < 1000) : MCalls Tryz.prog 41 [sdB S0] [.ptr 0 0, .sl 7 (l.map nF)] [sdB (rngF S0 l).1] (.val (.bool (rngF S0 l).2)) := by
  have hlm : (l.map nF).length = l.length := List.length_map _
  have hll := nszs_len l
  have hpt : ∀ p ∈ splitF l, ∀ n ∈ p, n.tok.text.size ≤ 1099511627776 := fun p h n hn => ht n ((splitF_in h).2 n hn)
  have hpb : (splitF l).length ≤ 1099511627776 := by
    rw [splitF, splitG_len]
    have := List.countP_le_length (p := cmB) (l := l)
    simp only [List.length_nil]
    omega
  obtain ⟨ps, hps⟩ : ∃ ps, ps = splitF l := ⟨_, rfl⟩
  rw [← hps] at hpt hpb
  have hpm : (ps.map nds).length = ps.length := List.length_map _
  refine m_startF Tryz.func41 Tryz.ntmps41 rfl rfl rfl fun S w β => ?_
  rw [rngF, ← hps]
  subst hl0
  rw [show isAut [] = false from rfl, if_neg Bool.false_ne_true]
  repeat (first | refine awp_seq ?_ | refine thenA_normal ?_ | refine a_region ?_ | refine awp_skip ?_ | refine r_done ?_ | (refine r_id ?_; first | refine r_len tab_ok rfl rfl rfl rfl rfl rfl rfl ?_ | refine r_ev tab_ok rfl rfl rfl rfl byE rfl ?_ | refine r_ev_cnd tab_ok rfl rfl rfl rfl rfl rfl byC (by first | exact fun _ => trivial | (intro h; simp at h; first | exact ⟨by omega, by omega⟩ | omega)) rfl ?_ | refine r_idx_cnd' tab_ok rfl rfl rfl rfl rfl rfl rfl byC rfl rfl (by first | (intro h; simp at h; exact ⟨by omega, by omega⟩) | (intro h; simp only [Bool.and_eq_true, Bool.or_eq_false_iff, beq_iff_eq, decide_eq_false_iff_not, decide_eq_true_eq] at h; exact ⟨by omega, by omega⟩)) rfl rfl ?_ | refine r_pick_f rfl rfl rfl rfl rfl rfl rfl ?_ | refine r_off rfl rfl rfl rfl rfl rfl ?_) | refine awp_cond_f rfl ?_)
  refine r_call (split_ok 1099511627776 _ hl (Nat.le_refl _)) call71 rfl rfl ⟨Sub.refl _, trivial⟩ rfl rfl rfl rfl ?_
  rw [← hps]
  repeat (first | refine thenA_normal ?_ | refine awp_block ?_ | refine r_done ?_ | (refine r_id ?_; first | refine r_len tab_ok rfl rfl rfl rfl rfl rfl rfl ?_ | refine r_ev tab_ok rfl rfl rfl rfl byE rfl ?_))
  refine a_loop (σ := RgS ps) (fun x => [sdB S0, .row 0 54 2 (x.acc.map rgD)]) (fun x => [(0, .ptr 0 0), (5, .row 1 0), (39, .sl 1 (ps.map nds)), (40, .val (.int .i64 ps.length)), (41, .val (.int .i64 x.i))]) (fun x => ps.length - x.i) ⟨0, [], Nat.zero_le _, Nat.le_refl _, rfl⟩ (fits_convM byV ⟨c_ptr rfl rfl rfl rfl, c_nil rfl rfl, c_sub rfl (Sub.refl _) rfl, c_sub rfl (Sub.of_eq (by rw [← hpm]; rfl)) rfl, c_sub rfl (Sub.refl _) rfl, trivial⟩ ⟨trivial, trivial⟩) ?_
  rintro ⟨i, acc, hi, ha, heq⟩
  dsimp only
  rw [← heq]
  have hal : (acc.map rgD).length = acc.length := List.length_map _
  repeat (first | refine awp_seq ?_ | refine a_region ?_ | refine r_done ?_ | (refine r_id ?_; first | refine r_ev tab_ok rfl rfl rfl rfl byE rfl ?_))
  refine awp_cond_p rfl (fun hlt => ?_) (fun hge => ?_)
  · have hi' : i < ps.length := by omega
    have hin : ((i : Nat) : Int).toNat < ps.length := by simp only [Int.toNat_natCast]; exact hi'
    have hdr : ps.drop i = ps[i] :: ps.drop (i + 1) := List.drop_eq_getElem_cons hi'
    have hpi := hpt ps[i] (List.getElem_mem hi')
    rw [hdr] at heq ⊢
    repeat (first | refine awp_seq ?_ | refine thenA_normal ?_ | refine awp_block ?_ | refine a_region ?_ | refine awp_skip ?_ | refine r_done ?_ | (refine r_id ?_; first | refine r_len tab_ok rfl rfl rfl rfl rfl rfl rfl ?_ | refine r_ev tab_ok rfl rfl rfl rfl byE rfl ?_ | refine r_idx tab_ok rfl rfl rfl rfl rfl rfl rfl (by first | exact ⟨by omega, by omega⟩ | (simp; omega)) rfl rfl ?_))
    obtain ⟨p, hp⟩ : ∃ p, p = ps[((i : Nat) : Int).toNat]'hin := ⟨_, rfl⟩
    rw [← hp]
    have hp2 : ps[i] = p := by rw [hp]; simp only [Int.toNat_natCast]
    rw [hp2] at hpi heq ⊢
    clear hp hp2 hdr
    have hpl : (p.map nF).length = p.length := List.length_map _
    match p, hpi, heq, hpl with
    | [], _, heq, _ =>
      rw [show rgF1 ([] :: ps.drop (i + 1)) acc = none from rfl]
      repeat (first | refine awp_seq ?_ | refine thenA_normal ?_ | refine a_region ?_ | refine awp_ret ?_ | refine thenA_ret ?_ | refine blockA_ret ?_ | refine r_done ?_ | (refine r_id ?_; first | refine r_ev tab_ok rfl rfl rfl rfl byE rfl ?_) | refine awp_cond_t rfl ?_)
      exact retF1 [sdB S0, .gone] [(4, .val (.bool false))] (fits_convM byV byV ⟨trivial, trivial⟩) byO rfl rfl rfl rfl rfl (Sub.refl _)
    | [_], _, heq, _ =>
      rw [show rgF1 ([_] :: ps.drop (i + 1)) acc = none from rfl]
      repeat (first | refine awp_seq ?_ | refine thenA_normal ?_ | refine a_region ?_ | refine awp_ret ?_ | refine thenA_ret ?_ | refine blockA_ret ?_ | refine r_done ?_ | (refine r_id ?_; first | refine r_ev tab_ok rfl rfl rfl rfl byE rfl ?_) | refine awp_cond_t rfl ?_)
      exact retF1 [sdB S0, .gone] [(4, .val (.bool false))] (fits_convM byV byV ⟨trivial, trivial⟩) byO rfl rfl rfl rfl rfl (Sub.refl _)
    | a :: b :: c :: r, _, heq, hpl =>
      have hne : ¬ (((a :: b :: c :: r).length : Nat) : Int) = 2 := by simp only [List.length_cons]; omega
      rw [show rgF1 ((a :: b :: c :: r) :: ps.drop (i + 1)) acc = none from rfl]
      repeat (first | refine awp_seq ?_ | refine thenA_normal ?_ | refine a_region ?_ | refine awp_ret ?_ | refine thenA_ret ?_ | refine blockA_ret ?_ | refine r_done ?_ | (refine r_id ?_; first | refine r_ev tab_ok rfl rfl rfl rfl byE rfl ?_) | refine awp_cond_t rfl ?_)
      exact retF1 [sdB S0, .gone] [(4, .val (.bool false))] (fits_convM byV byV ⟨trivial, trivial⟩) byO rfl rfl rfl rfl rfl (Sub.refl _)
    | [a, b], hpi, heq, _ =>
      rw [show rgF1 ([a, b] :: ps.drop (i + 1)) acc = if (bndF a (-2147483648)).2 && (bndF b 2147483647).2 && decide ((bndF a (-2147483648)).1 ≤ (bndF b 2147483647).1) then rgF1 (ps.drop (i + 1)) (acc ++ [((bndF a (-2147483648)).1, (bndF b 2147483647).1)]) else none from rfl] at heq ⊢
      repeat (first | refine awp_seq ?_ | refine a_region ?_ | refine awp_skip ?_ | (refine r_id ?_; first | refine r_ev tab_ok rfl rfl rfl rfl byE rfl ?_ | refine r_idxd tab_ok rfl rfl rfl rfl rfl rfl rfl (by decide) rfl rfl rfl ?_) | refine awp_cond_f rfl ?_)
      refine r_call (bound_ok a (-2147483648) (hpi a (by simp))) call72 rfl rfl ⟨Sub.refl _, Sub.refl _, trivial⟩ rfl rfl rfl rfl ?_
      repeat (first | refine awp_seq ?_ | refine a_region ?_ | refine r_done ?_ | (refine r_id ?_; first | refine r_ev tab_ok rfl rfl rfl rfl byE rfl ?_ | refine r_idxd tab_ok rfl rfl rfl rfl rfl rfl rfl (by decide) rfl rfl rfl ?_))
      refine r_call (bound_ok b 2147483647 (hpi b (by simp))) call72 rfl rfl ⟨Sub.refl _, Sub.refl _, trivial⟩ rfl rfl rfl rfl ?_
      cases hA : (bndF a (-2147483648)).2 with
      | false =>
        rw [Bool.false_and, Bool.false_and, if_neg Bool.false_ne_true]
        repeat (first | refine awp_seq ?_ | refine thenA_normal ?_ | refine a_region ?_ | refine awp_ret ?_ | refine thenA_ret ?_ | refine blockA_ret ?_ | refine r_done ?_ | (refine r_id ?_; first | refine r_ev tab_ok rfl rfl rfl rfl byE rfl ?_ | refine r_ev_cnd tab_ok rfl rfl rfl rfl rfl rfl byC (by first | exact fun _ => trivial | (intro h; simp at h; first | exact ⟨by omega, by omega⟩ | omega)) rfl ?_ | refine r_or rfl rfl rfl rfl rfl rfl rfl rfl ?_) | refine awp_cond_t rfl ?_)
        exact retF1 [sdB S0, .gone] [(4, .val (.bool false))] (fits_convM byV byV ⟨trivial, trivial⟩) byO rfl rfl rfl rfl rfl (Sub.refl _)
      | true =>
        cases hB : (bndF b 2147483647).2 with
        | false =>
          rw [Bool.true_and, Bool.false_and, if_neg Bool.false_ne_true]
          repeat (first | refine awp_seq ?_ | refine thenA_normal ?_ | refine a_region ?_ | refine awp_ret ?_ | refine thenA_ret ?_ | refine blockA_ret ?_ | refine r_done ?_ | (refine r_id ?_; first | refine r_ev tab_ok rfl rfl rfl rfl byE rfl ?_ | refine r_ev_cnd tab_ok rfl rfl rfl rfl rfl rfl byC (by first | exact fun _ => trivial | (intro h; simp at h; first | exact ⟨by omega, by omega⟩ | omega)) rfl ?_ | refine r_or rfl rfl rfl rfl rfl rfl rfl rfl ?_) | refine awp_cond_t rfl ?_)
          exact retF1 [sdB S0, .gone] [(4, .val (.bool false))] (fits_convM byV byV ⟨trivial, trivial⟩) byO rfl rfl rfl rfl rfl (Sub.refl _)
        | true =>
          rw [hA, hB] at heq
          by_cases hle : (bndF a (-2147483648)).1 ≤ (bndF b 2147483647).1
          · rw [Bool.true_and, Bool.true_and, decide_eq_true hle, if_pos rfl] at heq ⊢
            have hgt : ¬ (bndF b 2147483647).1 < (bndF a (-2147483648)).1 := by omega
            repeat (first | refine awp_seq ?_ | refine thenA_normal ?_ | refine a_region ?_ | refine r_done ?_ | (refine r_id ?_; first | refine r_ev tab_ok rfl rfl rfl rfl byE rfl ?_ | refine r_ev_cnd tab_ok rfl rfl rfl rfl rfl rfl byC (by first | exact fun _ => trivial | (intro h; simp at h; first | exact ⟨by omega, by omega⟩ | omega)) rfl ?_ | refine r_or rfl rfl rfl rfl rfl rfl rfl rfl ?_))
            refine awp_cond_p rfl (fun h => absurd h hgt) (fun _ => ?_)
            repeat (first | refine thenA_normal ?_ | refine a_region ?_ | refine awp_skip ?_ | refine r_done ?_ | (refine r_id ?_; first | refine r_ev tab_ok rfl rfl rfl rfl byE rfl ?_ | refine r_build tab_ok rfl rfl rfl rfl rfl rfl ?_ | refine r_built tab_ok rfl rfl rfl rfl rfl rfl rfl rfl rfl ?_ | refine r_append tab_ok rfl rfl rfl rfl rfl rfl rfl rfl rfl (by first | omega | (simp; omega)) rfl ?_))
            refine ⟨⟨i + 1, acc ++ [((bndF a (-2147483648)).1, (bndF b 2147483647).1)], hi', by simp; omega, by rw [heq]⟩, by dsimp only; omega, ?_⟩
            dsimp only
            rw [show (acc ++ [((bndF a (-2147483648)).1, (bndF b 2147483647).1)]).map rgD = acc.map rgD ++ [rgD ((bndF a (-2147483648)).1, (bndF b 2147483647).1)] from List.map_append]
            exact fits_convM byV byV ⟨trivial, trivial⟩
          · rw [Bool.true_and, Bool.true_and, decide_eq_false hle, if_neg Bool.false_ne_true]
            have hgt : (bndF b 2147483647).1 < (bndF a (-2147483648)).1 := by omega
            repeat (first | refine awp_seq ?_ | refine thenA_normal ?_ | refine a_region ?_ | refine r_done ?_ | (refine r_id ?_; first | refine r_ev tab_ok rfl rfl rfl rfl byE rfl ?_ | refine r_ev_cnd tab_ok rfl rfl rfl rfl rfl rfl byC (by first | exact fun _ => trivial | (intro h; simp at h; first | exact ⟨by omega, by omega⟩ | omega)) rfl ?_ | refine r_or rfl rfl rfl rfl rfl rfl rfl rfl ?_))
            refine awp_cond_p rfl (fun _ => ?_) (fun h => absurd hgt h)
            repeat (first | refine awp_seq ?_ | refine thenA_normal ?_ | refine a_region ?_ | refine awp_ret ?_ | refine thenA_ret ?_ | refine blockA_ret ?_ | refine r_done ?_ | (refine r_id ?_; first | refine r_ev tab_ok rfl rfl rfl rfl byE rfl ?_))
            exact retF1 [sdB S0, .gone] [(4, .val (.bool false))] (fits_convM byV byV ⟨trivial, trivial⟩) byO rfl rfl rfl rfl rfl (Sub.refl _)
  · have : i = ps.length := by omega
    subst this
    rw [show rgF1 (ps.drop ps.length) acc = some acc by rw [List.drop_length, rgF1]]
    repeat (first | refine awp_seq ?_ | refine awp_exit ?_)
    refine awp_fits (s' := ⟨[sdB S0, .gone], [(0, .ptr 0 0), (5, .sl 2 (acc.map rgD))]⟩) (fits_convM byV ⟨c_ptr rfl rfl rfl rfl, c_thaw rfl rfl rfl, trivial⟩ ⟨trivial, trivial⟩) ?_
    repeat (first | refine awp_seq ?_ | refine a_region ?_ | refine r_done ?_ | (refine r_id ?_; first | refine r_ev tab_ok rfl rfl rfl rfl byE rfl ?_ | refine r_ld tab_ok rfl rfl rfl rfl rfl ?_ | refine r_st tab_ok rfl rfl rfl rfl ?_ | refine r_nilck rfl rfl rfl rfl rfl rfl rfl ?_))
    refine r_orN rfl rfl rfl rfl (by omega) (by decide) rfl rfl rfl ?_
    repeat (first | refine awp_seq ?_ | refine thenA_normal ?_ | refine a_region ?_ | refine awp_ret ?_ | refine r_done ?_ | (refine r_id ?_; first | refine r_ev tab_ok rfl rfl rfl rfl byE rfl ?_ | refine r_st tab_ok rfl rfl rfl rfl ?_ | refine r_nilck rfl rfl rfl rfl rfl rfl rfl ?_))
    exact retF1 [sdB { S0 with auto := false, range := acc, said := S0.said ||| 8 }, .gone] [(4, .val (.bool true))] (fits_convM byV byV ⟨trivial, trivial⟩) byO rfl rfl rfl rfl rfl (Sub.refl _)
set_option maxHeartbeats 16000000 in
theorem range_2 (S0 : Sd) (a b : Nd) (r : List Nd) (l : List Nd) (hl0 : l = a :: b :: r) (hl : nszs l < 1099511627776) (ht : ∀ n ∈ l, n.tok.text.size ≤ 1099511627776) (hS : S0.said < 1000) : MCalls Tryz.prog 41 [sdB S0] [.ptr 0 0, .sl 7 (l.map nF)] [sdB (rngF S0 l).1] (.val (.bool (rngF S0 l).2)) := by
  have hlm : (l.map nF).length = l.length := List.length_map _
  have hll := nszs_len l
  have hpt : ∀ p ∈ splitF l, ∀ n ∈ p, n.tok.text.size ≤ 1099511627776 := fun p h n hn => ht n ((splitF_in h).2 n hn)
  have hpb : (splitF l).length ≤ 1099511627776 := by
    rw [splitF, splitG_len]
    have := List.countP_le_length (p := cmB) (l := l)
    simp only [List.length_nil]
    omega
  obtain ⟨ps, hps⟩ : ∃ ps, ps = splitF l := ⟨_, rfl⟩
  rw [← hps] at hpt hpb
  have hpm : (ps.map nds).length = ps.length := List.length_map _
  refine m_startF Tryz.func41 Tryz.ntmps41 rfl rfl rfl fun S w β => ?_
  rw [rngF, ← hps]
  subst hl0
  rw [show isAut (a :: b :: r) = false from rfl, if_neg Bool.false_ne_true]
  have hne1 : ¬ (((a :: b :: r).length : Nat) : Int) = 1 := by simp only [List.length_cons]; omega
  repeat (first | refine awp_seq ?_ | refine thenA_normal ?_ | refine a_region ?_ | refine awp_skip ?_ | refine r_done ?_ | (refine r_id ?_; first | refine r_len tab_ok rfl rfl rfl rfl rfl rfl rfl ?_ | refine r_ev tab_ok rfl rfl rfl rfl byE rfl ?_ | refine r_pick_f rfl rfl rfl rfl rfl rfl rfl ?_ | refine r_off rfl rfl rfl rfl rfl rfl ?_) | refine awp_cond_f rfl ?_)
  refine r_call (split_ok 1099511627776 _ hl (Nat.le_refl _)) call71 rfl rfl ⟨Sub.refl _, trivial⟩ rfl rfl rfl rfl ?_
  rw [← hps]
  repeat (first | refine thenA_normal ?_ | refine awp_block ?_ | refine r_done ?_ | (refine r_id ?_; first | refine r_len tab_ok rfl rfl rfl rfl rfl rfl rfl ?_ | refine r_ev tab_ok rfl rfl rfl rfl byE rfl ?_))
  refine a_loop (σ := RgS ps) (fun x => [sdB S0, .row 0 54 2 (x.acc.map rgD)]) (fun x => [(0, .ptr 0 0), (5, .row 1 0), (39, .sl 1 (ps.map nds)), (40, .val (.int .i64 ps.length)), (41, .val (.int .i64 x.i))]) (fun x => ps.length - x.i) ⟨0, [], Nat.zero_le _, Nat.le_refl _, rfl⟩ (fits_convM byV ⟨c_ptr rfl rfl rfl rfl, c_nil rfl rfl, c_sub rfl (Sub.refl _) rfl, c_sub rfl (Sub.of_eq (by rw [← hpm]; rfl)) rfl, c_sub rfl (Sub.refl _) rfl, trivial⟩ ⟨trivial, trivial⟩) ?_
  rintro ⟨i, acc, hi, ha, heq⟩
  dsimp only
  rw [← heq]
  have hal : (acc.map rgD).length = acc.length := List.length_map _
  repeat (first | refine awp_seq ?_ | refine a_region ?_ | refine r_done ?_ | (refine r_id ?_; first | refine r_ev tab_ok rfl rfl rfl rfl byE rfl ?_))
  refine awp_cond_p rfl (fun hlt => ?_) (fun hge => ?_)
  · have hi' : i < ps.length := by omega
    have hin : ((i : Nat) : Int).toNat < ps.length := by simp only [Int.toNat_natCast]; exact hi'
    have hdr : ps.drop i = ps[i] :: ps.drop (i + 1) := List.drop_eq_getElem_cons hi'
    have hpi := hpt ps[i] (List.getElem_mem hi')
    rw [hdr] at heq ⊢
    repeat (first | refine awp_seq ?_ | refine thenA_normal ?_ | refine awp_block ?_ | refine a_region ?_ | refine awp_skip ?_ | refine r_done ?_ | (refine r_id ?_; first | refine r_len tab_ok rfl rfl rfl rfl rfl rfl rfl ?_ | refine r_ev tab_ok rfl rfl rfl rfl byE rfl ?_ | refine r_idx tab_ok rfl rfl rfl rfl rfl rfl rfl (by first | exact ⟨by omega, by omega⟩ | (simp; omega)) rfl rfl ?_))
    obtain ⟨p, hp⟩ : ∃ p, p = ps[((i : Nat) : Int).toNat]'hin := ⟨_, rfl⟩
    rw [← hp]
    have hp2 : ps[i] = p := by rw [hp]; simp only [Int.toNat_natCast]
    rw [hp2] at hpi heq ⊢
    clear hp hp2 hdr
    have hpl : (p.map nF).length = p.length := List.length_map _
    match p, hpi, heq, hpl with
    | [], _, heq, _ =>
      rw [show rgF1 ([] :: ps.drop (i + 1)) acc = none from rfl]
      repeat (first | refine awp_seq ?_ | refine thenA_normal ?_ | refine a_region ?_ | refine awp_ret ?_ | refine thenA_ret ?_ | refine blockA_ret ?_ | refine r_done ?_ | (refine r_id ?_; first | refine r_ev tab_ok rfl rfl rfl rfl byE rfl ?_) | refine awp_cond_t rfl ?_)
      exact retF1 [sdB S0, .gone] [(4, .val (.bool false))] (fits_convM byV byV ⟨trivial, trivial⟩) byO rfl rfl rfl rfl rfl (Sub.refl _)
    | [_], _, heq, _ =>
      rw [show rgF1 ([_] :: ps.drop (i + 1)) acc = none from rfl]
      repeat (first | refine awp_seq ?_ | refine thenA_normal ?_ | refine a_region ?_ | refine awp_ret ?_ | refine thenA_ret ?_ | refine blockA_ret ?_ | refine r_done ?_ | (refine r_id ?_; first | refine r_ev tab_ok rfl rfl rfl rfl byE rfl ?_) | refine awp_cond_t rfl ?_)
      exact retF1 [sdB S0, .gone] [(4, .val (.bool false))] (fits_convM byV byV ⟨trivial, trivial⟩) byO rfl rfl rfl rfl rfl (Sub.refl _)
    | a :: b :: c :: r, _, heq, hpl =>
      have hne : ¬ (((a :: b :: c :: r).length : Nat) : Int) = 2 := by simp only [List.length_cons]; omega
      rw [show rgF1 ((a :: b :: c :: r) :: ps.drop (i + 1)) acc = none from rfl]
      repeat (first | refine awp_seq ?_ | refine thenA_normal ?_ | refine a_region ?_ | refine awp_ret ?_ | refine thenA_ret ?_ | refine blockA_ret ?_ | refine r_done ?_ | (refine r_id ?_; first | refine r_ev tab_ok rfl rfl rfl rfl byE rfl ?_) | refine awp_cond_t rfl ?_)
      exact retF1 [sdB S0, .gone] [(4, .val (.bool false))] (fits_convM byV byV ⟨trivial, trivial⟩) byO rfl rfl rfl rfl rfl (Sub.refl _)
    | [a, b], hpi, heq, _ =>
      rw [show rgF1 ([a, b] :: ps.drop (i + 1)) acc = if (bndF a (-2147483648)).2 && (bndF b 2147483647).2 && decide ((bndF a (-2147483648)).1 ≤ (bndF b 2147483647).1) then rgF1 (ps.drop (i + 1)) (acc ++ [((bndF a (-2147483648)).1, (bndF b 2147483647).1)]) else none from rfl] at heq ⊢
      repeat (first | refine awp_seq ?_ | refine a_region ?_ | refine awp_skip ?_ | (refine r_id ?_; first | refine r_ev tab_ok rfl rfl rfl rfl byE rfl ?_ | refine r_idxd tab_ok rfl rfl rfl rfl rfl rfl rfl (by decide) rfl rfl rfl ?_) | refine awp_cond_f rfl ?_)
      refine r_call (bound_ok a (-2147483648) (hpi a (by simp))) call72 rfl rfl ⟨Sub.refl _, Sub.refl _, trivial⟩ rfl rfl rfl rfl ?_
      repeat (first | refine awp_seq ?_ | refine a_region ?_ | refine r_done ?_ | (refine r_id ?_; first | refine r_ev tab_ok rfl rfl rfl rfl byE rfl ?_ | refine r_idxd tab_ok rfl rfl rfl rfl rfl rfl rfl (by decide) rfl rfl rfl ?_))
      refine r_call (bound_ok b 2147483647 (hpi b (by simp))) call72 rfl rfl ⟨Sub.refl _, Sub.refl _, trivial⟩ rfl rfl rfl rfl ?_
      cases hA : (bndF a (-2147483648)).2 with
      | false =>
        rw [Bool.false_and, Bool.false_and, if_neg Bool.false_ne_true]
        repeat (first | refine awp_seq ?_ | refine thenA_normal ?_ | refine a_region ?_ | refine awp_ret ?_ | refine thenA_ret ?_ | refine blockA_ret ?_ | refine r_done ?_ | (refine r_id ?_; first | refine r_ev tab_ok rfl rfl rfl rfl byE rfl ?_ | refine r_ev_cnd tab_ok rfl rfl rfl rfl rfl rfl byC (by first | exact fun _ => trivial | (intro h; simp at h; first | exact ⟨by omega, by omega⟩ | omega)) rfl ?_ | refine r_or rfl rfl rfl rfl rfl rfl rfl rfl ?_) | refine awp_cond_t rfl ?_)
        exact retF1 [sdB S0, .gone] [(4, .val (.bool false))] (fits_convM byV byV ⟨trivial, trivial⟩) byO rfl rfl rfl rfl rfl (Sub.refl _)
      | true =>
        cases hB : (bndF b 2147483647).2 with
        | false =>
          rw [Bool.true_and, Bool.false_and, if_neg Bool.false_ne_true]
          repeat (first | refine awp_seq ?_ | refine thenA_normal ?_ | refine a_region ?_ | refine awp_ret ?_ | refine thenA_ret ?_ | refine blockA_ret ?_ | refine r_done ?_ | (refine r_id ?_; first | refine r_ev tab_ok rfl rfl rfl rfl byE rfl ?_ | refine r_ev_cnd tab_ok rfl rfl rfl rfl rfl rfl byC (by first | exact fun _ => trivial | (intro h; simp at h; first | exact ⟨by omega, by omega⟩ | omega)) rfl ?_ | refine r_or rfl rfl rfl rfl rfl rfl rfl rfl ?_) | refine awp_cond_t rfl ?_)
          exact retF1 [sdB S0, .gone] [(4, .val (.bool false))] (fits_convM byV byV ⟨trivial, trivial⟩) byO rfl rfl rfl rfl rfl (Sub.refl _)
        | true =>
          rw [hA, hB] at heq
          by_cases hle : (bndF a (-2147483648)).1 ≤ (bndF b 2147483647).1
          · rw [Bool.true_and, Bool.true_and, decide_eq_true hle, if_pos rfl] at heq ⊢
            have hgt : ¬ (bndF b 2147483647).1 < (bndF a (-2147483648)).1 := by omega
            repeat (first | refine awp_seq ?_ | refine thenA_normal ?_ | refine a_region ?_ | refine r_done ?_ | (refine r_id ?_; first | refine r_ev tab_ok rfl rfl rfl rfl byE rfl ?_ | refine r_ev_cnd tab_ok rfl rfl rfl rfl rfl rfl byC (by first | exact fun _ => trivial | (intro h; simp at h; first | exact ⟨by omega, by omega⟩ | omega)) rfl ?_ | refine r_or rfl rfl rfl rfl rfl rfl rfl rfl ?_))
            refine awp_cond_p rfl (fun h => absurd h hgt) (fun _ => ?_)
            repeat (first | refine thenA_normal ?_ | refine a_region ?_ | refine awp_skip ?_ | refine r_done ?_ | (refine r_id ?_; first | refine r_ev tab_ok rfl rfl rfl rfl byE rfl ?_ | refine r_build tab_ok rfl rfl rfl rfl rfl rfl ?_ | refine r_built tab_ok rfl rfl rfl rfl rfl rfl rfl rfl rfl ?_ | refine r_append tab_ok rfl rfl rfl rfl rfl rfl rfl rfl rfl (by first | omega | (simp; omega)) rfl ?_))
            refine ⟨⟨i + 1, acc ++ [((bndF a (-2147483648)).1, (bndF b 2147483647).1)], hi', by simp; omega, by rw [heq]⟩, by dsimp only; omega, ?_⟩
            dsimp only
            rw [show (acc ++ [((bndF a (-2147483648)).1, (bndF b 2147483647).1)]).map rgD = acc.map rgD ++ [rgD ((bndF a (-2147483648)).1, (bndF b 2147483647).1)] from List.map_append]
            exact fits_convM byV byV ⟨trivial, trivial⟩
          · rw [Bool.true_and, Bool.true_and, decide_eq_false hle, if_neg Bool.false_ne_true]
            have hgt : (bndF b 2147483647).1 < (bndF a (-2147483648)).1 := by omega
            repeat (first | refine awp_seq ?_ | refine thenA_normal ?_ | refine a_region ?_ | refine r_done ?_ | (refine r_id ?_; first | refine r_ev tab_ok rfl rfl rfl rfl byE rfl ?_ | refine r_ev_cnd tab_ok rfl rfl rfl rfl rfl rfl byC (by first | exact fun _ => trivial | (intro h; simp at h; first | exact ⟨by omega, by omega⟩ | omega)) rfl ?_ | refine r_or rfl rfl rfl rfl rfl rfl rfl rfl ?_))
            refine awp_cond_p rfl (fun _ => ?_) (fun h => absurd hgt h)
            repeat (first | refine awp_seq ?_ | refine thenA_normal ?_ | refine a_region ?_ | refine awp_ret ?_ | refine thenA_ret ?_ | refine blockA_ret ?_ | refine r_done ?_ | (refine r_id ?_; first | refine r_ev tab_ok rfl rfl rfl rfl byE rfl ?_))
            exact retF1 [sdB S0, .gone] [(4, .val (.bool false))] (fits_convM byV byV ⟨trivial, trivial⟩) byO rfl rfl rfl rfl rfl (Sub.refl _)
  · have : i = ps.length := by omega
    subst this
    rw [show rgF1 (ps.drop ps.length) acc = some acc by rw [List.drop_length, rgF1]]
    repeat (first | refine awp_seq ?_ | refine awp_exit ?_)
    refine awp_fits (s' := ⟨[sdB S0, .gone], [(0, .ptr 0 0), (5, .sl 2 (acc.map rgD))]⟩) (fits_convM byV ⟨c_ptr rfl rfl rfl rfl, c_thaw rfl rfl rfl, trivial⟩ ⟨trivial, trivial⟩) ?_
    repeat (first | refine awp_seq ?_ | refine a_region ?_ | refine r_done ?_ | (refine r_id ?_; first | refine r_ev tab_ok rfl rfl rfl rfl byE rfl ?_ | refine r_ld tab_ok rfl rfl rfl rfl rfl ?_ | refine r_st tab_ok rfl rfl rfl rfl ?_ | refine r_nilck rfl rfl rfl rfl rfl rfl rfl ?_))
    refine r_orN rfl rfl rfl rfl (by omega) (by decide) rfl rfl rfl ?_
    repeat (first | refine awp_seq ?_ | refine thenA_normal ?_ | refine a_region ?_ | refine awp_ret ?_ | refine r_done ?_ | (refine r_id ?_; first | refine r_ev tab_ok rfl rfl rfl rfl byE rfl ?_ | refine r_st tab_ok rfl rfl rfl rfl ?_ | refine r_nilck rfl rfl rfl rfl rfl rfl rfl ?_))
    exact retF1 [sdB { S0 with auto := false, range := acc, said := S0.said ||| 8 }, .gone] [(4, .val (.bool true))] (fits_convM byV byV ⟨trivial, trivial⟩) byO rfl rfl rfl rfl rfl (Sub.refl _)
set_option maxHeartbeats 16000000 in
theorem range_1 (S0 : Sd) (n : Nd) (l : List Nd) (hl0 : l = [n]) (hl : nszs l < 1099511627776) (ht : ∀ n ∈ l, n.tok.text.size ≤ 1099511627776) (hS : S0.said < 1000) : MCalls Tryz.prog 41 [sdB S0] [.ptr 0 0, .sl 7 (l.map nF)] [sdB (rngF S0 l).1] (.val (.bool (rngF S0 l).2)) := by
  have hlm : (l.map nF).length = l.length := List.length_map _
  have hll := nszs_len l
  have hpt : ∀ p ∈ splitF l, ∀ n ∈ p, n.tok.text.size ≤ 1099511627776 := fun p h n hn => ht n ((splitF_in h).2 n hn)
  have hpb : (splitF l).length ≤ 1099511627776 := by
    rw [splitF, splitG_len]
    have := List.countP_le_length (p := cmB) (l := l)
    simp only [List.length_nil]
    omega
  obtain ⟨ps, hps⟩ : ∃ ps, ps = splitF l := ⟨_, rfl⟩
  rw [← hps] at hpt hpb
  have hpm : (ps.map nds).length = ps.length := List.length_map _
  refine m_startF Tryz.func41 Tryz.ntmps41 rfl rfl rfl fun S w β => ?_
  rw [rngF, ← hps]
  subst hl0
  rw [show isAut [n] = isWd n autS1 from rfl]
  repeat (first | refine awp_seq ?_ | refine a_region ?_ | refine r_done ?_ | (refine r_id ?_; first | refine r_len tab_ok rfl rfl rfl rfl rfl rfl rfl ?_ | refine r_ev tab_ok rfl rfl rfl rfl byE rfl ?_ | refine r_idxd tab_ok rfl rfl rfl rfl rfl rfl rfl (by decide) rfl rfl rfl ?_ | refine r_ev_on tab_ok rfl rfl rfl rfl rfl rfl (by first | exact trivial | exact ⟨by omega, by omega⟩ | omega) rfl ?_) | refine r_g rfl rfl rfl ?_)
  refine r_call (dword_ok n autS1 (ht n (by simp))) call70 rfl rfl ⟨Sub.refl _, Sub.refl _, trivial⟩ rfl rfl rfl rfl ?_
  cases hb : isWd n autS1 with
  | true =>
    rw [if_pos rfl]
    repeat (first | refine awp_seq ?_ | refine thenA_normal ?_ | refine a_region ?_ | refine r_done ?_ | (refine r_id ?_; first | refine r_ev tab_ok rfl rfl rfl rfl byE rfl ?_ | refine r_ld tab_ok rfl rfl rfl rfl rfl ?_ | refine r_st tab_ok rfl rfl rfl rfl ?_ | refine r_pick_t rfl rfl rfl rfl rfl rfl rfl ?_ | refine r_nilck rfl rfl rfl rfl rfl rfl rfl ?_) | refine awp_cond_t rfl ?_)
    refine r_orN rfl rfl rfl rfl (by omega) (by decide) rfl rfl rfl ?_
    repeat (first | refine awp_seq ?_ | refine thenA_normal ?_ | refine a_region ?_ | refine awp_ret ?_ | refine thenA_ret ?_ | refine r_done ?_ | (refine r_id ?_; first | refine r_ev tab_ok rfl rfl rfl rfl byE rfl ?_ | refine r_st tab_ok rfl rfl rfl rfl ?_ | refine r_nilck rfl rfl rfl rfl rfl rfl rfl ?_))
    exact retF1 [sdB { S0 with auto := true, range := [], said := S0.said ||| 8 }] [(4, .val (.bool true))] (fits_convM byV byV ⟨trivial, trivial⟩) byO rfl rfl rfl rfl rfl (Sub.refl _)
  | false =>
    rw [if_neg Bool.false_ne_true]
    repeat (first | refine awp_seq ?_ | refine thenA_normal ?_ | refine a_region ?_ | refine awp_skip ?_ | refine r_done ?_ | (refine r_id ?_; first | refine r_ev tab_ok rfl rfl rfl rfl byE rfl ?_ | refine r_pick_t rfl rfl rfl rfl rfl rfl rfl ?_) | refine awp_cond_f rfl ?_)
    refine r_call (split_ok 1099511627776 _ hl (Nat.le_refl _)) call71 rfl rfl ⟨Sub.refl _, trivial⟩ rfl rfl rfl rfl ?_
    rw [← hps]
    repeat (first | refine thenA_normal ?_ | refine awp_block ?_ | refine r_done ?_ | (refine r_id ?_; first | refine r_len tab_ok rfl rfl rfl rfl rfl rfl rfl ?_ | refine r_ev tab_ok rfl rfl rfl rfl byE rfl ?_))
    refine a_loop (σ := RgS ps) (fun x => [sdB S0, .row 0 54 2 (x.acc.map rgD)]) (fun x => [(0, .ptr 0 0), (5, .row 1 0), (39, .sl 1 (ps.map nds)), (40, .val (.int .i64 ps.length)), (41, .val (.int .i64 x.i))]) (fun x => ps.length - x.i) ⟨0, [], Nat.zero_le _, Nat.le_refl _, rfl⟩ (fits_convM byV ⟨c_ptr rfl rfl rfl rfl, c_nil rfl rfl, c_sub rfl (Sub.refl _) rfl, c_sub rfl (Sub.of_eq (by rw [← hpm]; rfl)) rfl, c_sub rfl (Sub.refl _) rfl, trivial⟩ ⟨trivial, trivial⟩) ?_
    rintro ⟨i, acc, hi, ha, heq⟩
    dsimp only
    rw [← heq]
    have hal : (acc.map rgD).length = acc.length := List.length_map _
    repeat (first | refine awp_seq ?_ | refine a_region ?_ | refine r_done ?_ | (refine r_id ?_; first | refine r_ev tab_ok rfl rfl rfl rfl byE rfl ?_))
    refine awp_cond_p rfl (fun hlt => ?_) (fun hge => ?_)
    · have hi' : i < ps.length := by omega
      have hin : ((i : Nat) : Int).toNat < ps.length := by simp only [Int.toNat_natCast]; exact hi'
      have hdr : ps.drop i = ps[i] :: ps.drop (i + 1) := List.drop_eq_getElem_cons hi'
      have hpi := hpt ps[i] (List.getElem_mem hi')
      rw [hdr] at heq ⊢
      repeat (first | refine awp_seq ?_ | refine thenA_normal ?_ | refine awp_block ?_ | refine a_region ?_ | refine awp_skip ?_ | refine r_done ?_ | (refine r_id ?_; first | refine r_len tab_ok rfl rfl rfl rfl rfl rfl rfl ?_ | refine r_ev tab_ok rfl rfl rfl rfl byE rfl ?_ | refine r_idx tab_ok rfl rfl rfl rfl rfl rfl rfl (by first | exact ⟨by omega, by omega⟩ | (simp; omega)) rfl rfl ?_))
      obtain ⟨p, hp⟩ : ∃ p, p = ps[((i : Nat) : Int).toNat]'hin := ⟨_, rfl⟩
      rw [← hp]
      have hp2 : ps[i] = p := by rw [hp]; simp only [Int.toNat_natCast]
      rw [hp2] at hpi heq ⊢
      clear hp hp2 hdr
      have hpl : (p.map nF).length = p.length := List.length_map _
      match p, hpi, heq, hpl with
      | [], _, heq, _ =>
        rw [show rgF1 ([] :: ps.drop (i + 1)) acc = none from rfl]
        repeat (first | refine awp_seq ?_ | refine thenA_normal ?_ | refine a_region ?_ | refine awp_ret ?_ | refine thenA_ret ?_ | refine blockA_ret ?_ | refine r_done ?_ | (refine r_id ?_; first | refine r_ev tab_ok rfl rfl rfl rfl byE rfl ?_) | refine awp_cond_t rfl ?_)
        exact retF1 [sdB S0, .gone] [(4, .val (.bool false))] (fits_convM byV byV ⟨trivial, trivial⟩) byO rfl rfl rfl rfl rfl (Sub.refl _)
      | [_], _, heq, _ =>
        rw [show rgF1 ([_] :: ps.drop (i + 1)) acc = none from rfl]
        repeat (first | refine awp_seq ?_ | refine thenA_normal ?_ | refine a_region ?_ | refine awp_ret ?_ | refine thenA_ret ?_ | refine blockA_ret ?_ | refine r_done ?_ | (refine r_id ?_; first | refine r_ev tab_ok rfl rfl rfl rfl byE rfl ?_) | refine awp_cond_t rfl ?_)
        exact retF1 [sdB S0, .gone] [(4, .val (.bool false))] (fits_convM byV byV ⟨trivial, trivial⟩) byO rfl rfl rfl rfl rfl (Sub.refl _)
      | a :: b :: c :: r, _, heq, hpl =>
        have hne : ¬ (((a :: b :: c :: r).length : Nat) : Int) = 2 := by simp only [List.length_cons]; omega
        rw [show rgF1 ((a :: b :: c :: r) :: ps.drop (i + 1)) acc = none from rfl]
        repeat (first | refine awp_seq ?_ | refine thenA_normal ?_ | refine a_region ?_ | refine awp_ret ?_ | refine thenA_ret ?_ | refine blockA_ret ?_ | refine r_done ?_ | (refine r_id ?_; first | refine r_ev tab_ok rfl rfl rfl rfl byE rfl ?_) | refine awp_cond_t rfl ?_)
        exact retF1 [sdB S0, .gone] [(4, .val (.bool false))] (fits_convM byV byV ⟨trivial, trivial⟩) byO rfl rfl rfl rfl rfl (Sub.refl _)
      | [a, b], hpi, heq, _ =>
        rw [show rgF1 ([a, b] :: ps.drop (i + 1)) acc = if (bndF a (-2147483648)).2 && (bndF b 2147483647).2 && decide ((bndF a (-2147483648)).1 ≤ (bndF b 2147483647).1) then rgF1 (ps.drop (i + 1)) (acc ++ [((bndF a (-2147483648)).1, (bndF b 2147483647).1)]) else none from rfl] at heq ⊢
        repeat (first | refine awp_seq ?_ | refine a_region ?_ | refine awp_skip ?_ | (refine r_id ?_; first | refine r_ev tab_ok rfl rfl rfl rfl byE rfl ?_ | refine r_idxd tab_ok rfl rfl rfl rfl rfl rfl rfl (by decide) rfl rfl rfl ?_) | refine awp_cond_f rfl ?_)
        refine r_call (bound_ok a (-2147483648) (hpi a (by simp))) call72 rfl rfl ⟨Sub.refl _, Sub.refl _, trivial⟩ rfl rfl rfl rfl ?_
        repeat (first | refine awp_seq ?_ | refine a_region ?_ | refine r_done ?_ | (refine r_id ?_; first | refine r_ev tab_ok rfl rfl rfl rfl byE rfl ?_ | refine r_idxd tab_ok rfl rfl rfl rfl rfl rfl rfl (by decide) rfl rfl rfl ?_))
        refine r_call (bound_ok b 2147483647 (hpi b (by simp))) call72 rfl rfl ⟨Sub.refl _, Sub.refl _, trivial⟩ rfl rfl rfl rfl ?_
        cases hA : (bndF a (-2147483648)).2 with
        | false =>
          rw [Bool.false_and, Bool.false_and, if_neg Bool.false_ne_true]
          repeat (first | refine awp_seq ?_ | refine thenA_normal ?_ | refine a_region ?_ | refine awp_ret ?_ | refine thenA_ret ?_ | refine blockA_ret ?_ | refine r_done ?_ | (refine r_id ?_; first | refine r_ev tab_ok rfl rfl rfl rfl byE rfl ?_ | refine r_ev_cnd tab_ok rfl rfl rfl rfl rfl rfl byC (by first | exact fun _ => trivial | (intro h; simp at h; first | exact ⟨by omega, by omega⟩ | omega)) rfl ?_ | refine r_or rfl rfl rfl rfl rfl rfl rfl rfl ?_) | refine awp_cond_t rfl ?_)
          exact retF1 [sdB S0, .gone] [(4, .val (.bool false))] (fits_convM byV byV ⟨trivial, trivial⟩) byO rfl rfl rfl rfl rfl (Sub.refl _)
        | true =>
          cases hB : (bndF b 2147483647).2 with
          | false =>
            rw [Bool.true_and, Bool.false_and, if_neg Bool.false_ne_true]
            repeat (first | refine awp_seq ?_ | refine thenA_normal ?_ | refine a_region ?_ | refine awp_ret ?_ | refine thenA_ret ?_ | refine blockA_ret ?_ | refine r_done ?_ | (refine r_id ?_; first | refine r_ev tab_ok rfl rfl rfl rfl byE rfl ?_ | refine r_ev_cnd tab_ok rfl rfl rfl rfl rfl rfl byC (by first | exact fun _ => trivial | (intro h; simp at h; first | exact ⟨by omega, by omega⟩ | omega)) rfl ?_ | refine r_or rfl rfl rfl rfl rfl rfl rfl rfl ?_) | refine awp_cond_t rfl ?_)
            exact retF1 [sdB S0, .gone] [(4, .val (.bool false))] (fits_convM byV byV ⟨trivial, trivial⟩) byO rfl rfl rfl rfl rfl (Sub.refl _)
          | true =>
            rw [hA, hB] at heq
            by_cases hle : (bndF a (-2147483648)).1 ≤ (bndF b 2147483647).1
            · rw [Bool.true_and, Bool.true_and, decide_eq_true hle, if_pos rfl] at heq ⊢
              have hgt : ¬ (bndF b 2147483647).1 < (bndF a (-2147483648)).1 := by omega
              repeat (first | refine awp_seq ?_ | refine thenA_normal ?_ | refine a_region ?_ | refine r_done ?_ | (refine r_id ?_; first | refine r_ev tab_ok rfl rfl rfl rfl byE rfl ?_ | refine r_ev_cnd tab_ok rfl rfl rfl rfl rfl rfl byC (by first | exact fun _ => trivial | (intro h; simp at h; first | exact ⟨by omega, by omega⟩ | omega)) rfl ?_ | refine r_or rfl rfl rfl rfl rfl rfl rfl rfl ?_))
              refine awp_cond_p rfl (fun h => absurd h hgt) (fun _ => ?_)
              repeat (first | refine thenA_normal ?_ | refine a_region ?_ | refine awp_skip ?_ | refine r_done ?_ | (refine r_id ?_; first | refine r_ev tab_ok rfl rfl rfl rfl byE rfl ?_ | refine r_build tab_ok rfl rfl rfl rfl rfl rfl ?_ | refine r_built tab_ok rfl rfl rfl rfl rfl rfl rfl rfl rfl ?_ | refine r_append tab_ok rfl rfl rfl rfl rfl rfl rfl rfl rfl (by first | omega | (simp; omega)) rfl ?_))
              refine ⟨⟨i + 1, acc ++ [((bndF a (-2147483648)).1, (bndF b 2147483647).1)], hi', by simp; omega, by rw [heq]⟩, by dsimp only; omega, ?_⟩
              dsimp only
              rw [show (acc ++ [((bndF a (-2147483648)).1, (bndF b 2147483647).1)]).map rgD = acc.map rgD ++ [rgD ((bndF a (-2147483648)).1, (bndF b 2147483647).1)] from List.map_append]
              exact fits_convM byV byV ⟨trivial, trivial⟩
            · rw [Bool.true_and, Bool.true_and, decide_eq_false hle, if_neg Bool.false_ne_true]
              have hgt : (bndF b 2147483647).1 < (bndF a (-2147483648)).1 := by omega
              repeat (first | refine awp_seq ?_ | refine thenA_normal ?_ | refine a_region ?_ | refine r_done ?_ | (refine r_id ?_; first | refine r_ev tab_ok rfl rfl rfl rfl byE rfl ?_ | refine r_ev_cnd tab_ok rfl rfl rfl rfl rfl rfl byC (by first | exact fun _ => trivial | (intro h; simp at h; first | exact ⟨by omega, by omega⟩ | omega)) rfl ?_ | refine r_or rfl rfl rfl rfl rfl rfl rfl rfl ?_))
              refine awp_cond_p rfl (fun _ => ?_) (fun h => absurd hgt h)
              repeat (first | refine awp_seq ?_ | refine thenA_normal ?_ | refine a_region ?_ | refine awp_ret ?_ | refine thenA_ret ?_ | refine blockA_ret ?_ | refine r_done ?_ | (refine r_id ?_; first | refine r_ev tab_ok rfl rfl rfl rfl byE rfl ?_))
              exact retF1 [sdB S0, .gone] [(4, .val (.bool false))] (fits_convM byV byV ⟨trivial, trivial⟩) byO rfl rfl rfl rfl rfl (Sub.refl _)
    · have : i = ps.length := by omega
      subst this
      rw [show rgF1 (ps.drop ps.length) acc = some acc by rw [List.drop_length, rgF1]]
      repeat (first | refine awp_seq ?_ | refine awp_exit ?_)
      refine awp_fits (s' := ⟨[sdB S0, .gone], [(0, .ptr 0 0), (5, .sl 2 (acc.map rgD))]⟩) (fits_convM byV ⟨c_ptr rfl rfl rfl rfl, c_thaw rfl rfl rfl, trivial⟩ ⟨trivial, trivial⟩) ?_
      repeat (first | refine awp_seq ?_ | refine a_region ?_ | refine r_done ?_ | (refine r_id ?_; first | refine r_ev tab_ok rfl rfl rfl rfl byE rfl ?_ | refine r_ld tab_ok rfl rfl rfl rfl rfl ?_ | refine r_st tab_ok rfl rfl rfl rfl ?_ | refine r_nilck rfl rfl rfl rfl rfl rfl rfl ?_))
      refine r_orN rfl rfl rfl rfl (by omega) (by decide) rfl rfl rfl ?_
      repeat (first | refine awp_seq ?_ | refine thenA_normal ?_ | refine a_region ?_ | refine awp_ret ?_ | refine r_done ?_ | (refine r_id ?_; first | refine r_ev tab_ok rfl rfl rfl rfl byE rfl ?_ | refine r_st tab_ok rfl rfl rfl rfl ?_ | refine r_nilck rfl rfl rfl rfl rfl rfl rfl ?_))
      exact retF1 [sdB { S0 with auto := false, range := acc, said := S0.said ||| 8 }, .gone] [(4, .val (.bool true))] (fits_convM byV byV ⟨trivial, trivial⟩) byO rfl rfl rfl rfl rfl (Sub.refl _)
theorem range_ok (S0 : Sd) (l : List Nd) (hl : nszs l < 1099511627776) (ht : ∀ n ∈ l, n.tok.text.size ≤ 1099511627776) (hS : S0.said < 1000) : MCalls Tryz.prog 41 [sdB S0] [.ptr 0 0, .sl 7 (l.map nF)] [sdB (rngF S0 l).1] (.val (.bool (rngF S0 l).2)) :=
  match l, hl, ht with
  | [], hl, ht => range_0 S0 _ rfl hl ht hS
  | a :: b :: r, hl, ht => range_2 S0 a b r _ rfl hl ht hS
  | [n], hl, ht => range_1 S0 n _ rfl hl ht hS
end Go.Proofs.YtfmafehogfikmaaGreatDoor
