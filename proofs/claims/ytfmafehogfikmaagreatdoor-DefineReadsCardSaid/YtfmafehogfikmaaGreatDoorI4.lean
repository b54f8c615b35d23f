import Derived.Test.YtfmafehogfikmaaGreatDoorL0
import Derived.Test.YtfmafehogfikmaaGreatDoorP8
/- Rules, as data. -/
namespace Go.Proofs.YtfmafehogfikmaaGreatDoor
open Go Go.RowKit
set_option maxRecDepth 20000

structure Rl where
  at_ : ByteArray
  pre : List Nd
  blk : Bool
  decls : List Dc
def rlC (r : Rl) : List AV := [.val (.string r.at_), .sl 7 (r.pre.map nF), .val (.bool r.blk), .sl 3 (r.decls.map dcD)]
def rlA (r : Rl) : AV := .agg (rlC r)
def rlD (r : Rl) : D := .ag [.val (.string r.at_), .sl 7 (r.pre.map nF), .val (.bool r.blk), .sl 3 (r.decls.map dcD)]
theorem StepG.offu {P : Program} {ops : Array Oper} {o : Oper} {M : List AB} {F : Nat → AV} {j : Nat} {want : Bool} {g : Tmp} (hg : o.guard = some (j, want)) (hj : wd ops j = some g) (hF : F g = .val undef) : StepG P ops o M F M (.val undef) := by
  intro S B β a w hm hs K Q hK
  have h1 := hs g (yI hg hj)
  rw [hF] at h1
  have hy := wu (a := a) hj h1
  have hw : Region.wanted o (yielded ops a.tmps) = false := by simp [Region.wanted, hg, hy, zf, undef]
  rw [hw]
  exact hK undef β w (Ev.refl _ _ _) hm rfl
/-- An operation whose guard was not carried out. -/
theorem y8 {P : Program} {ops : Array Oper} {N : Nat} {K : AS → Prop} {o : Oper} {r : List Oper} {fo fo' : Option (List Nat)} {M : List AB} {F : List (Nat × AV)} {dt : Tmp} {j : Nat} {want : Bool} {g : Tmp} (hg : o.guard = some (j, want)) (hj : wd ops j = some g) (hF : uH F g = .val undef) (hdd : o.dst = some dt) (hd : vn o.dst N = true)
    (hp : vF fo 0 = some fo') (k : RunX P ops N K r fo' (M) ((dt, (.val undef)) :: F)) : RunX P ops N K (o :: r) fo M F :=
  RunX.mk (fun _ k => Run.pure_ hd (fun _ => StepG.offu hg hj hF) (by rw [uT hdd]; exact k)) hp k
end Go.Proofs.YtfmafehogfikmaaGreatDoor

/- define: Symbol, Fixed, whole, word, bound, weighed; walked. -/
namespace Go.Proofs.YtfmafehogfikmaaGreatDoor
open Go Go.RowKit
set_option maxRecDepth 20000

def vE (n : Nd) : ByteArray × Bool := if n.tok.kind = 5 ∨ n.tok.kind = 1 then (n.tok.text, true) else (⟨#[]⟩, false)
theorem wC (n : Nd) : uI Tryz.prog 13 [nA n] (.tup [.val (.string (vE n).1), .val (.bool (vE n).2)]) := by
  refine uP Tryz.func13 Tryz.ntmps13 rfl rfl rfl fun S w0 => ?_
  by_cases h5 : n.tok.kind = 5
  · rw [show vE n = (n.tok.text, true) from if_pos (.inl h5)]
    repeat (first | refine ue ?_ | refine uc ?_ | refine ud ?_ | refine uk ?_ | refine uj ?_ | refine uf ?_ | (refine ug ?_; first | refine uh tab_ok rfl rfl rfl rfl byE rfl ?_ | refine uJ tab_ok rfl rfl rfl rfl rfl ?_ | refine vp tab_ok rfl rfl rfl rfl rfl ?_) | refine ww byO rfl rfl rfl rfl ?_ ?_ | refine ur rfl ?_ | refine uD rfl rfl (congrArg (fun b => AV.val (.bool b)) (v4 (by omega))) rfl rfl rfl rfl ?_ | refine va rfl rfl (congrArg (fun b => AV.val (.bool b)) (v4 (by omega))) rfl rfl rfl ?_)
    all_goals exact Sub.refl _
  by_cases h1 : n.tok.kind = 1
  · rw [show vE n = (n.tok.text, true) from if_pos (.inr h1)]
    repeat (first | refine ue ?_ | refine uc ?_ | refine ud ?_ | refine uf ?_ | (refine ug ?_; first | refine uh tab_ok rfl rfl rfl rfl byE rfl ?_ | refine uJ tab_ok rfl rfl rfl rfl rfl ?_ | refine vp tab_ok rfl rfl rfl rfl rfl ?_) | refine r_g rfl rfl (congrArg (fun b => AV.val (.bool b)) (xg (by omega))) ?_ | refine uN rfl rfl (congrArg (fun b => AV.val (.bool b)) (xg (by omega))) rfl rfl rfl rfl ?_)
    refine vz rfl (fun h => absurd h1 h) (fun _ => ?_)
    repeat (first | refine ue ?_ | refine uc ?_ | refine ud ?_ | refine uk ?_ | refine uj ?_ | refine uf ?_ | (refine ug ?_; first | refine uh tab_ok rfl rfl rfl rfl byE rfl ?_ | refine uJ tab_ok rfl rfl rfl rfl rfl ?_) | refine ww byO rfl rfl rfl rfl ?_ ?_)
    all_goals exact Sub.refl _
  · rw [show vE n = (⟨#[]⟩, false) from if_neg (by rintro (h | h); exact h5 h; exact h1 h)]
    repeat (first | refine ue ?_ | refine uc ?_ | refine ud ?_ | refine uf ?_ | (refine ug ?_; first | refine uh tab_ok rfl rfl rfl rfl byE rfl ?_ | refine uJ tab_ok rfl rfl rfl rfl rfl ?_ | refine vp tab_ok rfl rfl rfl rfl rfl ?_) | refine r_g rfl rfl (congrArg (fun b => AV.val (.bool b)) (xg (by omega))) ?_ | refine uN rfl rfl (congrArg (fun b => AV.val (.bool b)) (xg (by omega))) rfl rfl rfl rfl ?_)
    refine vz rfl (fun _ => ?_) (fun h => absurd h h1)
    repeat (first | refine ue ?_ | refine uc ?_ | refine ud ?_ | refine uk ?_ | refine un ?_ | refine uf ?_ | (refine ug ?_; first | refine uh tab_ok rfl rfl rfl rfl byE rfl ?_) | refine ww byO rfl rfl rfl rfl ?_ ?_)
    all_goals exact Sub.refl _
def fixN : ByteArray := ⟨#[100, 101, 99, 105, 109, 97, 108, 32, 100, 105, 115, 99, 32, 115, 113, 117, 97, 114, 101, 32, 99, 105, 114, 99, 108, 101]⟩
theorem fixed_ok (s : ByteArray) (h : s.size ≤ 1099511627776) : uI Tryz.prog 18 [.val (.string s)] (.val (.bool (xq fixN (vk s)))) := by
  refine uP Tryz.func18 Tryz.ntmps18 rfl rfl rfl fun S w0 => ?_
  repeat (first | refine ue ?_ | refine ud ?_ | refine uf ?_ | (refine ug ?_; first | refine uh tab_ok rfl rfl rfl rfl byE rfl ?_))
  refine uw (yE s (by omega)) call30 rfl rfl ⟨Sub.refl _, trivial⟩ rfl rfl rfl rfl ?_
  refine uw (among_ok fixN (vk s) (by decide) (by kernel_rfl)) call29 rfl rfl ⟨Sub.refl _, Sub.refl _, trivial⟩ rfl rfl rfl rfl ?_
  repeat (first | refine uc ?_ | refine uk ?_ | refine uf ?_ | (refine ug ?_; first | refine uh tab_ok rfl rfl rfl rfl byE rfl ?_) | refine vB byO rfl rfl rfl ?_)
  exact Sub.refl _
def xe (n : Nd) : Int × Bool := if n.tok.kind = 10 ∧ n.tok.whole = true then (n.tok.int, true) else (0, false)
theorem whole_ok (n : Nd) : uI Tryz.prog 69 [nA n] (.tup [.val (.int .i64 (xe n).1), .val (.bool (xe n).2)]) := by
  refine uP Tryz.func69 Tryz.ntmps69 rfl rfl rfl fun S w0 => ?_
  by_cases h : n.tok.kind = 10
  · cases hw : n.tok.whole with
    | true =>
      rw [show xe n = (n.tok.int, true) from if_pos ⟨h, hw⟩]
      repeat (first | refine ue ?_ | refine uc ?_ | refine ud ?_ | refine uf ?_ | (refine ug ?_; first | refine uh tab_ok rfl rfl rfl rfl byE rfl ?_ | refine uJ tab_ok rfl rfl rfl rfl rfl ?_ | refine vp tab_ok rfl rfl rfl rfl rfl ?_) | refine r_g rfl rfl (congrArg (fun b => AV.val (.bool b)) (v4 (by omega))) ?_ | refine uD rfl rfl (congrArg (fun b => AV.val (.bool b)) (v4 (by omega))) rfl rfl rfl rfl ?_)
      refine uA rfl (fun h2 => absurd h2 (by rw [hw]; decide)) (fun _ => ?_)
      repeat (first | refine ue ?_ | refine uc ?_ | refine ud ?_ | refine uk ?_ | refine uj ?_ | refine uf ?_ | (refine ug ?_; first | refine uh tab_ok rfl rfl rfl rfl byE rfl ?_ | refine uJ tab_ok rfl rfl rfl rfl rfl ?_) | refine ww byO rfl rfl rfl rfl ?_ ?_)
      all_goals exact Sub.refl _
    | false =>
      rw [show xe n = (0, false) from if_neg (by rintro ⟨_, h2⟩; rw [hw] at h2; cases h2)]
      repeat (first | refine ue ?_ | refine uc ?_ | refine ud ?_ | refine uf ?_ | (refine ug ?_; first | refine uh tab_ok rfl rfl rfl rfl byE rfl ?_ | refine uJ tab_ok rfl rfl rfl rfl rfl ?_ | refine vp tab_ok rfl rfl rfl rfl rfl ?_) | refine r_g rfl rfl (congrArg (fun b => AV.val (.bool b)) (v4 (by omega))) ?_ | refine uD rfl rfl (congrArg (fun b => AV.val (.bool b)) (v4 (by omega))) rfl rfl rfl rfl ?_)
      refine uA rfl (fun _ => ?_) (fun h2 => absurd h2 (by rw [hw]; decide))
      repeat (first | refine ue ?_ | refine uc ?_ | refine ud ?_ | refine uk ?_ | refine un ?_ | refine uf ?_ | (refine ug ?_; first | refine uh tab_ok rfl rfl rfl rfl byE rfl ?_) | refine ww byO rfl rfl rfl rfl ?_ ?_)
      all_goals exact Sub.refl _
  · rw [show xe n = (0, false) from if_neg (fun h2 => h h2.1)]
    repeat (first | refine ue ?_ | refine uc ?_ | refine ud ?_ | refine uk ?_ | refine un ?_ | refine uf ?_ | (refine ug ?_; first | refine uh tab_ok rfl rfl rfl rfl byE rfl ?_ | refine uJ tab_ok rfl rfl rfl rfl rfl ?_ | refine vp tab_ok rfl rfl rfl rfl rfl ?_) | refine ww byO rfl rfl rfl rfl ?_ ?_ | refine uq rfl ?_ | refine uN rfl rfl (congrArg (fun b => AV.val (.bool b)) (xg (by omega))) rfl rfl rfl rfl ?_ | refine va rfl rfl (congrArg (fun b => AV.val (.bool b)) (xg (by omega))) rfl rfl rfl ?_)
    all_goals exact Sub.refl _
def isWd (n : Nd) (w : ByteArray) : Bool := decide (n.tok.kind = 1) && decide (vk n.tok.text = w)
theorem dword_ok (n : Nd) (w : ByteArray) (h : n.tok.text.size ≤ 1099511627776) : uI Tryz.prog 70 [nA n, .val (.string w)] (.val (.bool (isWd n w))) := by
  refine uP Tryz.func70 Tryz.ntmps70 rfl rfl rfl fun S w0 => ?_
  repeat (first | refine ue ?_ | refine ud ?_ | refine uf ?_ | (refine ug ?_; first | refine uh tab_ok rfl rfl rfl rfl byE rfl ?_ | refine uJ tab_ok rfl rfl rfl rfl rfl ?_ | refine vp tab_ok rfl rfl rfl rfl rfl ?_))
  refine uw (word_ok2 n 1 w h) call102 rfl rfl ⟨Sub.refl _, Sub.refl _, Sub.refl _, Sub.refl _, trivial⟩ rfl rfl rfl rfl ?_
  repeat (first | refine uc ?_ | refine uk ?_ | refine uf ?_ | (refine ug ?_; first | refine uh tab_ok rfl rfl rfl rfl byE rfl ?_) | refine vB byO rfl rfl rfl ?_)
  exact Sub.refl _
def infS : ByteArray := ⟨#[105, 110, 102, 105, 110, 105, 116, 101]⟩
def vJ (n : Nd) (e : Int) : Int × Bool := if isWd n infS then (e, true) else xe n
theorem qh (n : Nd) (e : Int) (h : n.tok.text.size ≤ 1099511627776) : uI Tryz.prog 72 [nA n, .val (.int .i64 e)] (.tup [.val (.int .i64 (vJ n e).1), .val (.bool (vJ n e).2)]) := by
  refine uP Tryz.func72 Tryz.ntmps72 rfl rfl rfl fun S w0 => ?_
  rw [vJ]
  repeat (first | refine ue ?_ | refine ud ?_ | refine uf ?_ | (refine ug ?_; first | refine uh tab_ok rfl rfl rfl rfl byE rfl ?_ | refine uJ tab_ok rfl rfl rfl rfl rfl ?_ | refine vp tab_ok rfl rfl rfl rfl rfl ?_))
  refine uw (dword_ok n infS h) call70 rfl rfl ⟨Sub.refl _, Sub.refl _, trivial⟩ rfl rfl rfl rfl ?_
  cases isWd n infS with
  | true =>
    rw [if_pos rfl]
    repeat (first | refine ue ?_ | refine uc ?_ | refine ud ?_ | refine uk ?_ | refine un ?_ | refine uf ?_ | (refine ug ?_; first | refine uh tab_ok rfl rfl rfl rfl byE rfl ?_) | refine ww byO rfl rfl rfl rfl ?_ ?_ | refine uq rfl ?_)
    all_goals exact Sub.refl _
  | false =>
    rw [if_neg Bool.false_ne_true]
    repeat (first | refine ue ?_ | refine uc ?_ | refine ud ?_ | refine uj ?_ | refine uf ?_ | (refine ug ?_; first | refine uJ tab_ok rfl rfl rfl rfl rfl ?_) | refine ur rfl ?_)
    refine uw (whole_ok n) call69 rfl rfl ⟨Sub.refl _, trivial⟩ rfl rfl rfl rfl ?_
    repeat (first | refine uc ?_ | refine uk ?_ | refine uf ?_ | (refine ug ?_; first | refine uh tab_ok rfl rfl rfl rfl byE rfl ?_) | refine ww byO rfl rfl rfl rfl ?_ ?_)
    all_goals exact Sub.refl _
def wO : List Nd → (Int × ByteArray) × Bool
  | [a, b] =>
    if a.tok.kind = 10 then (((xe a).1, (vE b).1), (xe a).2 && (vE b).2 && decide (0 ≤ (xe a).1))
    else (((xe b).1, (vE a).1), (xe b).2 && (vE a).2 && decide (0 ≤ (xe b).1))
  | _ => ((0, ⟨#[]⟩), false)
theorem qW {P : Program} {fn : Func} {r1 r2 r3 x y z : AV} {e : Exit} {M : List AB} {F : List (Nat × AV)} {t u v : Tmp} (he : e = .normal ∨ e = .ret) (hr : fn.results.toList = [.tmp t, .tmp u, .tmp v]) (hx : nf (uH F t) = some x) (hy : nf (uH F u) = some y) (hz : nf (uH F v) = some z)
    (hf : (x.free && (y.free && z.free)) = true) (h : Sub x r1) (k : Sub y r2) (l : Sub z r3) : retQ P fn (.tup [r1, r2, r3]) e ⟨M, F⟩ := by
  rw [Bool.and_eq_true, Bool.and_eq_true] at hf
  refine ⟨he, [x, y, z], by rw [hr]; exact .cons (.tmp (by rw [wV hx]; exact Sub.refl _) hf.1) (.cons (.tmp (by rw [wV hy]; exact Sub.refl _) hf.2.1) (.cons (.tmp (by rw [wV hz]; exact Sub.refl _) hf.2.2) .nil)), ?_⟩
  rintro M β w imm v ⟨cs, h1, ⟨v1, r, e1, s1, v2, r', e2, s2, v3, r'', e3, s3, s4⟩⟩
  exact ⟨cs, h1, v1, r, e1, h _ _ _ _ _ s1, v2, r', e2, k _ _ _ _ _ s2, v3, r'', e3, l _ _ _ _ _ s3, s4⟩
set_option maxHeartbeats 1000000 in
theorem weighed_ok (l : List Nd) (hl : l.length ≤ 1099511627776) : uI Tryz.prog 73 [.sl 7 (l.map nF)] (.tup [.val (.int .i64 (wO l).1.1), .val (.string (wO l).1.2), .val (.bool (wO l).2)]) := by
  refine uP Tryz.func73 Tryz.ntmps73 rfl rfl rfl fun S w0 => ?_
  have hlm : (l.map nF).length = l.length := List.length_map _
  match l, hl, hlm with
  | [], _, _ =>
    repeat (first | refine ue ?_ | refine uc ?_ | refine ud ?_ | refine uk ?_ | refine un ?_ | refine uf ?_ | (refine ug ?_; first | refine uG tab_ok rfl rfl rfl rfl rfl rfl rfl ?_ | refine uh tab_ok rfl rfl rfl rfl byE rfl ?_) | refine uq rfl ?_)
    all_goals exact qW byO rfl rfl rfl rfl rfl (Sub.refl _) (Sub.refl _) (Sub.refl _)
  | [_], _, _ =>
    repeat (first | refine ue ?_ | refine uc ?_ | refine ud ?_ | refine uk ?_ | refine un ?_ | refine uf ?_ | (refine ug ?_; first | refine uG tab_ok rfl rfl rfl rfl rfl rfl rfl ?_ | refine uh tab_ok rfl rfl rfl rfl byE rfl ?_) | refine uq rfl ?_)
    all_goals exact qW byO rfl rfl rfl rfl rfl (Sub.refl _) (Sub.refl _) (Sub.refl _)
  | a :: b :: c :: r, hl, hlm =>
    have hne : ¬ (((a :: b :: c :: r).length : Nat) : Int) = 2 := by simp only [List.length_cons]; omega
    repeat (first | refine ue ?_ | refine uc ?_ | refine ud ?_ | refine uk ?_ | refine un ?_ | refine uf ?_ | (refine ug ?_; first | refine uG tab_ok rfl rfl rfl rfl rfl rfl rfl ?_ | refine uh tab_ok rfl rfl rfl rfl byE rfl ?_) | refine uq rfl ?_)
    all_goals exact qW byO rfl rfl rfl rfl rfl (Sub.refl _) (Sub.refl _) (Sub.refl _)
  | [a, b], _, _ =>
    by_cases hk : a.tok.kind = 10
    · rw [show wO [a, b] = (((xe a).1, (vE b).1), (xe a).2 && (vE b).2 && decide (0 ≤ (xe a).1)) from if_pos hk]
      have hk2 : ([a, b][Int.toNat 0]'(Nat.succ_pos _)).tok.kind = 10 := hk
      repeat (first | refine ue ?_ | refine uc ?_ | refine ud ?_ | refine uj ?_ | refine uf ?_ | (refine ug ?_; first | refine uG tab_ok rfl rfl rfl rfl rfl rfl rfl ?_ | refine uh tab_ok rfl rfl rfl rfl byE rfl ?_ | refine vl tab_ok rfl rfl rfl rfl rfl rfl rfl (by decide) rfl rfl rfl ?_) | refine ur rfl ?_)
      refine vz rfl (fun h => absurd hk2 h) (fun _ => ?_)
      repeat (first | refine ue ?_ | refine ud ?_ | refine uj ?_ | (refine ug ?_; first | refine uh tab_ok rfl rfl rfl rfl byE rfl ?_ | refine vl tab_ok rfl rfl rfl rfl rfl rfl rfl (by decide) rfl rfl rfl ?_))
      refine uw (whole_ok a) call69 rfl rfl ⟨Sub.refl _, trivial⟩ rfl rfl rfl rfl ?_
      repeat (first | refine ue ?_ | refine ud ?_ | refine uf ?_ | (refine ug ?_; first | refine uh tab_ok rfl rfl rfl rfl byE rfl ?_ | refine vl tab_ok rfl rfl rfl rfl rfl rfl rfl (by decide) rfl rfl rfl ?_))
      refine uw (wC b) ze rfl rfl ⟨Sub.refl _, trivial⟩ rfl rfl rfl rfl ?_
      repeat (first | refine ue ?_ | refine uc ?_ | refine ud ?_ | refine uk ?_ | refine uf ?_ | (refine ug ?_; first | refine uh tab_ok rfl rfl rfl rfl byE rfl ?_ | refine ux tab_ok rfl rfl rfl rfl rfl rfl byC (by first | exact fun _ => trivial | (intro h; simp at h; omega)) rfl ?_ | refine vm rfl rfl rfl rfl rfl rfl rfl rfl ?_))
      all_goals exact qW byO rfl rfl rfl rfl rfl (Sub.refl _) (Sub.refl _) (Sub.refl _)
    · rw [show wO [a, b] = (((xe b).1, (vE a).1), (xe b).2 && (vE a).2 && decide (0 ≤ (xe b).1)) from if_neg hk]
      have hk2 : ¬ ([a, b][Int.toNat 0]'(Nat.succ_pos _)).tok.kind = 10 := hk
      repeat (first | refine ue ?_ | refine uc ?_ | refine ud ?_ | refine uj ?_ | refine uf ?_ | (refine ug ?_; first | refine uG tab_ok rfl rfl rfl rfl rfl rfl rfl ?_ | refine uh tab_ok rfl rfl rfl rfl byE rfl ?_ | refine vl tab_ok rfl rfl rfl rfl rfl rfl rfl (by decide) rfl rfl rfl ?_) | refine ur rfl ?_)
      refine vz rfl (fun _ => ?_) (fun h => absurd h hk2)
      repeat (first | refine ue ?_ | refine ud ?_ | refine wN vM (by kernel_rfl) ?_ | refine vG ?_ | (refine ug ?_; first | refine uh tab_ok rfl rfl rfl rfl byE rfl ?_ | refine vl tab_ok rfl rfl rfl rfl rfl rfl rfl (by decide) rfl rfl rfl ?_ | refine u9 tab_ok rfl rfl rfl rfl rfl rfl rfl rfl rfl ?_))
      refine uw (whole_ok b) call69 rfl rfl ⟨Sub.refl _, trivial⟩ rfl rfl rfl rfl ?_
      repeat (first | refine ue ?_ | refine ud ?_ | refine uf ?_ | (refine ug ?_; first | refine uh tab_ok rfl rfl rfl rfl byE rfl ?_ | refine vl tab_ok rfl rfl rfl rfl rfl rfl rfl (by decide) rfl rfl rfl ?_))
      refine uw (wC a) ze rfl rfl ⟨Sub.refl _, trivial⟩ rfl rfl rfl rfl ?_
      repeat (first | refine ue ?_ | refine uc ?_ | refine ud ?_ | refine uk ?_ | refine uf ?_ | (refine ug ?_; first | refine uh tab_ok rfl rfl rfl rfl byE rfl ?_ | refine ux tab_ok rfl rfl rfl rfl rfl rfl byC (by first | exact fun _ => trivial | (intro h; simp at h; omega)) rfl ?_ | refine vm rfl rfl rfl rfl rfl rfl rfl rfl ?_))
      all_goals exact qW byO rfl rfl rfl rfl rfl (Sub.refl _) (Sub.refl _) (Sub.refl _)
end Go.Proofs.YtfmafehogfikmaaGreatDoor

/- define: a style that is put together; systemOf, negativeOf, around; walked. -/
namespace Go.Proofs.YtfmafehogfikmaaGreatDoor
open Go Go.RowKit
set_option maxRecDepth 20000

structure Sd where
  name : ByteArray
  system : ByteArray
  first : Int
  symbols : List ByteArray
  weights : List Int
  neg1 : ByteArray
  neg2 : ByteArray
  pre : ByteArray
  suf : ByteArray
  auto : Bool
  range : List (Int × Int)
  pad : Int
  padSign : ByteArray
  fall : ByteArray
  ext : ByteArray
  said : Nat
  syms : List ByteArray
  sums : List ByteArray
  wts : List Int
  symbolic : Bool
  additive : Bool
def rgD (p : Int × Int) : D := .ag [.val (.int .i64 p.1), .val (.int .i64 p.2)]
def wtD (n : Int) : D := .val (.int .i64 n)
def dfC (S : Sd) : List AV := [.val (.string S.name), .val (.string S.system), .val (.int .i64 S.first), .sl 1 (S.symbols.map sF), .sl 1 (S.weights.map wtD), .val (.string S.neg1), .val (.string S.neg2), .val (.string S.pre), .val (.string S.suf), .val (.bool S.auto), .sl 2 (S.range.map rgD), .val (.int .i64 S.pad), .val (.string S.padSign), .val (.string S.fall), .val (.string S.ext), .val (.int .i64 (S.said : Nat))]
def dfA (S : Sd) : AV := .agg (dfC S)
def sdB (S : Sd) : AB := .box 61 [.val (.string S.name), .val (.string S.system), .val (.int .i64 S.first), .sl 1 (S.symbols.map sF), .sl 1 (S.weights.map wtD), .val (.string S.neg1), .val (.string S.neg2), .val (.string S.pre), .val (.string S.suf), .val (.bool S.auto), .sl 2 (S.range.map rgD), .val (.int .i64 S.pad), .val (.string S.padSign), .val (.string S.fall), .val (.string S.ext), .val (.int .i64 (S.said : Nat)), .sl 1 (S.syms.map sF), .sl 1 (S.sums.map sF), .sl 1 (S.wts.map wtD), .val (.bool S.symbolic), .val (.bool S.additive)]
section
variable {P : Program} {o : Oper} {M : List AB} {ρ : Operand → AV}
theorem astep_orN {t u : Nat} {x y : Operand} {k b : Nat} (ho : o.op = .binOp .or t x y u) (hx : ρ x = .val (.int .i64 (k : Int))) (hy : ρ y = .val (.int .i64 (b : Int))) (hk : k < 4611686018427387904) (hb : b < 4611686018427387904) : AStep P o M ρ M (.val (.int .i64 ((k ||| b : Nat) : Int))) :=
  .value fun S B β A w _ hs => by
    have h1 := hs x (by simp [ho, Op.operands])
    have h2 := hs y (by simp [ho, Op.operands])
    rw [hx] at h1; rw [hy] at h2
    have h2 : A.eval y = .int .i64 b := h2
    have h1 : A.eval x = .int .i64 k := h1
    refine ⟨.int .i64 ((k ||| b : Nat) : Int), ?_, rfl⟩
    have e : (Op.intBits .or .i64 (k : Int) (b : Int)).run P w = .ok (.int .i64 ((k ||| b : Nat) : Int)) w := by
      have hlt : k ||| b < 4611686018427387904 := Nat.or_lt_two_pow (n := 62) hk hb
      have h3 : (BitVec.ofInt 64 (k : Int) ||| BitVec.ofInt 64 (b : Int)).toNat = k ||| b := by
        rw [BitVec.toNat_or]
        simp only [BitVec.ofInt_natCast, BitVec.toNat_ofNat]
        rw [Nat.mod_eq_of_lt (by omega), Nat.mod_eq_of_lt (by omega)]
      have h4 : IntKind.i64.wrap ((k ||| b : Nat) : Int) = ((k ||| b : Nat) : Int) := by
        simp only [IntKind.wrap, IntKind.bits, IntKind.signed]
        simp
        omega
      show (pure (Value.int .i64 (IntKind.i64.wrap ((BitVec.ofInt 64 (k : Int) ||| BitVec.ofInt 64 (b : Int)).toNat : Int))) : Sem Value).run P w = _
      rw [h3, h4]; rfl
    simp [execOp, ho, h1, h2, eqGuard, binOp, e]
variable {ops : Array Oper} {N : Nat} {K : AS → Prop} {r : List Oper} {fo fo' : Option (List Nat)} {F : List (Nat × AV)} {dt : Tmp}
theorem yl {t u : Nat} {x y : Operand} {k b : Nat} (hg : o.guard = none) (ho : o.op = .binOp .or t x y u) (hx : u0 (uH F) x = .val (.int .i64 (k : Int))) (hy : u0 (uH F) y = .val (.int .i64 (b : Int))) (hk : k < 4611686018427387904) (hb : b < 4611686018427387904) (hdd : o.dst = some dt) (hd : vn o.dst N = true) (hp : vF fo 0 = some fo')
    (k' : RunX P ops N K r fo' M ((dt, .val (.int .i64 ((k ||| b : Nat) : Int))) :: F)) : RunX P ops N K (o :: r) fo M F :=
  RunX.mk (fun _ k => Run.pure_ hd (fun _ => StepG.plain hg (astep_orN ho hx hy hk hb)) (by rw [uT hdd]; exact k)) hp k'
end
def plaN : ByteArray := ⟨#[99, 121, 99, 108, 105, 99, 32, 110, 117, 109, 101, 114, 105, 99, 32, 97, 108, 112, 104, 97, 98, 101, 116, 105, 99, 32, 115, 121, 109, 98, 111, 108, 105, 99, 32, 97, 100, 100, 105, 116, 105, 118, 101, 32, 102, 105, 120, 101, 100]⟩
def fxdS : ByteArray := ⟨#[102, 105, 120, 101, 100]⟩
def extS : ByteArray := ⟨#[101, 120, 116, 101, 110, 100, 115]⟩
def qG (first : ByteArray) (m : Nd) (S : Sd) : Sd × Bool :=
  if first = fxdS then (if (xe m).2 then ({ S with system := first, first := (xe m).1, ext := ⟨#[]⟩ }, true) else (S, false)) else
  if first = extS then (if (nmF [m]).2 then ({ S with system := first, first := 1, ext := (nmF [m]).1 }, true) else (S, false)) else (S, false)
def zP (S : Sd) : List Nd → Sd × Bool
  | [n] => if n.tok.kind = 1 then (if xq plaN (vk n.tok.text) then ({ S with system := vk n.tok.text, first := 1, ext := ⟨#[]⟩ }, true) else (S, false)) else (S, false)
  | [n, m] => if n.tok.kind = 1 then qG (vk n.tok.text) m S else (S, false)
  | _ => (S, false)
set_option maxHeartbeats 8000000 in
theorem system_ok (S0 : Sd) (l : List Nd) (hne : l ≠ []) (hl : u4 l < 1099511627776) (ht : ∀ n ∈ l, n.tok.text.size ≤ 1099511627776) : u3 Tryz.prog 38 [sdB S0] [.ptr 0 0, .sl 7 (l.map nF)] [sdB (zP S0 l).1] (.val (.bool (zP S0 l).2)) := by
  have hlm : (l.map nF).length = l.length := List.length_map _
  have hll := u7 l
  refine vu Tryz.func38 Tryz.ntmps38 rfl rfl rfl fun S w β => ?_
  match l, hne, hl, ht, hlm, hll with
  | [], hne, _, _, _, _ => exact absurd rfl hne
  | [n], _, hl, ht, hlm, hll =>
    have hp := yE n.tok.text (by have := ht n (by simp); omega)
    repeat (first | refine ue ?_ | refine ud ?_ | refine uf ?_ | (refine ug ?_; first | refine uh tab_ok rfl rfl rfl rfl byE rfl ?_ | refine vl tab_ok rfl rfl rfl rfl rfl rfl rfl (by decide) rfl rfl rfl ?_))
    refine uw hp call30 rfl rfl ⟨Sub.refl _, trivial⟩ rfl rfl rfl rfl ?_
    by_cases hk : n.tok.kind = 1
    · rw [show zP S0 [n] = (if xq plaN (vk n.tok.text) then ({ S0 with system := vk n.tok.text, first := 1, ext := ⟨#[]⟩ }, true) else (S0, false)) from if_pos hk]
      have hk2 : ([n][Int.toNat 0]'(Nat.succ_pos _)).tok.kind = 1 := hk
      repeat (first | refine ue ?_ | refine uc ?_ | refine um ?_ | refine ud ?_ | refine uf ?_ | (refine ug ?_; first | refine uG tab_ok rfl rfl rfl rfl rfl rfl rfl ?_ | refine uh tab_ok rfl rfl rfl rfl byE rfl ?_ | refine vl tab_ok rfl rfl rfl rfl rfl rfl rfl (by decide) rfl rfl rfl ?_ | refine uY tab_ok rfl rfl rfl rfl rfl rfl (by first | exact trivial | omega) rfl ?_) | refine ur rfl ?_ | refine r_g rfl rfl rfl ?_ | refine r_g rfl rfl (congrArg (fun b => AV.val (.bool b)) (v4 (by omega))) ?_ | refine uD rfl rfl (congrArg (fun b => AV.val (.bool b)) (v4 (by omega))) rfl rfl rfl rfl ?_)
      refine uw (among_ok plaN (vk n.tok.text) (by decide) (by kernel_rfl)) call29 rfl rfl ⟨Sub.refl _, Sub.refl _, trivial⟩ rfl rfl rfl rfl ?_
      cases hb : xq plaN (vk n.tok.text) with
      | true =>
        rw [if_pos rfl]
        repeat (first | refine ue ?_ | refine uc ?_ | refine ud ?_ | refine uk ?_ | refine un ?_ | refine uu ?_ | refine uf ?_ | (refine ug ?_; first | refine uh tab_ok rfl rfl rfl rfl byE rfl ?_ | refine uM tab_ok rfl rfl rfl rfl ?_ | refine uN rfl rfl rfl rfl rfl rfl rfl ?_ | refine uB rfl rfl rfl rfl rfl rfl rfl ?_) | refine uq rfl ?_)
        exact vj [sdB { S0 with system := vk n.tok.text, first := 1, ext := ⟨#[]⟩ }] [(4, .val (.bool true))] (ul byV byV ⟨trivial, trivial⟩) byO rfl rfl rfl rfl rfl (Sub.refl _)
      | false =>
        rw [if_neg Bool.false_ne_true]
        repeat (first | refine ue ?_ | refine uc ?_ | refine ud ?_ | refine uk ?_ | refine uj ?_ | refine uf ?_ | (refine ug ?_; first | refine uG tab_ok rfl rfl rfl rfl rfl rfl rfl ?_ | refine uh tab_ok rfl rfl rfl rfl byE rfl ?_ | refine uN rfl rfl rfl rfl rfl rfl rfl ?_ | refine uD rfl rfl rfl rfl rfl rfl rfl ?_ | refine va rfl rfl rfl rfl rfl rfl ?_) | refine ur rfl ?_)
        exact vj [sdB S0] [(4, .val (.bool false))] (ul byV byV ⟨trivial, trivial⟩) byO rfl rfl rfl rfl rfl (Sub.refl _)
    · rw [show zP S0 [n] = (S0, false) from if_neg hk]
      have hk2 : ¬ ([n][Int.toNat 0]'(Nat.succ_pos _)).tok.kind = 1 := hk
      repeat (first | refine ue ?_ | refine uc ?_ | refine um ?_ | refine ud ?_ | refine uk ?_ | refine un ?_ | refine uu ?_ | refine uf ?_ | (refine ug ?_; first | refine uh tab_ok rfl rfl rfl rfl byE rfl ?_ | refine vl tab_ok rfl rfl rfl rfl rfl rfl rfl (by decide) rfl rfl rfl ?_) | refine uq rfl ?_ | refine uN rfl rfl (congrArg (fun b => AV.val (.bool b)) (xg (by omega))) rfl rfl rfl rfl ?_ | refine va rfl rfl (congrArg (fun b => AV.val (.bool b)) (xg (by omega))) rfl rfl rfl ?_)
      exact vj [sdB S0] [(4, .val (.bool false))] (ul byV byV ⟨trivial, trivial⟩) byO rfl rfl rfl rfl rfl (Sub.refl _)
  | a :: b :: c :: r, _, hl, ht, hlm, hll =>
    have hp := yE a.tok.text (by have := ht a (by simp); omega)
    have hne : (2 : Int) < (((a :: b :: c :: r).length : Nat) : Int) := by simp only [List.length_cons]; omega
    repeat (first | refine ue ?_ | refine ud ?_ | refine uf ?_ | (refine ug ?_; first | refine uh tab_ok rfl rfl rfl rfl byE rfl ?_ | refine vf tab_ok rfl rfl rfl rfl rfl rfl rfl (by first | exact ⟨by omega, by omega⟩ | (simp; omega)) rfl rfl ?_))
    refine uw hp call30 rfl rfl ⟨Sub.refl _, trivial⟩ rfl rfl rfl rfl ?_
    by_cases hk : a.tok.kind = 1
    · have hk2 : ((a :: b :: c :: r)[Int.toNat 0]'(Nat.succ_pos _)).tok.kind = 1 := hk
      repeat (first | refine ue ?_ | refine uc ?_ | refine um ?_ | refine ud ?_ | refine uf ?_ | (refine ug ?_; first | refine uG tab_ok rfl rfl rfl rfl rfl rfl rfl ?_ | refine uh tab_ok rfl rfl rfl rfl byE rfl ?_ | refine vf tab_ok rfl rfl rfl rfl rfl rfl rfl (by first | exact ⟨by omega, by omega⟩ | (simp; omega)) rfl rfl ?_) | refine r_g rfl rfl (congrArg (fun b => AV.val (.bool b)) (v4 (by omega))) ?_ | refine uD rfl rfl (congrArg (fun b => AV.val (.bool b)) (v4 (by omega))) rfl rfl rfl rfl ?_)
      refine uo rfl (fun _ => ?_) (fun h => absurd hne h)
      repeat (first | refine ue ?_ | refine uc ?_ | refine ud ?_ | refine uk ?_ | refine un ?_ | refine uu ?_ | refine uf ?_ | (refine ug ?_; first | refine uh tab_ok rfl rfl rfl rfl byE rfl ?_))
      exact vj [sdB S0] [(4, .val (.bool false))] (ul byV byV ⟨trivial, trivial⟩) byO rfl rfl rfl rfl rfl (Sub.refl _)
    · have hk2 : ¬ ((a :: b :: c :: r)[Int.toNat 0]'(Nat.succ_pos _)).tok.kind = 1 := hk
      repeat (first | refine ue ?_ | refine uc ?_ | refine um ?_ | refine ud ?_ | refine uk ?_ | refine un ?_ | refine uu ?_ | refine uf ?_ | (refine ug ?_; first | refine uh tab_ok rfl rfl rfl rfl byE rfl ?_ | refine vf tab_ok rfl rfl rfl rfl rfl rfl rfl (by first | exact ⟨by omega, by omega⟩ | (simp; omega)) rfl rfl ?_) | refine uq rfl ?_ | refine uN rfl rfl (congrArg (fun b => AV.val (.bool b)) (xg (by omega))) rfl rfl rfl rfl ?_ | refine va rfl rfl (congrArg (fun b => AV.val (.bool b)) (xg (by omega))) rfl rfl rfl ?_)
      exact vj [sdB S0] [(4, .val (.bool false))] (ul byV byV ⟨trivial, trivial⟩) byO rfl rfl rfl rfl rfl (Sub.refl _)
  | [n, m], _, hl, ht, hlm, hll =>
    have hp := yE n.tok.text (by have := ht n (by simp); omega)
    repeat (first | refine ue ?_ | refine ud ?_ | refine uf ?_ | (refine ug ?_; first | refine uh tab_ok rfl rfl rfl rfl byE rfl ?_ | refine vl tab_ok rfl rfl rfl rfl rfl rfl rfl (by decide) rfl rfl rfl ?_))
    refine uw hp call30 rfl rfl ⟨Sub.refl _, trivial⟩ rfl rfl rfl rfl ?_
    by_cases hk : n.tok.kind = 1
    · rw [show zP S0 [n, m] = qG (vk n.tok.text) m S0 from if_pos hk]
      have hk2 : ([n, m][Int.toNat 0]'(Nat.succ_pos _)).tok.kind = 1 := hk
      generalize vk n.tok.text = first
      repeat (first | refine ue ?_ | refine uc ?_ | refine um ?_ | refine ud ?_ | refine uf ?_ | (refine ug ?_; first | refine uG tab_ok rfl rfl rfl rfl rfl rfl rfl ?_ | refine uh tab_ok rfl rfl rfl rfl byE rfl ?_ | refine vl tab_ok rfl rfl rfl rfl rfl rfl rfl (by decide) rfl rfl rfl ?_ | refine uN rfl rfl rfl rfl rfl rfl rfl ?_ | refine uD rfl rfl rfl rfl rfl rfl rfl ?_ | refine va rfl rfl rfl rfl rfl rfl ?_ | refine uY tab_ok rfl rfl rfl rfl rfl rfl (by first | exact trivial | omega) rfl ?_) | refine ur rfl ?_ | refine r_g rfl rfl (congrArg (fun b => AV.val (.bool b)) (v4 (by omega))) ?_ | refine uD rfl rfl (congrArg (fun b => AV.val (.bool b)) (v4 (by omega))) rfl rfl rfl rfl ?_)
      refine uo rfl (fun (hf : first = fxdS) => ?_) (fun (hf : ¬ first = fxdS) => ?_)
      · rw [show qG first m S0 = (if (xe m).2 then ({ S0 with system := first, first := (xe m).1, ext := ⟨#[]⟩ }, true) else (S0, false)) from if_pos hf]
        repeat (first | refine ue ?_ | refine ud ?_ | (refine ug ?_; first | refine uh tab_ok rfl rfl rfl rfl byE rfl ?_ | refine vl tab_ok rfl rfl rfl rfl rfl rfl rfl (by decide) rfl rfl rfl ?_))
        refine uw (whole_ok m) call69 rfl rfl ⟨Sub.refl _, trivial⟩ rfl rfl rfl rfl ?_
        cases hb : (xe m).2 with
        | true =>
          rw [if_pos rfl]
          repeat (first | refine ue ?_ | refine uc ?_ | refine ud ?_ | refine uk ?_ | refine un ?_ | refine uu ?_ | refine uf ?_ | (refine ug ?_; first | refine uh tab_ok rfl rfl rfl rfl byE rfl ?_ | refine uM tab_ok rfl rfl rfl rfl ?_ | refine uB rfl rfl rfl rfl rfl rfl rfl ?_) | refine uq rfl ?_)
          exact vj [sdB { S0 with system := first, first := (xe m).1, ext := ⟨#[]⟩ }] [(4, .val (.bool true))] (ul byV byV ⟨trivial, trivial⟩) byO rfl rfl rfl rfl rfl (Sub.refl _)
        | false =>
          rw [if_neg Bool.false_ne_true]
          repeat (first | refine ue ?_ | refine uc ?_ | refine ud ?_ | refine uk ?_ | refine un ?_ | refine uu ?_ | refine uj ?_ | refine uf ?_ | (refine ug ?_; first | refine uh tab_ok rfl rfl rfl rfl byE rfl ?_) | refine ur rfl ?_)
          exact vj [sdB S0] [(4, .val (.bool false))] (ul byV byV ⟨trivial, trivial⟩) byO rfl rfl rfl rfl rfl (Sub.refl _)
      repeat (first | refine ue ?_ | refine uc ?_ | refine ud ?_ | refine uf ?_ | (refine ug ?_; first | refine uG tab_ok rfl rfl rfl rfl rfl rfl rfl ?_ | refine uh tab_ok rfl rfl rfl rfl byE rfl ?_ | refine uN rfl rfl rfl rfl rfl rfl rfl ?_ | refine uY tab_ok rfl rfl rfl rfl rfl rfl (by first | exact trivial | omega) rfl ?_))
      refine uo rfl (fun (hf2 : first = extS) => ?_) (fun (hf2 : ¬ first = extS) => ?_)
      · rw [show qG first m S0 = (if (nmF [m]).2 then ({ S0 with system := first, first := 1, ext := (nmF [m]).1 }, true) else (S0, false)) from (if_neg hf).trans (if_pos hf2)]
        repeat (first | refine ue ?_ | refine ud ?_ | (refine ug ?_; first | refine uh tab_ok rfl rfl rfl rfl byE rfl ?_))
        refine xj tab_ok rfl rfl rfl rfl rfl rfl rfl rfl (by simp) rfl ?_
        refine uw (kh [m] (by simp only [u4] at hl ⊢; omega) (fun x hx => ht x (by simp at hx ⊢; exact .inr hx))) call11 rfl rfl ⟨Sub.refl _, trivial⟩ rfl rfl rfl rfl ?_
        cases hb : (nmF [m]).2 with
        | true =>
          rw [if_pos rfl]
          repeat (first | refine ue ?_ | refine uc ?_ | refine ud ?_ | refine uk ?_ | refine un ?_ | refine uu ?_ | refine uf ?_ | (refine ug ?_; first | refine uh tab_ok rfl rfl rfl rfl byE rfl ?_ | refine uM tab_ok rfl rfl rfl rfl ?_ | refine uB rfl rfl rfl rfl rfl rfl rfl ?_) | refine uq rfl ?_)
          exact vj [sdB { S0 with system := first, first := 1, ext := (nmF [m]).1 }] [(4, .val (.bool true))] (ul byV byV ⟨trivial, trivial⟩) byO rfl rfl rfl rfl rfl (Sub.refl _)
        | false =>
          rw [if_neg Bool.false_ne_true]
          repeat (first | refine ue ?_ | refine uc ?_ | refine ud ?_ | refine uk ?_ | refine un ?_ | refine uu ?_ | refine uj ?_ | refine uf ?_ | (refine ug ?_; first | refine uh tab_ok rfl rfl rfl rfl byE rfl ?_) | refine ur rfl ?_)
          exact vj [sdB S0] [(4, .val (.bool false))] (ul byV byV ⟨trivial, trivial⟩) byO rfl rfl rfl rfl rfl (Sub.refl _)
      · rw [show qG first m S0 = (S0, false) from (if_neg hf).trans (if_neg hf2)]
        repeat (first | refine ue ?_ | refine uc ?_ | refine ud ?_ | refine uk ?_ | refine uj ?_ | refine uf ?_ | (refine ug ?_; first | refine uh tab_ok rfl rfl rfl rfl byE rfl ?_))
        exact vj [sdB S0] [(4, .val (.bool false))] (ul byV byV ⟨trivial, trivial⟩) byO rfl rfl rfl rfl rfl (Sub.refl _)
    · rw [show zP S0 [n, m] = (S0, false) from if_neg hk]
      have hk2 : ¬ ([n, m][Int.toNat 0]'(Nat.succ_pos _)).tok.kind = 1 := hk
      repeat (first | refine ue ?_ | refine uc ?_ | refine um ?_ | refine ud ?_ | refine uk ?_ | refine un ?_ | refine uu ?_ | refine uf ?_ | (refine ug ?_; first | refine uh tab_ok rfl rfl rfl rfl byE rfl ?_ | refine vl tab_ok rfl rfl rfl rfl rfl rfl rfl (by decide) rfl rfl rfl ?_) | refine uq rfl ?_ | refine uN rfl rfl (congrArg (fun b => AV.val (.bool b)) (xg (by omega))) rfl rfl rfl rfl ?_ | refine va rfl rfl (congrArg (fun b => AV.val (.bool b)) (xg (by omega))) rfl rfl rfl ?_)
      exact vj [sdB S0] [(4, .val (.bool false))] (ul byV byV ⟨trivial, trivial⟩) byO rfl rfl rfl rfl rfl (Sub.refl _)
/-- A sign for a prefix, or a suffix: in which cell. -/
def xh (S : Sd) (sfx : Bool) (l : List Nd) : Sd × Bool :=
  match l with
  | [n] => if (vE n).2 then (if sfx then { S with suf := (vE n).1, said := S.said ||| 4 } else { S with pre := (vE n).1, said := S.said ||| 2 }, true) else (S, false)
  | _ => (S, false)
set_option maxHeartbeats 8000000 in
theorem prefix_ok (S0 : Sd) (l : List Nd) (hne : l ≠ []) (hl : u4 l < 1099511627776) (hS : S0.said < 1000) : u3 Tryz.prog 40 [sdB S0] [.ptr 0 0, .sl 7 (l.map nF), .ptr 0 7, .val (.int .i64 2)] [sdB (xh S0 false l).1] (.val (.bool (xh S0 false l).2)) := by
  have hlm : (l.map nF).length = l.length := List.length_map _
  have hll := u7 l
  refine vu Tryz.func40 Tryz.ntmps40 rfl rfl rfl fun S w β => ?_
  match l, hne, hl, hlm, hll with
  | [], hne, _, _, _ => exact absurd rfl hne
  | [n], _, _, _, _ =>
    repeat (first | refine ue ?_ | refine ud ?_ | refine uf ?_ | (refine ug ?_; first | refine uh tab_ok rfl rfl rfl rfl byE rfl ?_ | refine vl tab_ok rfl rfl rfl rfl rfl rfl rfl (by decide) rfl rfl rfl ?_))
    refine uw (wC n) ze rfl rfl ⟨Sub.refl _, trivial⟩ rfl rfl rfl rfl ?_
    cases hb : (vE n).2 with
    | true =>
      rw [show xh S0 false [n] = ({ S0 with pre := (vE n).1, said := S0.said ||| 2 }, true) by simp [xh, hb]]
      repeat (first | refine ue ?_ | refine uc ?_ | refine ud ?_ | refine uj ?_ | refine uf ?_ | (refine ug ?_; first | refine uh tab_ok rfl rfl rfl rfl byE rfl ?_ | refine uJ tab_ok rfl rfl rfl rfl rfl ?_ | refine uM tab_ok rfl rfl rfl rfl ?_ | refine uD rfl rfl rfl rfl rfl rfl rfl ?_ | refine v6 tab_ok rfl rfl rfl rfl rfl rfl rfl rfl rfl ?_ | refine uY tab_ok rfl rfl rfl rfl rfl rfl (by first | exact trivial | omega) rfl ?_ | refine uB rfl rfl rfl rfl rfl rfl rfl ?_) | refine ur rfl ?_)
      refine yl rfl rfl rfl rfl (by omega) (by decide) rfl rfl rfl ?_
      repeat (first | refine ue ?_ | refine uc ?_ | refine ud ?_ | refine uk ?_ | refine uf ?_ | (refine ug ?_; first | refine uh tab_ok rfl rfl rfl rfl byE rfl ?_ | refine uM tab_ok rfl rfl rfl rfl ?_ | refine uB rfl rfl rfl rfl rfl rfl rfl ?_))
      exact vj [sdB { S0 with pre := (vE n).1, said := S0.said ||| 2 }] [(8, .val (.bool true))] (ul byV byV ⟨trivial, trivial⟩) byO rfl rfl rfl rfl rfl (Sub.refl _)
    | false =>
      rw [show xh S0 false [n] = (S0, false) by simp [xh, hb]]
      repeat (first | refine ue ?_ | refine uc ?_ | refine ud ?_ | refine uk ?_ | refine un ?_ | refine uf ?_ | (refine ug ?_; first | refine uh tab_ok rfl rfl rfl rfl byE rfl ?_ | refine uN rfl rfl rfl rfl rfl rfl rfl ?_ | refine va rfl rfl rfl rfl rfl rfl ?_) | refine uq rfl ?_)
      exact vj [sdB S0] [(8, .val (.bool false))] (ul byV byV ⟨trivial, trivial⟩) byO rfl rfl rfl rfl rfl (Sub.refl _)
  | a :: b :: r, _, hl, hlm, hll =>
    have hne : ¬ (((a :: b :: r).length : Nat) : Int) = 1 := by simp only [List.length_cons]; omega
    rw [show xh S0 false (a :: b :: r) = (S0, false) from rfl]
    repeat (first | refine ue ?_ | refine ud ?_ | refine uf ?_ | (refine ug ?_; first | refine uh tab_ok rfl rfl rfl rfl byE rfl ?_ | refine vl tab_ok rfl rfl rfl rfl rfl rfl rfl (by decide) rfl rfl rfl ?_))
    refine uw (wC a) ze rfl rfl ⟨Sub.refl _, trivial⟩ rfl rfl rfl rfl ?_
    cases hb : (vE a).2 with
    | true =>
      repeat (first | refine ue ?_ | refine uc ?_ | refine ud ?_ | refine uk ?_ | refine un ?_ | refine uf ?_ | (refine ug ?_; first | refine uh tab_ok rfl rfl rfl rfl byE rfl ?_ | refine uD rfl rfl rfl rfl rfl rfl rfl ?_ | refine v6 tab_ok rfl rfl rfl rfl rfl rfl rfl rfl rfl ?_ | refine uY tab_ok rfl rfl rfl rfl rfl rfl (by first | exact trivial | omega) rfl ?_) | refine uq rfl ?_)
      exact vj [sdB S0] [(8, .val (.bool false))] (ul byV byV ⟨trivial, trivial⟩) byO rfl rfl rfl rfl rfl (Sub.refl _)
    | false =>
      repeat (first | refine ue ?_ | refine uc ?_ | refine ud ?_ | refine uk ?_ | refine un ?_ | refine uf ?_ | (refine ug ?_; first | refine uh tab_ok rfl rfl rfl rfl byE rfl ?_ | refine uN rfl rfl rfl rfl rfl rfl rfl ?_ | refine va rfl rfl rfl rfl rfl rfl ?_) | refine uq rfl ?_)
      exact vj [sdB S0] [(8, .val (.bool false))] (ul byV byV ⟨trivial, trivial⟩) byO rfl rfl rfl rfl rfl (Sub.refl _)
set_option maxHeartbeats 8000000 in
theorem suffix_ok (S0 : Sd) (l : List Nd) (hne : l ≠ []) (hl : u4 l < 1099511627776) (hS : S0.said < 1000) : u3 Tryz.prog 40 [sdB S0] [.ptr 0 0, .sl 7 (l.map nF), .ptr 0 8, .val (.int .i64 4)] [sdB (xh S0 true l).1] (.val (.bool (xh S0 true l).2)) := by
  have hlm : (l.map nF).length = l.length := List.length_map _
  have hll := u7 l
  refine vu Tryz.func40 Tryz.ntmps40 rfl rfl rfl fun S w β => ?_
  match l, hne, hl, hlm, hll with
  | [], hne, _, _, _ => exact absurd rfl hne
  | [n], _, _, _, _ =>
    repeat (first | refine ue ?_ | refine ud ?_ | refine uf ?_ | (refine ug ?_; first | refine uh tab_ok rfl rfl rfl rfl byE rfl ?_ | refine vl tab_ok rfl rfl rfl rfl rfl rfl rfl (by decide) rfl rfl rfl ?_))
    refine uw (wC n) ze rfl rfl ⟨Sub.refl _, trivial⟩ rfl rfl rfl rfl ?_
    cases hb : (vE n).2 with
    | true =>
      rw [show xh S0 true [n] = ({ S0 with suf := (vE n).1, said := S0.said ||| 4 }, true) by simp [xh, hb]]
      repeat (first | refine ue ?_ | refine uc ?_ | refine ud ?_ | refine uj ?_ | refine uf ?_ | (refine ug ?_; first | refine uh tab_ok rfl rfl rfl rfl byE rfl ?_ | refine uJ tab_ok rfl rfl rfl rfl rfl ?_ | refine uM tab_ok rfl rfl rfl rfl ?_ | refine uD rfl rfl rfl rfl rfl rfl rfl ?_ | refine v6 tab_ok rfl rfl rfl rfl rfl rfl rfl rfl rfl ?_ | refine uY tab_ok rfl rfl rfl rfl rfl rfl (by first | exact trivial | omega) rfl ?_ | refine uB rfl rfl rfl rfl rfl rfl rfl ?_) | refine ur rfl ?_)
      refine yl rfl rfl rfl rfl (by omega) (by decide) rfl rfl rfl ?_
      repeat (first | refine ue ?_ | refine uc ?_ | refine ud ?_ | refine uk ?_ | refine uf ?_ | (refine ug ?_; first | refine uh tab_ok rfl rfl rfl rfl byE rfl ?_ | refine uM tab_ok rfl rfl rfl rfl ?_ | refine uB rfl rfl rfl rfl rfl rfl rfl ?_))
      exact vj [sdB { S0 with suf := (vE n).1, said := S0.said ||| 4 }] [(8, .val (.bool true))] (ul byV byV ⟨trivial, trivial⟩) byO rfl rfl rfl rfl rfl (Sub.refl _)
    | false =>
      rw [show xh S0 true [n] = (S0, false) by simp [xh, hb]]
      repeat (first | refine ue ?_ | refine uc ?_ | refine ud ?_ | refine uk ?_ | refine un ?_ | refine uf ?_ | (refine ug ?_; first | refine uh tab_ok rfl rfl rfl rfl byE rfl ?_ | refine uN rfl rfl rfl rfl rfl rfl rfl ?_ | refine va rfl rfl rfl rfl rfl rfl ?_) | refine uq rfl ?_)
      exact vj [sdB S0] [(8, .val (.bool false))] (ul byV byV ⟨trivial, trivial⟩) byO rfl rfl rfl rfl rfl (Sub.refl _)
  | a :: b :: r, _, hl, hlm, hll =>
    have hne : ¬ (((a :: b :: r).length : Nat) : Int) = 1 := by simp only [List.length_cons]; omega
    rw [show xh S0 true (a :: b :: r) = (S0, false) from rfl]
    repeat (first | refine ue ?_ | refine ud ?_ | refine uf ?_ | (refine ug ?_; first | refine uh tab_ok rfl rfl rfl rfl byE rfl ?_ | refine vl tab_ok rfl rfl rfl rfl rfl rfl rfl (by decide) rfl rfl rfl ?_))
    refine uw (wC a) ze rfl rfl ⟨Sub.refl _, trivial⟩ rfl rfl rfl rfl ?_
    cases hb : (vE a).2 with
    | true =>
      repeat (first | refine ue ?_ | refine uc ?_ | refine ud ?_ | refine uk ?_ | refine un ?_ | refine uf ?_ | (refine ug ?_; first | refine uh tab_ok rfl rfl rfl rfl byE rfl ?_ | refine uD rfl rfl rfl rfl rfl rfl rfl ?_ | refine v6 tab_ok rfl rfl rfl rfl rfl rfl rfl rfl rfl ?_ | refine uY tab_ok rfl rfl rfl rfl rfl rfl (by first | exact trivial | omega) rfl ?_) | refine uq rfl ?_)
      exact vj [sdB S0] [(8, .val (.bool false))] (ul byV byV ⟨trivial, trivial⟩) byO rfl rfl rfl rfl rfl (Sub.refl _)
    | false =>
      repeat (first | refine ue ?_ | refine uc ?_ | refine ud ?_ | refine uk ?_ | refine un ?_ | refine uf ?_ | (refine ug ?_; first | refine uh tab_ok rfl rfl rfl rfl byE rfl ?_ | refine uN rfl rfl rfl rfl rfl rfl rfl ?_ | refine va rfl rfl rfl rfl rfl rfl ?_) | refine uq rfl ?_)
      exact vj [sdB S0] [(8, .val (.bool false))] (ul byV byV ⟨trivial, trivial⟩) byO rfl rfl rfl rfl rfl (Sub.refl _)
end Go.Proofs.YtfmafehogfikmaaGreatDoor

/- define: padOf, fallbackOf, symbolsOf, rangeOf; walked. -/
namespace Go.Proofs.YtfmafehogfikmaaGreatDoor
open Go Go.RowKit
set_option maxRecDepth 20000

def padF (S : Sd) (l : List Nd) : Sd × Bool := if (wO l).2 then ({ S with pad := (wO l).1.1, padSign := (wO l).1.2, said := S.said ||| 16 }, true) else (S, false)
set_option maxHeartbeats 4000000 in
theorem pad_ok (S0 : Sd) (l : List Nd) (hl : l.length ≤ 1099511627776) (hS : S0.said < 1000) : u3 Tryz.prog 42 [sdB S0] [.ptr 0 0, .sl 7 (l.map nF)] [sdB (padF S0 l).1] (.val (.bool (padF S0 l).2)) := by
  refine vu Tryz.func42 Tryz.ntmps42 rfl rfl rfl fun S w β => ?_
  rw [padF]
  repeat (first | refine ue ?_ | refine ud ?_ | refine uf ?_ | (refine ug ?_; first | refine uh tab_ok rfl rfl rfl rfl byE rfl ?_))
  refine uw (weighed_ok l hl) call73 rfl rfl ⟨Sub.refl _, trivial⟩ rfl rfl rfl rfl ?_
  cases hb : (wO l).2 with
  | true =>
    rw [if_pos rfl]
    repeat (first | refine ue ?_ | refine uc ?_ | refine ud ?_ | refine uf ?_ | (refine ug ?_; first | refine uh tab_ok rfl rfl rfl rfl byE rfl ?_ | refine uJ tab_ok rfl rfl rfl rfl rfl ?_ | refine uM tab_ok rfl rfl rfl rfl ?_ | refine uB rfl rfl rfl rfl rfl rfl rfl ?_) | refine uq rfl ?_)
    refine yl rfl rfl rfl rfl (by omega) (by decide) rfl rfl rfl ?_
    repeat (first | refine ue ?_ | refine uc ?_ | refine ud ?_ | refine uk ?_ | refine uf ?_ | (refine ug ?_; first | refine uh tab_ok rfl rfl rfl rfl byE rfl ?_ | refine uM tab_ok rfl rfl rfl rfl ?_ | refine uB rfl rfl rfl rfl rfl rfl rfl ?_))
    exact vj [sdB { S0 with pad := (wO l).1.1, padSign := (wO l).1.2, said := S0.said ||| 16 }] [(4, .val (.bool true))] (ul byV byV ⟨trivial, trivial⟩) byO rfl rfl rfl rfl rfl (Sub.refl _)
  | false =>
    rw [if_neg Bool.false_ne_true]
    repeat (first | refine ue ?_ | refine uc ?_ | refine ud ?_ | refine uk ?_ | refine uj ?_ | refine uf ?_ | (refine ug ?_; first | refine uh tab_ok rfl rfl rfl rfl byE rfl ?_) | refine ur rfl ?_)
    exact vj [sdB S0] [(4, .val (.bool false))] (ul byV byV ⟨trivial, trivial⟩) byO rfl rfl rfl rfl rfl (Sub.refl _)
def falF (S : Sd) (l : List Nd) : Sd × Bool := if (nmF l).2 then ({ S with fall := (nmF l).1, said := S.said ||| 32 }, true) else (S, false)
set_option maxHeartbeats 4000000 in
theorem fallback_ok (S0 : Sd) (l : List Nd) (hl : u4 l < 1099511627776) (ht : ∀ n ∈ l, n.tok.text.size ≤ 1099511627776) (hS : S0.said < 1000) : u3 Tryz.prog 43 [sdB S0] [.ptr 0 0, .sl 7 (l.map nF)] [sdB (falF S0 l).1] (.val (.bool (falF S0 l).2)) := by
  refine vu Tryz.func43 Tryz.ntmps43 rfl rfl rfl fun S w β => ?_
  rw [falF]
  repeat (first | refine ue ?_ | refine ud ?_ | refine uf ?_ | (refine ug ?_; first | refine uh tab_ok rfl rfl rfl rfl byE rfl ?_))
  refine uw (kh l hl ht) call11 rfl rfl ⟨Sub.refl _, trivial⟩ rfl rfl rfl rfl ?_
  cases hb : (nmF l).2 with
  | true =>
    rw [if_pos rfl]
    repeat (first | refine ue ?_ | refine uc ?_ | refine ud ?_ | refine uf ?_ | (refine ug ?_; first | refine uh tab_ok rfl rfl rfl rfl byE rfl ?_ | refine uJ tab_ok rfl rfl rfl rfl rfl ?_ | refine uM tab_ok rfl rfl rfl rfl ?_ | refine uB rfl rfl rfl rfl rfl rfl rfl ?_) | refine uq rfl ?_)
    refine yl rfl rfl rfl rfl (by omega) (by decide) rfl rfl rfl ?_
    repeat (first | refine ue ?_ | refine uc ?_ | refine ud ?_ | refine uk ?_ | refine uf ?_ | (refine ug ?_; first | refine uh tab_ok rfl rfl rfl rfl byE rfl ?_ | refine uM tab_ok rfl rfl rfl rfl ?_ | refine uB rfl rfl rfl rfl rfl rfl rfl ?_))
    exact vj [sdB { S0 with fall := (nmF l).1, said := S0.said ||| 32 }] [(4, .val (.bool true))] (ul byV byV ⟨trivial, trivial⟩) byO rfl rfl rfl rfl rfl (Sub.refl _)
  | false =>
    rw [if_neg Bool.false_ne_true]
    repeat (first | refine ue ?_ | refine uc ?_ | refine ud ?_ | refine uk ?_ | refine uj ?_ | refine uf ?_ | (refine ug ?_; first | refine uh tab_ok rfl rfl rfl rfl byE rfl ?_) | refine ur rfl ?_)
    exact vj [sdB S0] [(4, .val (.bool false))] (ul byV byV ⟨trivial, trivial⟩) byO rfl rfl rfl rfl rfl (Sub.refl _)
def yw : List Nd → List ByteArray → Option (List ByteArray)
  | [], acc => some acc
  | n :: r, acc => if (vE n).2 then yw r (acc ++ [(vE n).1]) else none
def z7 (S : Sd) (l : List Nd) : Sd × Bool :=
  match yw l [] with
  | none => (S, false)
  | some a => ({ S with syms := a, symbolic := true }, true)
structure SyS (l : List Nd) where
  i : Nat
  acc : List ByteArray
  hi : i ≤ l.length
  ha : acc.length ≤ i
  eq : yw (l.drop i) acc = yw l []
set_option maxHeartbeats 4000000 in
theorem symbols_ok (S0 : Sd) (l : List Nd) (hl : l.length ≤ 1099511627776) : u3 Tryz.prog 44 [sdB S0] [.ptr 0 0, .sl 7 (l.map nF)] [sdB (z7 S0 l).1] (.val (.bool (z7 S0 l).2)) := by
  have hlm : (l.map nF).length = l.length := List.length_map _
  refine vu Tryz.func44 Tryz.ntmps44 rfl rfl rfl fun S w β => ?_
  rw [z7]
  repeat (first | refine ue ?_ | refine uc ?_ | refine um ?_ | refine ud ?_ | refine uf ?_ | (refine ug ?_; first | refine uG tab_ok rfl rfl rfl rfl rfl rfl rfl ?_ | refine uh tab_ok rfl rfl rfl rfl byE rfl ?_))
  refine uV (σ := SyS l) (fun x => [sdB S0, .row 0 9 1 (x.acc.map sF)]) (fun x => [(0, .ptr 0 0), (5, .row 1 0), (10, .sl 7 (l.map nF)), (11, .val (.int .i64 l.length)), (12, .val (.int .i64 x.i))]) (fun x => l.length - x.i) ⟨0, [], Nat.zero_le _, Nat.le_refl _, rfl⟩ (ul byV ⟨wS rfl rfl rfl rfl, c_nil rfl rfl, vb rfl (Sub.refl _) rfl, vb rfl (Sub.refl _) rfl, vb rfl (Sub.refl _) rfl, trivial⟩ ⟨trivial, trivial⟩) ?_
  rintro ⟨i, acc, hi, ha, heq⟩
  dsimp only
  rw [← heq]
  have hal : (acc.map sF).length = acc.length := List.length_map _
  repeat (first | refine ue ?_ | refine ud ?_ | refine uf ?_ | (refine ug ?_; first | refine uh tab_ok rfl rfl rfl rfl byE rfl ?_))
  refine uo rfl (fun hlt => ?_) (fun hge => ?_)
  · have hi' : i < l.length := by omega
    have hin : ((i : Nat) : Int).toNat < l.length := by simp only [Int.toNat_natCast]; exact hi'
    have hdr : l.drop i = l[i] :: l.drop (i + 1) := List.drop_eq_getElem_cons hi'
    rw [hdr] at heq ⊢
    repeat (first | refine ue ?_ | refine um ?_ | refine ud ?_ | refine uj ?_ | refine uf ?_ | (refine ug ?_; first | refine uh tab_ok rfl rfl rfl rfl byE rfl ?_ | refine uJ tab_ok rfl rfl rfl rfl rfl ?_ | refine vf tab_ok rfl rfl rfl rfl rfl rfl rfl (by first | exact ⟨by omega, by omega⟩ | (simp; omega)) rfl rfl ?_ | refine vp tab_ok rfl rfl rfl rfl rfl ?_ | refine uM tab_ok rfl rfl rfl rfl ?_))
    simp only [Int.toNat_natCast]
    refine uw (wC l[i]) ze rfl rfl ⟨Sub.refl _, trivial⟩ rfl rfl rfl rfl ?_
    cases hb : (vE l[i]).2 with
    | false =>
      rw [show yw (l[i] :: l.drop (i + 1)) acc = none by rw [yw, hb, if_neg Bool.false_ne_true]]
      repeat (first | refine ue ?_ | refine uc ?_ | refine ud ?_ | refine uk ?_ | refine un ?_ | refine uu ?_ | refine uf ?_ | (refine ug ?_; first | refine uh tab_ok rfl rfl rfl rfl byE rfl ?_) | refine uq rfl ?_)
      exact vj [sdB S0, .gone, .gone] [(4, .val (.bool false))] (ul byV byV ⟨trivial, trivial⟩) byO rfl rfl rfl rfl rfl (Sub.refl _)
    | true =>
      repeat (first | refine ue ?_ | refine uc ?_ | refine ud ?_ | refine uj ?_ | refine uf ?_ | (refine ug ?_; first | refine uh tab_ok rfl rfl rfl rfl byE rfl ?_ | refine u9 tab_ok rfl rfl rfl rfl rfl rfl rfl rfl rfl ?_ | refine u6 tab_ok rfl rfl rfl rfl rfl rfl rfl rfl rfl (by first | omega | (simp; omega)) rfl ?_) | refine ur rfl ?_)
      refine ⟨⟨i + 1, acc ++ [(vE l[i]).1], hi', by simp; omega, by rw [← heq, yw, hb, if_pos rfl]⟩, by dsimp only; omega, ?_⟩
      dsimp only
      rw [show (acc ++ [((vE l[i]).1 : ByteArray)]).map sF = acc.map sF ++ [sF (vE l[i]).1] from List.map_append]
      exact vN (s' := ⟨[sdB S0, .row 0 9 1 (acc.map sF ++ [sF (vE l[i]).1]), .gone], [(0, .ptr 0 0), (5, .row 1 0), (10, .sl 7 (l.map nF)), (11, .val (.int .i64 l.length)), (12, .val (.int .i64 (i + 1 : Nat)))]⟩) (ul byV byV ⟨trivial, trivial⟩) (u2 2 rfl rfl byK)
  · have : i = l.length := by omega
    subst this
    rw [show yw (l.drop l.length) acc = some acc by rw [List.drop_length, yw]]
    repeat (first | refine ue ?_ | refine uC ?_)
    refine ve (s' := ⟨[sdB S0, .gone], [(0, .ptr 0 0), (5, .sl 1 (acc.map sF))]⟩) (ul byV ⟨wS rfl rfl rfl rfl, yL rfl rfl rfl, trivial⟩ ⟨trivial, trivial⟩) ?_
    repeat (first | refine ue ?_ | refine uc ?_ | refine ud ?_ | refine uk ?_ | refine uf ?_ | (refine ug ?_; first | refine uh tab_ok rfl rfl rfl rfl byE rfl ?_ | refine uM tab_ok rfl rfl rfl rfl ?_ | refine uB rfl rfl rfl rfl rfl rfl rfl ?_))
    exact vj [sdB { S0 with syms := acc, symbolic := true }, .gone] [(4, .val (.bool true))] (ul byV byV ⟨trivial, trivial⟩) byO rfl rfl rfl rfl rfl (Sub.refl _)
def autS1 : ByteArray := ⟨#[97, 117, 116, 111]⟩
def xN : List (List Nd) → List (Int × Int) → Option (List (Int × Int))
  | [], acc => some acc
  | [a, b] :: r, acc => if (vJ a (-2147483648)).2 && (vJ b 2147483647).2 && decide ((vJ a (-2147483648)).1 ≤ (vJ b 2147483647).1) then xN r (acc ++ [((vJ a (-2147483648)).1, (vJ b 2147483647).1)]) else none
  | _, _ => none
def isAut : List Nd → Bool
  | [n] => isWd n autS1
  | _ => false
def zy (S : Sd) (l : List Nd) : Sd × Bool :=
  if isAut l then ({ S with auto := true, range := [], said := S.said ||| 8 }, true) else
  match xN (vO l) [] with
  | none => (S, false)
  | some a => ({ S with auto := false, range := a, said := S.said ||| 8 }, true)
end Go.Proofs.YtfmafehogfikmaaGreatDoor

/- define: rangeOf; walked. -/
namespace Go.Proofs.YtfmafehogfikmaaGreatDoor
open Go Go.RowKit
set_option maxRecDepth 20000

structure RgS (ps : List (List Nd)) where
  i : Nat
  acc : List (Int × Int)
  hi : i ≤ ps.length
  ha : acc.length ≤ i
  eq : xN (ps.drop i) acc = xN ps []
set_option maxHeartbeats 16000000 in
theorem range_0 (S0 : Sd) (l : List Nd) (hl0 : l = []) (hl : u4 l < 1099511627776) (ht : ∀ n ∈ l, n.tok.text.size ≤ 1099511627776) (hS : S0.said < 1000) : u3 Tryz.prog 41 [sdB S0] [.ptr 0 0, .sl 7 (l.map nF)] [sdB (zy S0 l).1] (.val (.bool (zy S0 l).2)) := by
  have hlm : (l.map nF).length = l.length := List.length_map _
  have hll := u7 l
  have hpt : ∀ p ∈ vO l, ∀ n ∈ p, n.tok.text.size ≤ 1099511627776 := fun p h n hn => ht n ((zo h).2 n hn)
  have hpb : (vO l).length ≤ 1099511627776 := by
    rw [vO, w4]
    have := List.countP_le_length (p := cmB) (l := l)
    simp only [List.length_nil]
    omega
  obtain ⟨ps, hps⟩ : ∃ ps, ps = vO l := ⟨_, rfl⟩
  rw [← hps] at hpt hpb
  have hpm : (ps.map nds).length = ps.length := List.length_map _
  refine vu Tryz.func41 Tryz.ntmps41 rfl rfl rfl fun S w β => ?_
  rw [zy, ← hps]
  subst hl0
  rw [show isAut [] = false from rfl, if_neg Bool.false_ne_true]
  repeat (first | refine ue ?_ | refine uc ?_ | refine ud ?_ | refine uj ?_ | refine uf ?_ | (refine ug ?_; first | refine uG tab_ok rfl rfl rfl rfl rfl rfl rfl ?_ | refine uh tab_ok rfl rfl rfl rfl byE rfl ?_ | refine ux tab_ok rfl rfl rfl rfl rfl rfl byC (by first | exact fun _ => trivial | (intro h; simp at h; omega)) rfl ?_ | refine wx tab_ok rfl rfl rfl rfl rfl rfl rfl byC rfl rfl (by first | (intro h; simp at h; exact ⟨by omega, by omega⟩) | (intro h; simp only [Bool.and_eq_true, Bool.or_eq_false_iff, beq_iff_eq, decide_eq_false_iff_not, decide_eq_true_eq] at h; exact ⟨by omega, by omega⟩)) rfl rfl ?_ | refine uD rfl rfl rfl rfl rfl rfl rfl ?_ | refine va rfl rfl rfl rfl rfl rfl ?_) | refine ur rfl ?_)
  refine uw (split_ok 1099511627776 _ hl (Nat.le_refl _)) call71 rfl rfl ⟨Sub.refl _, trivial⟩ rfl rfl rfl rfl ?_
  rw [← hps]
  repeat (first | refine uc ?_ | refine um ?_ | refine uf ?_ | (refine ug ?_; first | refine uG tab_ok rfl rfl rfl rfl rfl rfl rfl ?_ | refine uh tab_ok rfl rfl rfl rfl byE rfl ?_))
  refine uV (σ := RgS ps) (fun x => [sdB S0, .row 0 54 2 (x.acc.map rgD)]) (fun x => [(0, .ptr 0 0), (5, .row 1 0), (39, .sl 1 (ps.map nds)), (40, .val (.int .i64 ps.length)), (41, .val (.int .i64 x.i))]) (fun x => ps.length - x.i) ⟨0, [], Nat.zero_le _, Nat.le_refl _, rfl⟩ (ul byV ⟨wS rfl rfl rfl rfl, c_nil rfl rfl, vb rfl (Sub.refl _) rfl, vb rfl (Sub.of_eq (by rw [← hpm]; rfl)) rfl, vb rfl (Sub.refl _) rfl, trivial⟩ ⟨trivial, trivial⟩) ?_
  rintro ⟨i, acc, hi, ha, heq⟩
  dsimp only
  rw [← heq]
  have hal : (acc.map rgD).length = acc.length := List.length_map _
  repeat (first | refine ue ?_ | refine ud ?_ | refine uf ?_ | (refine ug ?_; first | refine uh tab_ok rfl rfl rfl rfl byE rfl ?_))
  refine uo rfl (fun hlt => ?_) (fun hge => ?_)
  · have hi' : i < ps.length := by omega
    have hin : ((i : Nat) : Int).toNat < ps.length := by simp only [Int.toNat_natCast]; exact hi'
    have hdr : ps.drop i = ps[i] :: ps.drop (i + 1) := List.drop_eq_getElem_cons hi'
    have hpi := hpt ps[i] (List.getElem_mem hi')
    rw [hdr] at heq ⊢
    repeat (first | refine ue ?_ | refine uc ?_ | refine um ?_ | refine ud ?_ | refine uj ?_ | refine uf ?_ | (refine ug ?_; first | refine uG tab_ok rfl rfl rfl rfl rfl rfl rfl ?_ | refine uh tab_ok rfl rfl rfl rfl byE rfl ?_ | refine vf tab_ok rfl rfl rfl rfl rfl rfl rfl (by first | exact ⟨by omega, by omega⟩ | (simp; omega)) rfl rfl ?_))
    obtain ⟨p, hp⟩ : ∃ p, p = ps[((i : Nat) : Int).toNat]'hin := ⟨_, rfl⟩
    rw [← hp]
    have hp2 : ps[i] = p := by rw [hp]; simp only [Int.toNat_natCast]
    rw [hp2] at hpi heq ⊢
    clear hp hp2 hdr
    have hpl : (p.map nF).length = p.length := List.length_map _
    match p, hpi, heq, hpl with
    | [], _, heq, _ =>
      rw [show xN ([] :: ps.drop (i + 1)) acc = none from rfl]
      repeat (first | refine ue ?_ | refine uc ?_ | refine ud ?_ | refine uk ?_ | refine un ?_ | refine uu ?_ | refine uf ?_ | (refine ug ?_; first | refine uh tab_ok rfl rfl rfl rfl byE rfl ?_) | refine uq rfl ?_)
      exact vj [sdB S0, .gone] [(4, .val (.bool false))] (ul byV byV ⟨trivial, trivial⟩) byO rfl rfl rfl rfl rfl (Sub.refl _)
    | [_], _, heq, _ =>
      rw [show xN ([_] :: ps.drop (i + 1)) acc = none from rfl]
      repeat (first | refine ue ?_ | refine uc ?_ | refine ud ?_ | refine uk ?_ | refine un ?_ | refine uu ?_ | refine uf ?_ | (refine ug ?_; first | refine uh tab_ok rfl rfl rfl rfl byE rfl ?_) | refine uq rfl ?_)
      exact vj [sdB S0, .gone] [(4, .val (.bool false))] (ul byV byV ⟨trivial, trivial⟩) byO rfl rfl rfl rfl rfl (Sub.refl _)
    | a :: b :: c :: r, _, heq, hpl =>
      have hne : ¬ (((a :: b :: c :: r).length : Nat) : Int) = 2 := by simp only [List.length_cons]; omega
      rw [show xN ((a :: b :: c :: r) :: ps.drop (i + 1)) acc = none from rfl]
      repeat (first | refine ue ?_ | refine uc ?_ | refine ud ?_ | refine uk ?_ | refine un ?_ | refine uu ?_ | refine uf ?_ | (refine ug ?_; first | refine uh tab_ok rfl rfl rfl rfl byE rfl ?_) | refine uq rfl ?_)
      exact vj [sdB S0, .gone] [(4, .val (.bool false))] (ul byV byV ⟨trivial, trivial⟩) byO rfl rfl rfl rfl rfl (Sub.refl _)
    | [a, b], hpi, heq, _ =>
      rw [show xN ([a, b] :: ps.drop (i + 1)) acc = if (vJ a (-2147483648)).2 && (vJ b 2147483647).2 && decide ((vJ a (-2147483648)).1 ≤ (vJ b 2147483647).1) then xN (ps.drop (i + 1)) (acc ++ [((vJ a (-2147483648)).1, (vJ b 2147483647).1)]) else none from rfl] at heq ⊢
      repeat (first | refine ue ?_ | refine ud ?_ | refine uj ?_ | (refine ug ?_; first | refine uh tab_ok rfl rfl rfl rfl byE rfl ?_ | refine vl tab_ok rfl rfl rfl rfl rfl rfl rfl (by decide) rfl rfl rfl ?_) | refine ur rfl ?_)
      refine uw (qh a (-2147483648) (hpi a (by simp))) call72 rfl rfl ⟨Sub.refl _, Sub.refl _, trivial⟩ rfl rfl rfl rfl ?_
      repeat (first | refine ue ?_ | refine ud ?_ | refine uf ?_ | (refine ug ?_; first | refine uh tab_ok rfl rfl rfl rfl byE rfl ?_ | refine vl tab_ok rfl rfl rfl rfl rfl rfl rfl (by decide) rfl rfl rfl ?_))
      refine uw (qh b 2147483647 (hpi b (by simp))) call72 rfl rfl ⟨Sub.refl _, Sub.refl _, trivial⟩ rfl rfl rfl rfl ?_
      cases hA : (vJ a (-2147483648)).2 with
      | false =>
        rw [Bool.false_and, Bool.false_and, if_neg Bool.false_ne_true]
        repeat (first | refine ue ?_ | refine uc ?_ | refine ud ?_ | refine uk ?_ | refine un ?_ | refine uu ?_ | refine uf ?_ | (refine ug ?_; first | refine uh tab_ok rfl rfl rfl rfl byE rfl ?_ | refine ux tab_ok rfl rfl rfl rfl rfl rfl byC (by first | exact fun _ => trivial | (intro h; simp at h; omega)) rfl ?_ | refine vI rfl rfl rfl rfl rfl rfl rfl rfl ?_) | refine uq rfl ?_)
        exact vj [sdB S0, .gone] [(4, .val (.bool false))] (ul byV byV ⟨trivial, trivial⟩) byO rfl rfl rfl rfl rfl (Sub.refl _)
      | true =>
        cases hB : (vJ b 2147483647).2 with
        | false =>
          rw [Bool.true_and, Bool.false_and, if_neg Bool.false_ne_true]
          repeat (first | refine ue ?_ | refine uc ?_ | refine ud ?_ | refine uk ?_ | refine un ?_ | refine uu ?_ | refine uf ?_ | (refine ug ?_; first | refine uh tab_ok rfl rfl rfl rfl byE rfl ?_ | refine ux tab_ok rfl rfl rfl rfl rfl rfl byC (by first | exact fun _ => trivial | (intro h; simp at h; omega)) rfl ?_ | refine vI rfl rfl rfl rfl rfl rfl rfl rfl ?_) | refine uq rfl ?_)
          exact vj [sdB S0, .gone] [(4, .val (.bool false))] (ul byV byV ⟨trivial, trivial⟩) byO rfl rfl rfl rfl rfl (Sub.refl _)
        | true =>
          rw [hA, hB] at heq
          by_cases hle : (vJ a (-2147483648)).1 ≤ (vJ b 2147483647).1
          · rw [Bool.true_and, Bool.true_and, decide_eq_true hle, if_pos rfl] at heq ⊢
            have hgt : ¬ (vJ b 2147483647).1 < (vJ a (-2147483648)).1 := by omega
            repeat (first | refine ue ?_ | refine uc ?_ | refine ud ?_ | refine uf ?_ | (refine ug ?_; first | refine uh tab_ok rfl rfl rfl rfl byE rfl ?_ | refine ux tab_ok rfl rfl rfl rfl rfl rfl byC (by first | exact fun _ => trivial | (intro h; simp at h; omega)) rfl ?_ | refine vI rfl rfl rfl rfl rfl rfl rfl rfl ?_))
            refine uo rfl (fun h => absurd h hgt) (fun _ => ?_)
            repeat (first | refine uc ?_ | refine ud ?_ | refine uj ?_ | refine uf ?_ | (refine ug ?_; first | refine uh tab_ok rfl rfl rfl rfl byE rfl ?_ | refine uU tab_ok rfl rfl rfl rfl rfl rfl ?_ | refine u9 tab_ok rfl rfl rfl rfl rfl rfl rfl rfl rfl ?_ | refine u6 tab_ok rfl rfl rfl rfl rfl rfl rfl rfl rfl (by first | omega | (simp; omega)) rfl ?_))
            refine ⟨⟨i + 1, acc ++ [((vJ a (-2147483648)).1, (vJ b 2147483647).1)], hi', by simp; omega, by rw [heq]⟩, by dsimp only; omega, ?_⟩
            dsimp only
            rw [show (acc ++ [((vJ a (-2147483648)).1, (vJ b 2147483647).1)]).map rgD = acc.map rgD ++ [rgD ((vJ a (-2147483648)).1, (vJ b 2147483647).1)] from List.map_append]
            exact ul byV byV ⟨trivial, trivial⟩
          · rw [Bool.true_and, Bool.true_and, decide_eq_false hle, if_neg Bool.false_ne_true]
            have hgt : (vJ b 2147483647).1 < (vJ a (-2147483648)).1 := by omega
            repeat (first | refine ue ?_ | refine uc ?_ | refine ud ?_ | refine uf ?_ | (refine ug ?_; first | refine uh tab_ok rfl rfl rfl rfl byE rfl ?_ | refine ux tab_ok rfl rfl rfl rfl rfl rfl byC (by first | exact fun _ => trivial | (intro h; simp at h; omega)) rfl ?_ | refine vI rfl rfl rfl rfl rfl rfl rfl rfl ?_))
            refine uo rfl (fun _ => ?_) (fun h => absurd hgt h)
            repeat (first | refine ue ?_ | refine uc ?_ | refine ud ?_ | refine uk ?_ | refine un ?_ | refine uu ?_ | refine uf ?_ | (refine ug ?_; first | refine uh tab_ok rfl rfl rfl rfl byE rfl ?_))
            exact vj [sdB S0, .gone] [(4, .val (.bool false))] (ul byV byV ⟨trivial, trivial⟩) byO rfl rfl rfl rfl rfl (Sub.refl _)
  · have : i = ps.length := by omega
    subst this
    rw [show xN (ps.drop ps.length) acc = some acc by rw [List.drop_length, xN]]
    repeat (first | refine ue ?_ | refine uC ?_)
    refine ve (s' := ⟨[sdB S0, .gone], [(0, .ptr 0 0), (5, .sl 2 (acc.map rgD))]⟩) (ul byV ⟨wS rfl rfl rfl rfl, yL rfl rfl rfl, trivial⟩ ⟨trivial, trivial⟩) ?_
    repeat (first | refine ue ?_ | refine ud ?_ | refine uf ?_ | (refine ug ?_; first | refine uh tab_ok rfl rfl rfl rfl byE rfl ?_ | refine uJ tab_ok rfl rfl rfl rfl rfl ?_ | refine uM tab_ok rfl rfl rfl rfl ?_ | refine uB rfl rfl rfl rfl rfl rfl rfl ?_))
    refine yl rfl rfl rfl rfl (by omega) (by decide) rfl rfl rfl ?_
    repeat (first | refine ue ?_ | refine uc ?_ | refine ud ?_ | refine uk ?_ | refine uf ?_ | (refine ug ?_; first | refine uh tab_ok rfl rfl rfl rfl byE rfl ?_ | refine uM tab_ok rfl rfl rfl rfl ?_ | refine uB rfl rfl rfl rfl rfl rfl rfl ?_))
    exact vj [sdB { S0 with auto := false, range := acc, said := S0.said ||| 8 }, .gone] [(4, .val (.bool true))] (ul byV byV ⟨trivial, trivial⟩) byO rfl rfl rfl rfl rfl (Sub.refl _)
set_option maxHeartbeats 16000000 in
theorem range_2 (S0 : Sd) (a b : Nd) (r : List Nd) (l : List Nd) (hl0 : l = a :: b :: r) (hl : u4 l < 1099511627776) (ht : ∀ n ∈ l, n.tok.text.size ≤ 1099511627776) (hS : S0.said < 1000) : u3 Tryz.prog 41 [sdB S0] [.ptr 0 0, .sl 7 (l.map nF)] [sdB (zy S0 l).1] (.val (.bool (zy S0 l).2)) := by
  have hlm : (l.map nF).length = l.length := List.length_map _
  have hll := u7 l
  have hpt : ∀ p ∈ vO l, ∀ n ∈ p, n.tok.text.size ≤ 1099511627776 := fun p h n hn => ht n ((zo h).2 n hn)
  have hpb : (vO l).length ≤ 1099511627776 := by
    rw [vO, w4]
    have := List.countP_le_length (p := cmB) (l := l)
    simp only [List.length_nil]
    omega
  obtain ⟨ps, hps⟩ : ∃ ps, ps = vO l := ⟨_, rfl⟩
  rw [← hps] at hpt hpb
  have hpm : (ps.map nds).length = ps.length := List.length_map _
  refine vu Tryz.func41 Tryz.ntmps41 rfl rfl rfl fun S w β => ?_
  rw [zy, ← hps]
  subst hl0
  rw [show isAut (a :: b :: r) = false from rfl, if_neg Bool.false_ne_true]
  have hne1 : ¬ (((a :: b :: r).length : Nat) : Int) = 1 := by simp only [List.length_cons]; omega
  repeat (first | refine ue ?_ | refine uc ?_ | refine ud ?_ | refine uj ?_ | refine uf ?_ | (refine ug ?_; first | refine uG tab_ok rfl rfl rfl rfl rfl rfl rfl ?_ | refine uh tab_ok rfl rfl rfl rfl byE rfl ?_ | refine uD rfl rfl rfl rfl rfl rfl rfl ?_ | refine va rfl rfl rfl rfl rfl rfl ?_) | refine ur rfl ?_)
  refine uw (split_ok 1099511627776 _ hl (Nat.le_refl _)) call71 rfl rfl ⟨Sub.refl _, trivial⟩ rfl rfl rfl rfl ?_
  rw [← hps]
  repeat (first | refine uc ?_ | refine um ?_ | refine uf ?_ | (refine ug ?_; first | refine uG tab_ok rfl rfl rfl rfl rfl rfl rfl ?_ | refine uh tab_ok rfl rfl rfl rfl byE rfl ?_))
  refine uV (σ := RgS ps) (fun x => [sdB S0, .row 0 54 2 (x.acc.map rgD)]) (fun x => [(0, .ptr 0 0), (5, .row 1 0), (39, .sl 1 (ps.map nds)), (40, .val (.int .i64 ps.length)), (41, .val (.int .i64 x.i))]) (fun x => ps.length - x.i) ⟨0, [], Nat.zero_le _, Nat.le_refl _, rfl⟩ (ul byV ⟨wS rfl rfl rfl rfl, c_nil rfl rfl, vb rfl (Sub.refl _) rfl, vb rfl (Sub.of_eq (by rw [← hpm]; rfl)) rfl, vb rfl (Sub.refl _) rfl, trivial⟩ ⟨trivial, trivial⟩) ?_
  rintro ⟨i, acc, hi, ha, heq⟩
  dsimp only
  rw [← heq]
  have hal : (acc.map rgD).length = acc.length := List.length_map _
  repeat (first | refine ue ?_ | refine ud ?_ | refine uf ?_ | (refine ug ?_; first | refine uh tab_ok rfl rfl rfl rfl byE rfl ?_))
  refine uo rfl (fun hlt => ?_) (fun hge => ?_)
  · have hi' : i < ps.length := by omega
    have hin : ((i : Nat) : Int).toNat < ps.length := by simp only [Int.toNat_natCast]; exact hi'
    have hdr : ps.drop i = ps[i] :: ps.drop (i + 1) := List.drop_eq_getElem_cons hi'
    have hpi := hpt ps[i] (List.getElem_mem hi')
    rw [hdr] at heq ⊢
    repeat (first | refine ue ?_ | refine uc ?_ | refine um ?_ | refine ud ?_ | refine uj ?_ | refine uf ?_ | (refine ug ?_; first | refine uG tab_ok rfl rfl rfl rfl rfl rfl rfl ?_ | refine uh tab_ok rfl rfl rfl rfl byE rfl ?_ | refine vf tab_ok rfl rfl rfl rfl rfl rfl rfl (by first | exact ⟨by omega, by omega⟩ | (simp; omega)) rfl rfl ?_))
    obtain ⟨p, hp⟩ : ∃ p, p = ps[((i : Nat) : Int).toNat]'hin := ⟨_, rfl⟩
    rw [← hp]
    have hp2 : ps[i] = p := by rw [hp]; simp only [Int.toNat_natCast]
    rw [hp2] at hpi heq ⊢
    clear hp hp2 hdr
    have hpl : (p.map nF).length = p.length := List.length_map _
    match p, hpi, heq, hpl with
    | [], _, heq, _ =>
      rw [show xN ([] :: ps.drop (i + 1)) acc = none from rfl]
      repeat (first | refine ue ?_ | refine uc ?_ | refine ud ?_ | refine uk ?_ | refine un ?_ | refine uu ?_ | refine uf ?_ | (refine ug ?_; first | refine uh tab_ok rfl rfl rfl rfl byE rfl ?_) | refine uq rfl ?_)
      exact vj [sdB S0, .gone] [(4, .val (.bool false))] (ul byV byV ⟨trivial, trivial⟩) byO rfl rfl rfl rfl rfl (Sub.refl _)
    | [_], _, heq, _ =>
      rw [show xN ([_] :: ps.drop (i + 1)) acc = none from rfl]
      repeat (first | refine ue ?_ | refine uc ?_ | refine ud ?_ | refine uk ?_ | refine un ?_ | refine uu ?_ | refine uf ?_ | (refine ug ?_; first | refine uh tab_ok rfl rfl rfl rfl byE rfl ?_) | refine uq rfl ?_)
      exact vj [sdB S0, .gone] [(4, .val (.bool false))] (ul byV byV ⟨trivial, trivial⟩) byO rfl rfl rfl rfl rfl (Sub.refl _)
    | a :: b :: c :: r, _, heq, hpl =>
      have hne : ¬ (((a :: b :: c :: r).length : Nat) : Int) = 2 := by simp only [List.length_cons]; omega
      rw [show xN ((a :: b :: c :: r) :: ps.drop (i + 1)) acc = none from rfl]
      repeat (first | refine ue ?_ | refine uc ?_ | refine ud ?_ | refine uk ?_ | refine un ?_ | refine uu ?_ | refine uf ?_ | (refine ug ?_; first | refine uh tab_ok rfl rfl rfl rfl byE rfl ?_) | refine uq rfl ?_)
      exact vj [sdB S0, .gone] [(4, .val (.bool false))] (ul byV byV ⟨trivial, trivial⟩) byO rfl rfl rfl rfl rfl (Sub.refl _)
    | [a, b], hpi, heq, _ =>
      rw [show xN ([a, b] :: ps.drop (i + 1)) acc = if (vJ a (-2147483648)).2 && (vJ b 2147483647).2 && decide ((vJ a (-2147483648)).1 ≤ (vJ b 2147483647).1) then xN (ps.drop (i + 1)) (acc ++ [((vJ a (-2147483648)).1, (vJ b 2147483647).1)]) else none from rfl] at heq ⊢
      repeat (first | refine ue ?_ | refine ud ?_ | refine uj ?_ | (refine ug ?_; first | refine uh tab_ok rfl rfl rfl rfl byE rfl ?_ | refine vl tab_ok rfl rfl rfl rfl rfl rfl rfl (by decide) rfl rfl rfl ?_) | refine ur rfl ?_)
      refine uw (qh a (-2147483648) (hpi a (by simp))) call72 rfl rfl ⟨Sub.refl _, Sub.refl _, trivial⟩ rfl rfl rfl rfl ?_
      repeat (first | refine ue ?_ | refine ud ?_ | refine uf ?_ | (refine ug ?_; first | refine uh tab_ok rfl rfl rfl rfl byE rfl ?_ | refine vl tab_ok rfl rfl rfl rfl rfl rfl rfl (by decide) rfl rfl rfl ?_))
      refine uw (qh b 2147483647 (hpi b (by simp))) call72 rfl rfl ⟨Sub.refl _, Sub.refl _, trivial⟩ rfl rfl rfl rfl ?_
      cases hA : (vJ a (-2147483648)).2 with
      | false =>
        rw [Bool.false_and, Bool.false_and, if_neg Bool.false_ne_true]
        repeat (first | refine ue ?_ | refine uc ?_ | refine ud ?_ | refine uk ?_ | refine un ?_ | refine uu ?_ | refine uf ?_ | (refine ug ?_; first | refine uh tab_ok rfl rfl rfl rfl byE rfl ?_ | refine ux tab_ok rfl rfl rfl rfl rfl rfl byC (by first | exact fun _ => trivial | (intro h; simp at h; omega)) rfl ?_ | refine vI rfl rfl rfl rfl rfl rfl rfl rfl ?_) | refine uq rfl ?_)
        exact vj [sdB S0, .gone] [(4, .val (.bool false))] (ul byV byV ⟨trivial, trivial⟩) byO rfl rfl rfl rfl rfl (Sub.refl _)
      | true =>
        cases hB : (vJ b 2147483647).2 with
        | false =>
          rw [Bool.true_and, Bool.false_and, if_neg Bool.false_ne_true]
          repeat (first | refine ue ?_ | refine uc ?_ | refine ud ?_ | refine uk ?_ | refine un ?_ | refine uu ?_ | refine uf ?_ | (refine ug ?_; first | refine uh tab_ok rfl rfl rfl rfl byE rfl ?_ | refine ux tab_ok rfl rfl rfl rfl rfl rfl byC (by first | exact fun _ => trivial | (intro h; simp at h; omega)) rfl ?_ | refine vI rfl rfl rfl rfl rfl rfl rfl rfl ?_) | refine uq rfl ?_)
          exact vj [sdB S0, .gone] [(4, .val (.bool false))] (ul byV byV ⟨trivial, trivial⟩) byO rfl rfl rfl rfl rfl (Sub.refl _)
        | true =>
          rw [hA, hB] at heq
          by_cases hle : (vJ a (-2147483648)).1 ≤ (vJ b 2147483647).1
          · rw [Bool.true_and, Bool.true_and, decide_eq_true hle, if_pos rfl] at heq ⊢
            have hgt : ¬ (vJ b 2147483647).1 < (vJ a (-2147483648)).1 := by omega
            repeat (first | refine ue ?_ | refine uc ?_ | refine ud ?_ | refine uf ?_ | (refine ug ?_; first | refine uh tab_ok rfl rfl rfl rfl byE rfl ?_ | refine ux tab_ok rfl rfl rfl rfl rfl rfl byC (by first | exact fun _ => trivial | (intro h; simp at h; omega)) rfl ?_ | refine vI rfl rfl rfl rfl rfl rfl rfl rfl ?_))
            refine uo rfl (fun h => absurd h hgt) (fun _ => ?_)
            repeat (first | refine uc ?_ | refine ud ?_ | refine uj ?_ | refine uf ?_ | (refine ug ?_; first | refine uh tab_ok rfl rfl rfl rfl byE rfl ?_ | refine uU tab_ok rfl rfl rfl rfl rfl rfl ?_ | refine u9 tab_ok rfl rfl rfl rfl rfl rfl rfl rfl rfl ?_ | refine u6 tab_ok rfl rfl rfl rfl rfl rfl rfl rfl rfl (by first | omega | (simp; omega)) rfl ?_))
            refine ⟨⟨i + 1, acc ++ [((vJ a (-2147483648)).1, (vJ b 2147483647).1)], hi', by simp; omega, by rw [heq]⟩, by dsimp only; omega, ?_⟩
            dsimp only
            rw [show (acc ++ [((vJ a (-2147483648)).1, (vJ b 2147483647).1)]).map rgD = acc.map rgD ++ [rgD ((vJ a (-2147483648)).1, (vJ b 2147483647).1)] from List.map_append]
            exact ul byV byV ⟨trivial, trivial⟩
          · rw [Bool.true_and, Bool.true_and, decide_eq_false hle, if_neg Bool.false_ne_true]
            have hgt : (vJ b 2147483647).1 < (vJ a (-2147483648)).1 := by omega
            repeat (first | refine ue ?_ | refine uc ?_ | refine ud ?_ | refine uf ?_ | (refine ug ?_; first | refine uh tab_ok rfl rfl rfl rfl byE rfl ?_ | refine ux tab_ok rfl rfl rfl rfl rfl rfl byC (by first | exact fun _ => trivial | (intro h; simp at h; omega)) rfl ?_ | refine vI rfl rfl rfl rfl rfl rfl rfl rfl ?_))
            refine uo rfl (fun _ => ?_) (fun h => absurd hgt h)
            repeat (first | refine ue ?_ | refine uc ?_ | refine ud ?_ | refine uk ?_ | refine un ?_ | refine uu ?_ | refine uf ?_ | (refine ug ?_; first | refine uh tab_ok rfl rfl rfl rfl byE rfl ?_))
            exact vj [sdB S0, .gone] [(4, .val (.bool false))] (ul byV byV ⟨trivial, trivial⟩) byO rfl rfl rfl rfl rfl (Sub.refl _)
  · have : i = ps.length := by omega
    subst this
    rw [show xN (ps.drop ps.length) acc = some acc by rw [List.drop_length, xN]]
    repeat (first | refine ue ?_ | refine uC ?_)
    refine ve (s' := ⟨[sdB S0, .gone], [(0, .ptr 0 0), (5, .sl 2 (acc.map rgD))]⟩) (ul byV ⟨wS rfl rfl rfl rfl, yL rfl rfl rfl, trivial⟩ ⟨trivial, trivial⟩) ?_
    repeat (first | refine ue ?_ | refine ud ?_ | refine uf ?_ | (refine ug ?_; first | refine uh tab_ok rfl rfl rfl rfl byE rfl ?_ | refine uJ tab_ok rfl rfl rfl rfl rfl ?_ | refine uM tab_ok rfl rfl rfl rfl ?_ | refine uB rfl rfl rfl rfl rfl rfl rfl ?_))
    refine yl rfl rfl rfl rfl (by omega) (by decide) rfl rfl rfl ?_
    repeat (first | refine ue ?_ | refine uc ?_ | refine ud ?_ | refine uk ?_ | refine uf ?_ | (refine ug ?_; first | refine uh tab_ok rfl rfl rfl rfl byE rfl ?_ | refine uM tab_ok rfl rfl rfl rfl ?_ | refine uB rfl rfl rfl rfl rfl rfl rfl ?_))
    exact vj [sdB { S0 with auto := false, range := acc, said := S0.said ||| 8 }, .gone] [(4, .val (.bool true))] (ul byV byV ⟨trivial, trivial⟩) byO rfl rfl rfl rfl rfl (Sub.refl _)
set_option maxHeartbeats 16000000 in
theorem range_1 (S0 : Sd) (n : Nd) (l : List Nd) (hl0 : l = [n]) (hl : u4 l < 1099511627776) (ht : ∀ n ∈ l, n.tok.text.size ≤ 1099511627776) (hS : S0.said < 1000) : u3 Tryz.prog 41 [sdB S0] [.ptr 0 0, .sl 7 (l.map nF)] [sdB (zy S0 l).1] (.val (.bool (zy S0 l).2)) := by
  have hlm : (l.map nF).length = l.length := List.length_map _
  have hll := u7 l
  have hpt : ∀ p ∈ vO l, ∀ n ∈ p, n.tok.text.size ≤ 1099511627776 := fun p h n hn => ht n ((zo h).2 n hn)
  have hpb : (vO l).length ≤ 1099511627776 := by
    rw [vO, w4]
    have := List.countP_le_length (p := cmB) (l := l)
    simp only [List.length_nil]
    omega
  obtain ⟨ps, hps⟩ : ∃ ps, ps = vO l := ⟨_, rfl⟩
  rw [← hps] at hpt hpb
  have hpm : (ps.map nds).length = ps.length := List.length_map _
  refine vu Tryz.func41 Tryz.ntmps41 rfl rfl rfl fun S w β => ?_
  rw [zy, ← hps]
  subst hl0
  rw [show isAut [n] = isWd n autS1 from rfl]
  repeat (first | refine ue ?_ | refine ud ?_ | refine uf ?_ | (refine ug ?_; first | refine uG tab_ok rfl rfl rfl rfl rfl rfl rfl ?_ | refine uh tab_ok rfl rfl rfl rfl byE rfl ?_ | refine vl tab_ok rfl rfl rfl rfl rfl rfl rfl (by decide) rfl rfl rfl ?_ | refine uY tab_ok rfl rfl rfl rfl rfl rfl (by first | exact trivial | omega) rfl ?_) | refine r_g rfl rfl rfl ?_)
  refine uw (dword_ok n autS1 (ht n (by simp))) call70 rfl rfl ⟨Sub.refl _, Sub.refl _, trivial⟩ rfl rfl rfl rfl ?_
  cases hb : isWd n autS1 with
  | true =>
    rw [if_pos rfl]
    repeat (first | refine ue ?_ | refine uc ?_ | refine ud ?_ | refine uf ?_ | (refine ug ?_; first | refine uh tab_ok rfl rfl rfl rfl byE rfl ?_ | refine uJ tab_ok rfl rfl rfl rfl rfl ?_ | refine uM tab_ok rfl rfl rfl rfl ?_ | refine uN rfl rfl rfl rfl rfl rfl rfl ?_ | refine uB rfl rfl rfl rfl rfl rfl rfl ?_) | refine uq rfl ?_)
    refine yl rfl rfl rfl rfl (by omega) (by decide) rfl rfl rfl ?_
    repeat (first | refine ue ?_ | refine uc ?_ | refine ud ?_ | refine uk ?_ | refine un ?_ | refine uf ?_ | (refine ug ?_; first | refine uh tab_ok rfl rfl rfl rfl byE rfl ?_ | refine uM tab_ok rfl rfl rfl rfl ?_ | refine uB rfl rfl rfl rfl rfl rfl rfl ?_))
    exact vj [sdB { S0 with auto := true, range := [], said := S0.said ||| 8 }] [(4, .val (.bool true))] (ul byV byV ⟨trivial, trivial⟩) byO rfl rfl rfl rfl rfl (Sub.refl _)
  | false =>
    rw [if_neg Bool.false_ne_true]
    repeat (first | refine ue ?_ | refine uc ?_ | refine ud ?_ | refine uj ?_ | refine uf ?_ | (refine ug ?_; first | refine uh tab_ok rfl rfl rfl rfl byE rfl ?_ | refine uN rfl rfl rfl rfl rfl rfl rfl ?_) | refine ur rfl ?_)
    refine uw (split_ok 1099511627776 _ hl (Nat.le_refl _)) call71 rfl rfl ⟨Sub.refl _, trivial⟩ rfl rfl rfl rfl ?_
    rw [← hps]
    repeat (first | refine uc ?_ | refine um ?_ | refine uf ?_ | (refine ug ?_; first | refine uG tab_ok rfl rfl rfl rfl rfl rfl rfl ?_ | refine uh tab_ok rfl rfl rfl rfl byE rfl ?_))
    refine uV (σ := RgS ps) (fun x => [sdB S0, .row 0 54 2 (x.acc.map rgD)]) (fun x => [(0, .ptr 0 0), (5, .row 1 0), (39, .sl 1 (ps.map nds)), (40, .val (.int .i64 ps.length)), (41, .val (.int .i64 x.i))]) (fun x => ps.length - x.i) ⟨0, [], Nat.zero_le _, Nat.le_refl _, rfl⟩ (ul byV ⟨wS rfl rfl rfl rfl, c_nil rfl rfl, vb rfl (Sub.refl _) rfl, vb rfl (Sub.of_eq (by rw [← hpm]; rfl)) rfl, vb rfl (Sub.refl _) rfl, trivial⟩ ⟨trivial, trivial⟩) ?_
    rintro ⟨i, acc, hi, ha, heq⟩
    dsimp only
    rw [← heq]
    have hal : (acc.map rgD).length = acc.length := List.length_map _
    repeat (first | refine ue ?_ | refine ud ?_ | refine uf ?_ | (refine ug ?_; first | refine uh tab_ok rfl rfl rfl rfl byE rfl ?_))
    refine uo rfl (fun hlt => ?_) (fun hge => ?_)
    · have hi' : i < ps.length := by omega
      have hin : ((i : Nat) : Int).toNat < ps.length := by simp only [Int.toNat_natCast]; exact hi'
      have hdr : ps.drop i = ps[i] :: ps.drop (i + 1) := List.drop_eq_getElem_cons hi'
      have hpi := hpt ps[i] (List.getElem_mem hi')
      rw [hdr] at heq ⊢
      repeat (first | refine ue ?_ | refine uc ?_ | refine um ?_ | refine ud ?_ | refine uj ?_ | refine uf ?_ | (refine ug ?_; first | refine uG tab_ok rfl rfl rfl rfl rfl rfl rfl ?_ | refine uh tab_ok rfl rfl rfl rfl byE rfl ?_ | refine vf tab_ok rfl rfl rfl rfl rfl rfl rfl (by first | exact ⟨by omega, by omega⟩ | (simp; omega)) rfl rfl ?_))
      obtain ⟨p, hp⟩ : ∃ p, p = ps[((i : Nat) : Int).toNat]'hin := ⟨_, rfl⟩
      rw [← hp]
      have hp2 : ps[i] = p := by rw [hp]; simp only [Int.toNat_natCast]
      rw [hp2] at hpi heq ⊢
      clear hp hp2 hdr
      have hpl : (p.map nF).length = p.length := List.length_map _
      match p, hpi, heq, hpl with
      | [], _, heq, _ =>
        rw [show xN ([] :: ps.drop (i + 1)) acc = none from rfl]
        repeat (first | refine ue ?_ | refine uc ?_ | refine ud ?_ | refine uk ?_ | refine un ?_ | refine uu ?_ | refine uf ?_ | (refine ug ?_; first | refine uh tab_ok rfl rfl rfl rfl byE rfl ?_) | refine uq rfl ?_)
        exact vj [sdB S0, .gone] [(4, .val (.bool false))] (ul byV byV ⟨trivial, trivial⟩) byO rfl rfl rfl rfl rfl (Sub.refl _)
      | [_], _, heq, _ =>
        rw [show xN ([_] :: ps.drop (i + 1)) acc = none from rfl]
        repeat (first | refine ue ?_ | refine uc ?_ | refine ud ?_ | refine uk ?_ | refine un ?_ | refine uu ?_ | refine uf ?_ | (refine ug ?_; first | refine uh tab_ok rfl rfl rfl rfl byE rfl ?_) | refine uq rfl ?_)
        exact vj [sdB S0, .gone] [(4, .val (.bool false))] (ul byV byV ⟨trivial, trivial⟩) byO rfl rfl rfl rfl rfl (Sub.refl _)
      | a :: b :: c :: r, _, heq, hpl =>
        have hne : ¬ (((a :: b :: c :: r).length : Nat) : Int) = 2 := by simp only [List.length_cons]; omega
        rw [show xN ((a :: b :: c :: r) :: ps.drop (i + 1)) acc = none from rfl]
        repeat (first | refine ue ?_ | refine uc ?_ | refine ud ?_ | refine uk ?_ | refine un ?_ | refine uu ?_ | refine uf ?_ | (refine ug ?_; first | refine uh tab_ok rfl rfl rfl rfl byE rfl ?_) | refine uq rfl ?_)
        exact vj [sdB S0, .gone] [(4, .val (.bool false))] (ul byV byV ⟨trivial, trivial⟩) byO rfl rfl rfl rfl rfl (Sub.refl _)
      | [a, b], hpi, heq, _ =>
        rw [show xN ([a, b] :: ps.drop (i + 1)) acc = if (vJ a (-2147483648)).2 && (vJ b 2147483647).2 && decide ((vJ a (-2147483648)).1 ≤ (vJ b 2147483647).1) then xN (ps.drop (i + 1)) (acc ++ [((vJ a (-2147483648)).1, (vJ b 2147483647).1)]) else none from rfl] at heq ⊢
        repeat (first | refine ue ?_ | refine ud ?_ | refine uj ?_ | (refine ug ?_; first | refine uh tab_ok rfl rfl rfl rfl byE rfl ?_ | refine vl tab_ok rfl rfl rfl rfl rfl rfl rfl (by decide) rfl rfl rfl ?_) | refine ur rfl ?_)
        refine uw (qh a (-2147483648) (hpi a (by simp))) call72 rfl rfl ⟨Sub.refl _, Sub.refl _, trivial⟩ rfl rfl rfl rfl ?_
        repeat (first | refine ue ?_ | refine ud ?_ | refine uf ?_ | (refine ug ?_; first | refine uh tab_ok rfl rfl rfl rfl byE rfl ?_ | refine vl tab_ok rfl rfl rfl rfl rfl rfl rfl (by decide) rfl rfl rfl ?_))
        refine uw (qh b 2147483647 (hpi b (by simp))) call72 rfl rfl ⟨Sub.refl _, Sub.refl _, trivial⟩ rfl rfl rfl rfl ?_
        cases hA : (vJ a (-2147483648)).2 with
        | false =>
          rw [Bool.false_and, Bool.false_and, if_neg Bool.false_ne_true]
          repeat (first | refine ue ?_ | refine uc ?_ | refine ud ?_ | refine uk ?_ | refine un ?_ | refine uu ?_ | refine uf ?_ | (refine ug ?_; first | refine uh tab_ok rfl rfl rfl rfl byE rfl ?_ | refine ux tab_ok rfl rfl rfl rfl rfl rfl byC (by first | exact fun _ => trivial | (intro h; simp at h; omega)) rfl ?_ | refine vI rfl rfl rfl rfl rfl rfl rfl rfl ?_) | refine uq rfl ?_)
          exact vj [sdB S0, .gone] [(4, .val (.bool false))] (ul byV byV ⟨trivial, trivial⟩) byO rfl rfl rfl rfl rfl (Sub.refl _)
        | true =>
          cases hB : (vJ b 2147483647).2 with
          | false =>
            rw [Bool.true_and, Bool.false_and, if_neg Bool.false_ne_true]
            repeat (first | refine ue ?_ | refine uc ?_ | refine ud ?_ | refine uk ?_ | refine un ?_ | refine uu ?_ | refine uf ?_ | (refine ug ?_; first | refine uh tab_ok rfl rfl rfl rfl byE rfl ?_ | refine ux tab_ok rfl rfl rfl rfl rfl rfl byC (by first | exact fun _ => trivial | (intro h; simp at h; omega)) rfl ?_ | refine vI rfl rfl rfl rfl rfl rfl rfl rfl ?_) | refine uq rfl ?_)
            exact vj [sdB S0, .gone] [(4, .val (.bool false))] (ul byV byV ⟨trivial, trivial⟩) byO rfl rfl rfl rfl rfl (Sub.refl _)
          | true =>
            rw [hA, hB] at heq
            by_cases hle : (vJ a (-2147483648)).1 ≤ (vJ b 2147483647).1
            · rw [Bool.true_and, Bool.true_and, decide_eq_true hle, if_pos rfl] at heq ⊢
              have hgt : ¬ (vJ b 2147483647).1 < (vJ a (-2147483648)).1 := by omega
              repeat (first | refine ue ?_ | refine uc ?_ | refine ud ?_ | refine uf ?_ | (refine ug ?_; first | refine uh tab_ok rfl rfl rfl rfl byE rfl ?_ | refine ux tab_ok rfl rfl rfl rfl rfl rfl byC (by first | exact fun _ => trivial | (intro h; simp at h; omega)) rfl ?_ | refine vI rfl rfl rfl rfl rfl rfl rfl rfl ?_))
              refine uo rfl (fun h => absurd h hgt) (fun _ => ?_)
              repeat (first | refine uc ?_ | refine ud ?_ | refine uj ?_ | refine uf ?_ | (refine ug ?_; first | refine uh tab_ok rfl rfl rfl rfl byE rfl ?_ | refine uU tab_ok rfl rfl rfl rfl rfl rfl ?_ | refine u9 tab_ok rfl rfl rfl rfl rfl rfl rfl rfl rfl ?_ | refine u6 tab_ok rfl rfl rfl rfl rfl rfl rfl rfl rfl (by first | omega | (simp; omega)) rfl ?_))
              refine ⟨⟨i + 1, acc ++ [((vJ a (-2147483648)).1, (vJ b 2147483647).1)], hi', by simp; omega, by rw [heq]⟩, by dsimp only; omega, ?_⟩
              dsimp only
              rw [show (acc ++ [((vJ a (-2147483648)).1, (vJ b 2147483647).1)]).map rgD = acc.map rgD ++ [rgD ((vJ a (-2147483648)).1, (vJ b 2147483647).1)] from List.map_append]
              exact ul byV byV ⟨trivial, trivial⟩
            · rw [Bool.true_and, Bool.true_and, decide_eq_false hle, if_neg Bool.false_ne_true]
              have hgt : (vJ b 2147483647).1 < (vJ a (-2147483648)).1 := by omega
              repeat (first | refine ue ?_ | refine uc ?_ | refine ud ?_ | refine uf ?_ | (refine ug ?_; first | refine uh tab_ok rfl rfl rfl rfl byE rfl ?_ | refine ux tab_ok rfl rfl rfl rfl rfl rfl byC (by first | exact fun _ => trivial | (intro h; simp at h; omega)) rfl ?_ | refine vI rfl rfl rfl rfl rfl rfl rfl rfl ?_))
              refine uo rfl (fun _ => ?_) (fun h => absurd hgt h)
              repeat (first | refine ue ?_ | refine uc ?_ | refine ud ?_ | refine uk ?_ | refine un ?_ | refine uu ?_ | refine uf ?_ | (refine ug ?_; first | refine uh tab_ok rfl rfl rfl rfl byE rfl ?_))
              exact vj [sdB S0, .gone] [(4, .val (.bool false))] (ul byV byV ⟨trivial, trivial⟩) byO rfl rfl rfl rfl rfl (Sub.refl _)
    · have : i = ps.length := by omega
      subst this
      rw [show xN (ps.drop ps.length) acc = some acc by rw [List.drop_length, xN]]
      repeat (first | refine ue ?_ | refine uC ?_)
      refine ve (s' := ⟨[sdB S0, .gone], [(0, .ptr 0 0), (5, .sl 2 (acc.map rgD))]⟩) (ul byV ⟨wS rfl rfl rfl rfl, yL rfl rfl rfl, trivial⟩ ⟨trivial, trivial⟩) ?_
      repeat (first | refine ue ?_ | refine ud ?_ | refine uf ?_ | (refine ug ?_; first | refine uh tab_ok rfl rfl rfl rfl byE rfl ?_ | refine uJ tab_ok rfl rfl rfl rfl rfl ?_ | refine uM tab_ok rfl rfl rfl rfl ?_ | refine uB rfl rfl rfl rfl rfl rfl rfl ?_))
      refine yl rfl rfl rfl rfl (by omega) (by decide) rfl rfl rfl ?_
      repeat (first | refine ue ?_ | refine uc ?_ | refine ud ?_ | refine uk ?_ | refine uf ?_ | (refine ug ?_; first | refine uh tab_ok rfl rfl rfl rfl byE rfl ?_ | refine uM tab_ok rfl rfl rfl rfl ?_ | refine uB rfl rfl rfl rfl rfl rfl rfl ?_))
      exact vj [sdB { S0 with auto := false, range := acc, said := S0.said ||| 8 }, .gone] [(4, .val (.bool true))] (ul byV byV ⟨trivial, trivial⟩) byO rfl rfl rfl rfl rfl (Sub.refl _)
theorem range_ok (S0 : Sd) (l : List Nd) (hl : u4 l < 1099511627776) (ht : ∀ n ∈ l, n.tok.text.size ≤ 1099511627776) (hS : S0.said < 1000) : u3 Tryz.prog 41 [sdB S0] [.ptr 0 0, .sl 7 (l.map nF)] [sdB (zy S0 l).1] (.val (.bool (zy S0 l).2)) :=
  match l, hl, ht with
  | [], hl, ht => range_0 S0 _ rfl hl ht hS
  | a :: b :: r, hl, ht => range_2 S0 a b r _ rfl hl ht hS
  | [n], hl, ht => range_1 S0 n _ rfl hl ht hS
end Go.Proofs.YtfmafehogfikmaaGreatDoor
