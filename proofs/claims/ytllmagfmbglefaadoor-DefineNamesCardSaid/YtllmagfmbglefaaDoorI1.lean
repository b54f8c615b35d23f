/- define: Symbol, Fixed, whole, word, bound, weighed; walked. -/
import Derived.Test.YtllmagfmbglefaaDoorP5
namespace Go.Proofs.YtllmagfmbglefaaDoor
open Go Go.RowKit
set_option maxRecDepth 20000

def w8 (n : Nd) : ByteArray × Bool := if n.tok.kind = 5 ∨ n.tok.kind = 1 then (n.tok.text, true) else (⟨#[]⟩, false)
theorem xi (n : Nd) : uV Tryd.prog 34 [nA n] (.tup [.val (.string (w8 n).1), .val (.bool (w8 n).2)]) := by
  refine u1 Tryd.func34 Tryd.ntmps34 rfl rfl rfl fun S w0 => ?_
  by_cases h5 : n.tok.kind = 5
  · rw [show w8 n = (n.tok.text, true) from if_pos (.inl h5)]
    repeat (first | refine uf ?_ | refine uc ?_ | refine ud ?_ | refine un ?_ | refine uq ?_ | refine ug ?_ | (refine uk ?_; first | refine ul tab_ok rfl rfl rfl rfl (by first | exact trivial | omega | exact nl rfl) rfl ?_ | refine u9 tab_ok rfl rfl rfl rfl rfl ?_ | refine vI tab_ok rfl rfl rfl rfl rfl ?_) | refine yp (by simp) rfl rfl rfl rfl ?_ ?_ | refine uF rfl ?_ | refine uX rfl rfl (congrArg (fun b => AV.val (.bool b)) (xf (by omega))) rfl rfl rfl rfl ?_ | refine vG rfl rfl (congrArg (fun b => AV.val (.bool b)) (xf (by omega))) rfl rfl rfl ?_)
    all_goals exact Sub.refl _
  by_cases h1 : n.tok.kind = 1
  · rw [show w8 n = (n.tok.text, true) from if_pos (.inr h1)]
    repeat (first | refine uf ?_ | refine uc ?_ | refine ud ?_ | refine ug ?_ | (refine uk ?_; first | refine ul tab_ok rfl rfl rfl rfl (by first | exact trivial | omega | exact nl rfl) rfl ?_ | refine u9 tab_ok rfl rfl rfl rfl rfl ?_ | refine vI tab_ok rfl rfl rfl rfl rfl ?_) | refine r_g rfl rfl (congrArg (fun b => AV.val (.bool b)) (xw (by omega))) ?_ | refine ux rfl rfl (congrArg (fun b => AV.val (.bool b)) (xw (by omega))) rfl rfl rfl rfl ?_)
    refine xg rfl (fun h => absurd h1 h) (fun _ => ?_)
    repeat (first | refine uf ?_ | refine uc ?_ | refine ud ?_ | refine un ?_ | refine uq ?_ | refine ug ?_ | (refine uk ?_; first | refine ul tab_ok rfl rfl rfl rfl (by first | exact trivial | omega | exact nl rfl) rfl ?_ | refine u9 tab_ok rfl rfl rfl rfl rfl ?_) | refine yp (by simp) rfl rfl rfl rfl ?_ ?_)
    all_goals exact Sub.refl _
  · rw [show w8 n = (⟨#[]⟩, false) from if_neg (by rintro (h | h); exact h5 h; exact h1 h)]
    repeat (first | refine uf ?_ | refine uc ?_ | refine ud ?_ | refine ug ?_ | (refine uk ?_; first | refine ul tab_ok rfl rfl rfl rfl (by first | exact trivial | omega | exact nl rfl) rfl ?_ | refine u9 tab_ok rfl rfl rfl rfl rfl ?_ | refine vI tab_ok rfl rfl rfl rfl rfl ?_) | refine r_g rfl rfl (congrArg (fun b => AV.val (.bool b)) (xw (by omega))) ?_ | refine ux rfl rfl (congrArg (fun b => AV.val (.bool b)) (xw (by omega))) rfl rfl rfl rfl ?_)
    refine xg rfl (fun _ => ?_) (fun h => absurd h h1)
    repeat (first | refine uf ?_ | refine uc ?_ | refine ud ?_ | refine un ?_ | refine ur ?_ | refine ug ?_ | (refine uk ?_; first | refine ul tab_ok rfl rfl rfl rfl (by first | exact trivial | omega | exact nl rfl) rfl ?_) | refine yp (by simp) rfl rfl rfl rfl ?_ ?_)
    all_goals exact Sub.refl _
def fixN : ByteArray := ⟨#[100, 101, 99, 105, 109, 97, 108, 32, 100, 105, 115, 99, 32, 115, 113, 117, 97, 114, 101, 32, 99, 105, 114, 99, 108, 101]⟩
theorem fixed_ok (s : ByteArray) (h : s.size ≤ 1099511627776) : uV Tryd.prog 60 [.val (.string s)] (.val (.bool (qo fixN (v7 s)))) := by
  refine u1 Tryd.func60 Tryd.ntmps60 rfl rfl rfl fun S w0 => ?_
  repeat (first | refine uf ?_ | refine ud ?_ | refine ug ?_ | (refine uk ?_; first | refine ul tab_ok rfl rfl rfl rfl (by first | exact trivial | omega | exact nl rfl) rfl ?_))
  refine um (xE s (by omega)) qm rfl rfl ⟨Sub.refl _, trivial⟩ rfl rfl rfl rfl ?_
  refine um (qR fixN (v7 s) (by decide) (by kernel_rfl)) call43 rfl rfl ⟨Sub.refl _, Sub.refl _, trivial⟩ rfl rfl rfl rfl ?_
  repeat (first | refine uc ?_ | refine un ?_ | refine ug ?_ | (refine uk ?_; first | refine ul tab_ok rfl rfl rfl rfl (by first | exact trivial | omega | exact nl rfl) rfl ?_) | refine vh (by simp) rfl rfl rfl ?_)
  exact Sub.refl _
def xZ (n : Nd) : Int × Bool := if n.tok.kind = 10 ∧ n.tok.whole = true then (n.tok.int, true) else (0, false)
theorem qq (n : Nd) : uV Tryd.prog 115 [nA n] (.tup [.val (.int .i64 (xZ n).1), .val (.bool (xZ n).2)]) := by
  refine u1 Tryd.func115 Tryd.ntmps115 rfl rfl rfl fun S w0 => ?_
  by_cases h : n.tok.kind = 10
  · cases hw : n.tok.whole with
    | true =>
      rw [show xZ n = (n.tok.int, true) from if_pos ⟨h, hw⟩]
      repeat (first | refine uf ?_ | refine uc ?_ | refine ud ?_ | refine ug ?_ | (refine uk ?_; first | refine ul tab_ok rfl rfl rfl rfl (by first | exact trivial | omega | exact nl rfl) rfl ?_ | refine u9 tab_ok rfl rfl rfl rfl rfl ?_ | refine vI tab_ok rfl rfl rfl rfl rfl ?_) | refine r_g rfl rfl (congrArg (fun b => AV.val (.bool b)) (xf (by omega))) ?_ | refine uX rfl rfl (congrArg (fun b => AV.val (.bool b)) (xf (by omega))) rfl rfl rfl rfl ?_)
      refine uH rfl (fun h2 => absurd h2 (by rw [hw]; decide)) (fun _ => ?_)
      repeat (first | refine uf ?_ | refine uc ?_ | refine ud ?_ | refine un ?_ | refine uq ?_ | refine ug ?_ | (refine uk ?_; first | refine ul tab_ok rfl rfl rfl rfl (by first | exact trivial | omega | exact nl rfl) rfl ?_ | refine u9 tab_ok rfl rfl rfl rfl rfl ?_) | refine yp (by simp) rfl rfl rfl rfl ?_ ?_)
      all_goals exact Sub.refl _
    | false =>
      rw [show xZ n = (0, false) from if_neg (by rintro ⟨_, h2⟩; rw [hw] at h2; cases h2)]
      repeat (first | refine uf ?_ | refine uc ?_ | refine ud ?_ | refine ug ?_ | (refine uk ?_; first | refine ul tab_ok rfl rfl rfl rfl (by first | exact trivial | omega | exact nl rfl) rfl ?_ | refine u9 tab_ok rfl rfl rfl rfl rfl ?_ | refine vI tab_ok rfl rfl rfl rfl rfl ?_) | refine r_g rfl rfl (congrArg (fun b => AV.val (.bool b)) (xf (by omega))) ?_ | refine uX rfl rfl (congrArg (fun b => AV.val (.bool b)) (xf (by omega))) rfl rfl rfl rfl ?_)
      refine uH rfl (fun _ => ?_) (fun h2 => absurd h2 (by rw [hw]; decide))
      repeat (first | refine uf ?_ | refine uc ?_ | refine ud ?_ | refine un ?_ | refine ur ?_ | refine ug ?_ | (refine uk ?_; first | refine ul tab_ok rfl rfl rfl rfl (by first | exact trivial | omega | exact nl rfl) rfl ?_) | refine yp (by simp) rfl rfl rfl rfl ?_ ?_)
      all_goals exact Sub.refl _
  · rw [show xZ n = (0, false) from if_neg (fun h2 => h h2.1)]
    repeat (first | refine uf ?_ | refine uc ?_ | refine ud ?_ | refine un ?_ | refine ur ?_ | refine ug ?_ | (refine uk ?_; first | refine ul tab_ok rfl rfl rfl rfl (by first | exact trivial | omega | exact nl rfl) rfl ?_ | refine u9 tab_ok rfl rfl rfl rfl rfl ?_ | refine vI tab_ok rfl rfl rfl rfl rfl ?_) | refine yp (by simp) rfl rfl rfl rfl ?_ ?_ | refine uA rfl ?_ | refine ux rfl rfl (congrArg (fun b => AV.val (.bool b)) (xw (by omega))) rfl rfl rfl rfl ?_ | refine vG rfl rfl (congrArg (fun b => AV.val (.bool b)) (xw (by omega))) rfl rfl rfl ?_)
    all_goals exact Sub.refl _
def isWd (n : Nd) (w : ByteArray) : Bool := decide (n.tok.kind = 1) && decide (v7 n.tok.text = w)
theorem dword_ok (n : Nd) (w : ByteArray) (h : n.tok.text.size ≤ 1099511627776) : uV Tryd.prog 116 [nA n, .val (.string w)] (.val (.bool (isWd n w))) := by
  refine u1 Tryd.func116 Tryd.ntmps116 rfl rfl rfl fun S w0 => ?_
  repeat (first | refine uf ?_ | refine ud ?_ | refine ug ?_ | (refine uk ?_; first | refine ul tab_ok rfl rfl rfl rfl (by first | exact trivial | omega | exact nl rfl) rfl ?_ | refine u9 tab_ok rfl rfl rfl rfl rfl ?_ | refine vI tab_ok rfl rfl rfl rfl rfl ?_))
  refine um (word_ok2 n 1 w h) call129 rfl rfl ⟨Sub.refl _, Sub.refl _, Sub.refl _, Sub.refl _, trivial⟩ rfl rfl rfl rfl ?_
  repeat (first | refine uc ?_ | refine un ?_ | refine ug ?_ | (refine uk ?_; first | refine ul tab_ok rfl rfl rfl rfl (by first | exact trivial | omega | exact nl rfl) rfl ?_) | refine vh (by simp) rfl rfl rfl ?_)
  exact Sub.refl _
def infS : ByteArray := ⟨#[105, 110, 102, 105, 110, 105, 116, 101]⟩
def vQ (n : Nd) (e : Int) : Int × Bool := if isWd n infS then (e, true) else xZ n
theorem y7 (n : Nd) (e : Int) (h : n.tok.text.size ≤ 1099511627776) : uV Tryd.prog 118 [nA n, .val (.int .i64 e)] (.tup [.val (.int .i64 (vQ n e).1), .val (.bool (vQ n e).2)]) := by
  refine u1 Tryd.func118 Tryd.ntmps118 rfl rfl rfl fun S w0 => ?_
  rw [vQ]
  repeat (first | refine uf ?_ | refine ud ?_ | refine ug ?_ | (refine uk ?_; first | refine ul tab_ok rfl rfl rfl rfl (by first | exact trivial | omega | exact nl rfl) rfl ?_ | refine u9 tab_ok rfl rfl rfl rfl rfl ?_ | refine vI tab_ok rfl rfl rfl rfl rfl ?_))
  refine um (dword_ok n infS h) call116 rfl rfl ⟨Sub.refl _, Sub.refl _, trivial⟩ rfl rfl rfl rfl ?_
  cases isWd n infS with
  | true =>
    rw [if_pos rfl]
    repeat (first | refine uf ?_ | refine uc ?_ | refine ud ?_ | refine un ?_ | refine ur ?_ | refine ug ?_ | (refine uk ?_; first | refine ul tab_ok rfl rfl rfl rfl (by first | exact trivial | omega | exact nl rfl) rfl ?_) | refine yp (by simp) rfl rfl rfl rfl ?_ ?_ | refine uA rfl ?_)
    all_goals exact Sub.refl _
  | false =>
    rw [if_neg Bool.false_ne_true]
    repeat (first | refine uf ?_ | refine uc ?_ | refine ud ?_ | refine uq ?_ | refine ug ?_ | (refine uk ?_; first | refine u9 tab_ok rfl rfl rfl rfl rfl ?_) | refine uF rfl ?_)
    refine um (qq n) call115 rfl rfl ⟨Sub.refl _, trivial⟩ rfl rfl rfl rfl ?_
    repeat (first | refine uc ?_ | refine un ?_ | refine ug ?_ | (refine uk ?_; first | refine ul tab_ok rfl rfl rfl rfl (by first | exact trivial | omega | exact nl rfl) rfl ?_) | refine yp (by simp) rfl rfl rfl rfl ?_ ?_)
    all_goals exact Sub.refl _
def weiF : List Nd → (Int × ByteArray) × Bool
  | [a, b] =>
    if a.tok.kind = 10 then (((xZ a).1, (w8 b).1), (xZ a).2 && (w8 b).2 && decide (0 ≤ (xZ a).1))
    else (((xZ b).1, (w8 a).1), (xZ b).2 && (w8 a).2 && decide (0 ≤ (xZ b).1))
  | _ => ((0, ⟨#[]⟩), false)
theorem ret3t {P : Program} {fn : Func} {r1 r2 r3 x y z : AV} {e : Exit} {M : List AB} {F : List (Nat × AV)} {t u v : Tmp} (he : e = .normal ∨ e = .ret) (hr : fn.results.toList = [.tmp t, .tmp u, .tmp v]) (hx : nf (uM F t) = some x) (hy : nf (uM F u) = some y) (hz : nf (uM F v) = some z)
    (hf : (x.free && (y.free && z.free)) = true) (h : Sub x r1) (k : Sub y r2) (l : Sub z r3) : retQ P fn (.tup [r1, r2, r3]) e ⟨M, F⟩ := by
  rw [Bool.and_eq_true, Bool.and_eq_true] at hf
  refine ⟨he, [x, y, z], by rw [hr]; exact .cons (.tmp (by rw [wJ hx]; exact Sub.refl _) hf.1) (.cons (.tmp (by rw [wJ hy]; exact Sub.refl _) hf.2.1) (.cons (.tmp (by rw [wJ hz]; exact Sub.refl _) hf.2.2) .nil)), ?_⟩
  rintro M β w imm v ⟨cs, h1, ⟨v1, r, e1, s1, v2, r', e2, s2, v3, r'', e3, s3, s4⟩⟩
  exact ⟨cs, h1, v1, r, e1, h _ _ _ _ _ s1, v2, r', e2, k _ _ _ _ _ s2, v3, r'', e3, l _ _ _ _ _ s3, s4⟩
set_option maxHeartbeats 1000000 in
theorem weighed_ok (l : List Nd) (hl : l.length ≤ 1099511627776) : uV Tryd.prog 119 [.sl 7 (l.map nF)] (.tup [.val (.int .i64 (weiF l).1.1), .val (.string (weiF l).1.2), .val (.bool (weiF l).2)]) := by
  refine u1 Tryd.func119 Tryd.ntmps119 rfl rfl rfl fun S w0 => ?_
  have hlm : (l.map nF).length = l.length := List.length_map _
  match l, hl, hlm with
  | [], _, _ =>
    repeat (first | refine uf ?_ | refine uc ?_ | refine ud ?_ | refine un ?_ | refine ur ?_ | refine ug ?_ | (refine uk ?_; first | refine vf tab_ok rfl rfl rfl rfl rfl rfl rfl ?_ | refine ul tab_ok rfl rfl rfl rfl (by first | exact trivial | omega | exact nl rfl) rfl ?_) | refine uA rfl ?_)
    all_goals exact ret3t (by simp) rfl rfl rfl rfl rfl (Sub.refl _) (Sub.refl _) (Sub.refl _)
  | [_], _, _ =>
    repeat (first | refine uf ?_ | refine uc ?_ | refine ud ?_ | refine un ?_ | refine ur ?_ | refine ug ?_ | (refine uk ?_; first | refine vf tab_ok rfl rfl rfl rfl rfl rfl rfl ?_ | refine ul tab_ok rfl rfl rfl rfl (by first | exact trivial | omega | exact nl rfl) rfl ?_) | refine uA rfl ?_)
    all_goals exact ret3t (by simp) rfl rfl rfl rfl rfl (Sub.refl _) (Sub.refl _) (Sub.refl _)
  | a :: b :: c :: r, hl, hlm =>
    have hne : ¬ (((a :: b :: c :: r).length : Nat) : Int) = 2 := by simp only [List.length_cons]; omega
    repeat (first | refine uf ?_ | refine uc ?_ | refine ud ?_ | refine un ?_ | refine ur ?_ | refine ug ?_ | (refine uk ?_; first | refine vf tab_ok rfl rfl rfl rfl rfl rfl rfl ?_ | refine ul tab_ok rfl rfl rfl rfl (by first | exact trivial | omega | exact nl rfl) rfl ?_) | refine uA rfl ?_)
    all_goals exact ret3t (by simp) rfl rfl rfl rfl rfl (Sub.refl _) (Sub.refl _) (Sub.refl _)
  | [a, b], _, _ =>
    by_cases hk : a.tok.kind = 10
    · rw [show weiF [a, b] = (((xZ a).1, (w8 b).1), (xZ a).2 && (w8 b).2 && decide (0 ≤ (xZ a).1)) from if_pos hk]
      have hk2 : ([a, b][Int.toNat 0]'(Nat.succ_pos _)).tok.kind = 10 := hk
      repeat (first | refine uf ?_ | refine uc ?_ | refine ud ?_ | refine uq ?_ | refine ug ?_ | (refine uk ?_; first | refine vf tab_ok rfl rfl rfl rfl rfl rfl rfl ?_ | refine ul tab_ok rfl rfl rfl rfl (by first | exact trivial | omega | exact nl rfl) rfl ?_ | refine uO tab_ok rfl rfl rfl rfl rfl rfl rfl (by decide) rfl rfl rfl ?_) | refine uF rfl ?_)
      refine xg rfl (fun h => absurd hk2 h) (fun _ => ?_)
      repeat (first | refine uf ?_ | refine ud ?_ | refine uq ?_ | (refine uk ?_; first | refine ul tab_ok rfl rfl rfl rfl (by first | exact trivial | omega | exact nl rfl) rfl ?_ | refine uO tab_ok rfl rfl rfl rfl rfl rfl rfl (by decide) rfl rfl rfl ?_))
      refine um (qq a) call115 rfl rfl ⟨Sub.refl _, trivial⟩ rfl rfl rfl rfl ?_
      repeat (first | refine uf ?_ | refine ud ?_ | refine ug ?_ | (refine uk ?_; first | refine ul tab_ok rfl rfl rfl rfl (by first | exact trivial | omega | exact nl rfl) rfl ?_ | refine uO tab_ok rfl rfl rfl rfl rfl rfl rfl (by decide) rfl rfl rfl ?_))
      refine um (xi b) zM rfl rfl ⟨Sub.refl _, trivial⟩ rfl rfl rfl rfl ?_
      repeat (first | refine uf ?_ | refine uc ?_ | refine ud ?_ | refine un ?_ | refine ug ?_ | (refine uk ?_; first | refine ul tab_ok rfl rfl rfl rfl (by first | exact trivial | omega | exact nl rfl) rfl ?_ | refine uB tab_ok rfl rfl rfl rfl rfl rfl (by first | exact fun _ => rfl | exact cs1 | exact cs2 | exact cs3) (by first | exact fun _ => trivial | (intro h; simp at h; omega)) rfl ?_ | refine vN rfl rfl rfl rfl rfl rfl rfl rfl ?_))
      all_goals exact ret3t (by simp) rfl rfl rfl rfl rfl (Sub.refl _) (Sub.refl _) (Sub.refl _)
    · rw [show weiF [a, b] = (((xZ b).1, (w8 a).1), (xZ b).2 && (w8 a).2 && decide (0 ≤ (xZ b).1)) from if_neg hk]
      have hk2 : ¬ ([a, b][Int.toNat 0]'(Nat.succ_pos _)).tok.kind = 10 := hk
      repeat (first | refine uf ?_ | refine uc ?_ | refine ud ?_ | refine uq ?_ | refine ug ?_ | (refine uk ?_; first | refine vf tab_ok rfl rfl rfl rfl rfl rfl rfl ?_ | refine ul tab_ok rfl rfl rfl rfl (by first | exact trivial | omega | exact nl rfl) rfl ?_ | refine uO tab_ok rfl rfl rfl rfl rfl rfl rfl (by decide) rfl rfl rfl ?_) | refine uF rfl ?_)
      refine xg rfl (fun _ => ?_) (fun h => absurd h hk2)
      repeat (first | refine uf ?_ | refine ud ?_ | refine vm vb (by kernel_rfl) ?_ | refine uQ ?_ | (refine uk ?_; first | refine ul tab_ok rfl rfl rfl rfl (by first | exact trivial | omega | exact nl rfl) rfl ?_ | refine uO tab_ok rfl rfl rfl rfl rfl rfl rfl (by decide) rfl rfl rfl ?_ | refine vd tab_ok rfl rfl rfl rfl rfl rfl rfl rfl rfl ?_))
      refine um (qq b) call115 rfl rfl ⟨Sub.refl _, trivial⟩ rfl rfl rfl rfl ?_
      repeat (first | refine uf ?_ | refine ud ?_ | refine ug ?_ | (refine uk ?_; first | refine ul tab_ok rfl rfl rfl rfl (by first | exact trivial | omega | exact nl rfl) rfl ?_ | refine uO tab_ok rfl rfl rfl rfl rfl rfl rfl (by decide) rfl rfl rfl ?_))
      refine um (xi a) zM rfl rfl ⟨Sub.refl _, trivial⟩ rfl rfl rfl rfl ?_
      repeat (first | refine uf ?_ | refine uc ?_ | refine ud ?_ | refine un ?_ | refine ug ?_ | (refine uk ?_; first | refine ul tab_ok rfl rfl rfl rfl (by first | exact trivial | omega | exact nl rfl) rfl ?_ | refine uB tab_ok rfl rfl rfl rfl rfl rfl (by first | exact fun _ => rfl | exact cs1 | exact cs2 | exact cs3) (by first | exact fun _ => trivial | (intro h; simp at h; omega)) rfl ?_ | refine vN rfl rfl rfl rfl rfl rfl rfl rfl ?_))
      all_goals exact ret3t (by simp) rfl rfl rfl rfl rfl (Sub.refl _) (Sub.refl _) (Sub.refl _)
end Go.Proofs.YtllmagfmbglefaaDoor
