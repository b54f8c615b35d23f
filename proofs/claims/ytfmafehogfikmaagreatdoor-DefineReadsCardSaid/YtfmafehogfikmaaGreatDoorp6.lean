import Derived.Test.YtfmafehogfikmaaGreatDoorI4
import Derived.Test.YtfmafehogfikmaaGreatDoorP8
/- The reference's Symbol, whole, bound, pair, Plain, Split; walked. -/
namespace Go.Proofs.YtfmafehogfikmaaGreatDoor
open Go Go.RowKit
set_option maxRecDepth 20000

theorem xB (n : Nd) : uI Tryz.prog 14 [nA n] (.tup [.val (.string (vE n).1), .val (.bool (vE n).2)]) := by
  refine uP Tryz.func14 Tryz.ntmps14 rfl rfl rfl fun S w0 => ?_
  by_cases h5 : n.tok.kind = 5
  · rw [show vE n = (n.tok.text, true) from if_pos (.inl h5)]
    repeat (first | refine ue ?_ | refine uc ?_ | refine ud ?_ | refine uk ?_ | refine uj ?_ | refine uf ?_ | (refine ug ?_; first | refine uh tab_ok rfl rfl rfl rfl byE rfl ?_ | refine uJ tab_ok rfl rfl rfl rfl rfl ?_ | refine vp tab_ok rfl rfl rfl rfl rfl ?_) | refine ww byO rfl rfl rfl rfl ?_ ?_ | refine ur rfl ?_ | refine uD rfl rfl (congrArg (fun b => AV.val (.bool b)) (v4 (by omega))) rfl rfl rfl rfl ?_ | refine va rfl rfl (congrArg (fun b => AV.val (.bool b)) (v4 (by omega))) rfl rfl rfl ?_)
    all_goals exact Sub.refl _
  by_cases h1 : n.tok.kind = 1
  · rw [show vE n = (n.tok.text, true) from if_pos (.inr h1)]
    repeat (first | refine ue ?_ | refine uc ?_ | refine ud ?_ | refine uf ?_ | (refine ug ?_; first | refine uh tab_ok rfl rfl rfl rfl byE rfl ?_ | refine uJ tab_ok rfl rfl rfl rfl rfl ?_ | refine vp tab_ok rfl rfl rfl rfl rfl ?_) | refine r_g rfl rfl (congrArg (fun b => AV.val (.bool b)) (xg (by omega))) ?_ | refine uN rfl rfl (congrArg (fun b => AV.val (.bool b)) (xg (by omega))) rfl rfl rfl rfl ?_)
    refine vz rfl (fun h => absurd h1 h) (fun _ => ?_)
    repeat (first | refine ue ?_ | refine uc ?_ | refine ud ?_ | refine uk ?_ | refine uj ?_ | refine uf ?_ | (refine ug ?_; first | refine uh tab_ok rfl rfl rfl rfl byE rfl ?_ | refine uJ tab_ok rfl rfl rfl rfl rfl ?_) | refine ww byO rfl rfl rfl rfl ?_ ?_)
    all_goals exact Sub.refl _
  · rw [show vE n = (⟨#[]⟩, false) from if_neg (by rintro (h | h); exact h5 h; exact h1 h)]
    repeat (first | refine ue ?_ | refine uc ?_ | refine ud ?_ | refine uf ?_ | (refine ug ?_; first | refine uh tab_ok rfl rfl rfl rfl byE rfl ?_ | refine uJ tab_ok rfl rfl rfl rfl rfl ?_ | refine vp tab_ok rfl rfl rfl rfl rfl ?_) | refine r_g rfl rfl (congrArg (fun b => AV.val (.bool b)) (xg (by omega))) ?_ | refine uN rfl rfl (congrArg (fun b => AV.val (.bool b)) (xg (by omega))) rfl rfl rfl rfl ?_)
    refine vz rfl (fun _ => ?_) (fun h => absurd h h1)
    repeat (first | refine ue ?_ | refine uc ?_ | refine ud ?_ | refine uk ?_ | refine un ?_ | refine uf ?_ | (refine ug ?_; first | refine uh tab_ok rfl rfl rfl rfl byE rfl ?_) | refine ww byO rfl rfl rfl rfl ?_ ?_)
    all_goals exact Sub.refl _
def whoR (n : Nd) : Int × Bool := (n.tok.int, decide (n.tok.kind = 10) && n.tok.whole)
theorem kD (n : Nd) : uI Tryz.prog 77 [nA n] (.tup [.val (.int .i64 (whoR n).1), .val (.bool (whoR n).2)]) := by
  refine uP Tryz.func77 Tryz.ntmps77 rfl rfl rfl fun S w0 => ?_
  repeat (first | refine ue ?_ | refine uc ?_ | refine ud ?_ | refine wN vM (by kernel_rfl) ?_ | refine uk ?_ | refine uf ?_ | refine vG ?_ | (refine ug ?_; first | refine uh tab_ok rfl rfl rfl rfl byE rfl ?_ | refine uJ tab_ok rfl rfl rfl rfl rfl ?_ | refine vp tab_ok rfl rfl rfl rfl rfl ?_ | refine ux tab_ok rfl rfl rfl rfl rfl rfl byC (by first | exact fun _ => trivial | (intro h; simp at h; omega)) rfl ?_ | refine vd tab_ok rfl rfl rfl rfl rfl rfl byC rfl ?_ | refine vm rfl rfl rfl rfl rfl rfl rfl rfl ?_) | refine ww byO rfl rfl rfl rfl ?_ ?_)
  all_goals exact Sub.refl _
def bndR (n : Nd) (e : Int) : Int × Bool := if isWd n infS then (e, true) else whoR n
theorem rbnd_ok (n : Nd) (e : Int) (h : n.tok.text.size ≤ 1099511627776) : uI Tryz.prog 79 [nA n, .val (.int .i64 e)] (.tup [.val (.int .i64 (bndR n e).1), .val (.bool (bndR n e).2)]) := by
  refine uP Tryz.func79 Tryz.ntmps79 rfl rfl rfl fun S w0 => ?_
  by_cases h1 : n.tok.kind = 1
  · by_cases h2 : vk n.tok.text = infS
    · rw [bndR, if_pos (show isWd n infS = true by rw [isWd, decide_eq_true h1, decide_eq_true h2]; rfl)]
      repeat (first | refine ue ?_ | refine ud ?_ | refine uf ?_ | (refine ug ?_; first | refine uh tab_ok rfl rfl rfl rfl byE rfl ?_ | refine uJ tab_ok rfl rfl rfl rfl rfl ?_ | refine vp tab_ok rfl rfl rfl rfl rfl ?_) | refine r_g rfl rfl (congrArg (fun b => AV.val (.bool b)) (decide_eq_true (by omega))) ?_)
      refine uw (wI n.tok.text (by omega)) yq rfl rfl ⟨Sub.refl _, trivial⟩ rfl rfl rfl rfl ?_
      repeat (first | refine uc ?_ | refine uf ?_ | (refine ug ?_; first | refine ux tab_ok rfl rfl rfl rfl rfl rfl byC (by first | exact fun _ => trivial | (intro h; simp at h; omega)) rfl ?_ | refine vm rfl rfl rfl rfl rfl rfl rfl rfl ?_))
      refine uA rfl (fun _ => ?_) (fun h => absurd (show (decide (n.tok.kind = 1) && decide (vk n.tok.text = infS)) = false from h) (by rw [decide_eq_true h1, decide_eq_true h2]; decide))
      repeat (first | refine ue ?_ | refine uc ?_ | refine ud ?_ | refine uk ?_ | refine un ?_ | refine uf ?_ | (refine ug ?_; first | refine uh tab_ok rfl rfl rfl rfl byE rfl ?_) | refine ww byO rfl rfl rfl rfl ?_ ?_)
      all_goals exact Sub.refl _
    · rw [bndR, if_neg (show ¬ isWd n infS = true by rw [isWd, decide_eq_false h2, Bool.and_false]; decide)]
      repeat (first | refine ue ?_ | refine ud ?_ | refine uf ?_ | (refine ug ?_; first | refine uh tab_ok rfl rfl rfl rfl byE rfl ?_ | refine uJ tab_ok rfl rfl rfl rfl rfl ?_ | refine vp tab_ok rfl rfl rfl rfl rfl ?_) | refine r_g rfl rfl (congrArg (fun b => AV.val (.bool b)) (decide_eq_true (by omega))) ?_)
      refine uw (wI n.tok.text (by omega)) yq rfl rfl ⟨Sub.refl _, trivial⟩ rfl rfl rfl rfl ?_
      repeat (first | refine uc ?_ | refine uf ?_ | (refine ug ?_; first | refine ux tab_ok rfl rfl rfl rfl rfl rfl byC (by first | exact fun _ => trivial | (intro h; simp at h; omega)) rfl ?_ | refine vm rfl rfl rfl rfl rfl rfl rfl rfl ?_))
      refine uA rfl (fun h => absurd (show (decide (n.tok.kind = 1) && decide (vk n.tok.text = infS)) = true from h) (by rw [decide_eq_false h2, Bool.and_false]; decide)) (fun _ => ?_)
      repeat (first | refine ue ?_ | refine ud ?_ | refine uj ?_ | (refine ug ?_; first | refine uJ tab_ok rfl rfl rfl rfl rfl ?_))
      refine uw (kD n) call77 rfl rfl ⟨Sub.refl _, trivial⟩ rfl rfl rfl rfl ?_
      repeat (first | refine uc ?_ | refine uk ?_ | refine uf ?_ | (refine ug ?_; first | refine uh tab_ok rfl rfl rfl rfl byE rfl ?_) | refine ww byO rfl rfl rfl rfl ?_ ?_)
      all_goals exact Sub.refl _
  · rw [bndR, if_neg (show ¬ isWd n infS = true by rw [isWd, decide_eq_false h1, Bool.false_and]; decide)]
    repeat (first | refine ue ?_ | refine uc ?_ | refine ud ?_ | refine uj ?_ | refine uf ?_ | (refine ug ?_; first | refine uh tab_ok rfl rfl rfl rfl byE rfl ?_ | refine uJ tab_ok rfl rfl rfl rfl rfl ?_ | refine vp tab_ok rfl rfl rfl rfl rfl ?_) | refine ur rfl ?_ | refine uD rfl rfl (congrArg (fun b => AV.val (.bool b)) (decide_eq_false (by omega))) rfl rfl rfl rfl ?_ | refine va rfl rfl (congrArg (fun b => AV.val (.bool b)) (decide_eq_false (by omega))) rfl rfl rfl ?_)
    refine uw (kD n) call77 rfl rfl ⟨Sub.refl _, trivial⟩ rfl rfl rfl rfl ?_
    repeat (first | refine uc ?_ | refine uk ?_ | refine uf ?_ | (refine ug ?_; first | refine uh tab_ok rfl rfl rfl rfl byE rfl ?_) | refine ww byO rfl rfl rfl rfl ?_ ?_)
    all_goals exact Sub.refl _
theorem tig_snoc {l : List Nd} {i : Nat} (h : i < l.length) : vc (l.take (i + 1)) = if whN l[i] then vc (l.take i) else vc (l.take i) ++ [l[i]] := by
  rw [vc, vc, List.take_add_one, List.getElem?_eq_getElem h, Option.toList_some, List.filter_append, List.filter_cons, List.filter_nil]
  cases whN l[i]
  · rfl
  · exact List.append_nil _
set_option maxHeartbeats 1000000 in
theorem wD (l : List Nd) (hl : l.length ≤ 1099511627776) : uI Tryz.prog 51 [.sl 7 (l.map nF)] (.sl 7 ((vc l).map nF)) := by
  refine uP Tryz.func51 Tryz.ntmps51 rfl rfl rfl fun S w => ?_
  have hlm : (l.map nF).length = l.length := List.length_map _
  repeat (first | refine ue ?_ | refine uc ?_ | refine um ?_ | refine ud ?_ | refine uf ?_ | (refine ug ?_; first | refine uh tab_ok rfl rfl rfl rfl byE rfl ?_))
  refine uV (σ := {i : Nat // i ≤ l.length}) (fun x => [.row 0 50 7 ((vc (l.take x.1)).map nF)]) (fun x => [(0, .sl 7 (l.map nF)), (3, .row 0 0), (4, .val (.int .i64 x.1))]) (fun x => l.length - x.1) ⟨0, Nat.zero_le _⟩ (uy byV byV) ?_
  rintro ⟨i, hi⟩
  dsimp only
  have htl : ((vc (l.take i)).map nF).length ≤ i := by
    have := wF (l.take i)
    rw [List.length_take] at this
    rw [List.length_map]; omega
  repeat (first | refine ue ?_ | refine uc ?_ | refine ud ?_ | refine uf ?_ | (refine ug ?_; first | refine uG tab_ok rfl rfl rfl rfl rfl rfl rfl ?_ | refine uh tab_ok rfl rfl rfl rfl byE rfl ?_))
  refine uo rfl (fun hlt => ?_) (fun hge => ?_)
  · have hi' : i < l.length := by omega
    have ht := tig_snoc hi'
    generalize vc (l.take i) = T at ht htl ⊢
    repeat (first | refine ue ?_ | refine uc ?_ | refine um ?_ | refine ud ?_ | refine uj ?_ | refine uf ?_ | (refine ug ?_; first | refine uh tab_ok rfl rfl rfl rfl byE rfl ?_ | refine vf tab_ok rfl rfl rfl rfl rfl rfl rfl (by first | exact ⟨by omega, by omega⟩ | (simp; omega)) rfl rfl ?_))
    simp only [Int.toNat_natCast]
    refine uA rfl (fun hc => ?_) (fun hc => ?_)
    · have hw : whN l[i] = false := by simpa [whN] using hc
      rw [hw, if_neg Bool.false_ne_true] at ht
      repeat (first | refine ud ?_ | (refine ug ?_; first | refine uh tab_ok rfl rfl rfl rfl byE rfl ?_ | refine vf tab_ok rfl rfl rfl rfl rfl rfl rfl (by first | exact ⟨by omega, by omega⟩ | (simp; omega)) rfl rfl ?_ | refine u9 tab_ok rfl rfl rfl rfl rfl rfl rfl rfl rfl ?_))
      simp only [Int.toNat_natCast]
      refine u6 tab_ok rfl rfl rfl rfl rfl rfl rfl rfl rfl (by simp only [List.length_map, List.length_cons, List.length_nil] at htl ⊢; omega) rfl ?_
      repeat (first | refine uc ?_ | refine ud ?_ | refine uf ?_ | (refine ug ?_; first | refine uh tab_ok rfl rfl rfl rfl byE rfl ?_))
      refine ⟨⟨i + 1, hi'⟩, by dsimp only; omega, ?_⟩
      dsimp only
      rw [ht, List.map_append]
      exact uy byV byV
    · have hw : whN l[i] = true := by simpa [whN] using hc
      rw [hw, if_pos rfl] at ht
      repeat (first | refine uc ?_ | refine ud ?_ | refine uj ?_ | refine uf ?_ | (refine ug ?_; first | refine uh tab_ok rfl rfl rfl rfl byE rfl ?_))
      refine ⟨⟨i + 1, hi'⟩, by dsimp only; omega, ?_⟩
      dsimp only
      rw [ht]
      exact uy byV byV
  · obtain rfl : i = l.length := by omega
    rw [List.take_length]
    repeat (first | refine ue ?_ | refine uC ?_)
    refine ve (s' := ⟨[.gone], [(3, .sl 7 ((vc l).map nF))]⟩) (uy byV byV) ?_
    repeat (first | refine uc ?_ | refine ud ?_ | refine uk ?_ | refine uf ?_ | (refine ug ?_; first | refine uh tab_ok rfl rfl rfl rfl byE rfl ?_) | refine vB byO rfl rfl rfl ?_)
    exact Sub.refl _
set_option maxHeartbeats 1000000 in
theorem rsplit_ok (l : List Nd) (hl : l.length ≤ 1099511627776) : uI Tryz.prog 78 [.sl 7 (l.map nF)] (.sl 1 ((vO l).map nds)) := by
  refine uP Tryz.func78 Tryz.ntmps78 rfl rfl rfl fun S w => ?_
  have hlm : (l.map nF).length = l.length := List.length_map _
  repeat (first | refine ue ?_ | refine uc ?_ | refine um ?_ | refine ud ?_ | refine uf ?_ | (refine ug ?_; first | refine uh tab_ok rfl rfl rfl rfl byE rfl ?_))
  refine uV (σ := SS l) (fun x => [.row 0 34 1 (x.pre.map nds), .row 0 50 7 (x.cur.map nF)]) (fun x => [(0, .sl 7 (l.map nF)), (3, .row 0 0), (4, .row 1 0), (5, .val (.int .i64 x.i))]) (fun x => l.length - x.i) ⟨0, [], [], Nat.zero_le _, Nat.le_refl _, Nat.le_refl _, rfl⟩ (uy byV byV) ?_
  rintro ⟨i, pre, cur, hi, h1, h2, heq⟩
  dsimp only
  have hpl : (pre.map nds).length = pre.length := List.length_map _
  have hcl : (cur.map nF).length = cur.length := List.length_map _
  repeat (first | refine ue ?_ | refine uc ?_ | refine ud ?_ | refine uf ?_ | (refine ug ?_; first | refine uG tab_ok rfl rfl rfl rfl rfl rfl rfl ?_ | refine uh tab_ok rfl rfl rfl rfl byE rfl ?_))
  refine uo rfl (fun hlt => ?_) (fun hge => ?_)
  · have hi' : i < l.length := by omega
    rw [List.drop_eq_getElem_cons hi', wP] at heq
    repeat (first | refine ue ?_ | refine uc ?_ | refine um ?_ | refine ud ?_ | refine uj ?_ | refine uf ?_ | (refine ug ?_; first | refine uh tab_ok rfl rfl rfl rfl byE rfl ?_ | refine vf tab_ok rfl rfl rfl rfl rfl rfl rfl (by first | exact ⟨by omega, by omega⟩ | (simp; omega)) rfl rfl ?_))
    simp only [Int.toNat_natCast]
    refine uA rfl (fun hc => ?_) (fun hc => ?_)
    · have hm : cmB l[i] = true := by simpa [cmB] using hc
      rw [if_pos hm] at heq
      repeat (first | refine ue ?_)
      refine ve (s' := ⟨[.row 0 34 1 (pre.map nds), .gone], [(0, .sl 7 (l.map nF)), (3, .row 0 0), (4, .sl 7 (cur.map nF)), (5, .val (.int .i64 (i : Nat)))]⟩) (uy byV byV) ?_
      repeat (first | refine ue ?_ | refine uc ?_ | refine ud ?_ | refine uC ?_ | refine uf ?_ | (refine ug ?_; first | refine uh tab_ok rfl rfl rfl rfl byE rfl ?_ | refine u9 tab_ok rfl rfl rfl rfl rfl rfl rfl rfl rfl ?_ | refine u6 tab_ok rfl rfl rfl rfl rfl rfl rfl rfl rfl (by first | omega | (simp; omega)) rfl ?_))
      refine ⟨⟨i + 1, pre ++ [cur], [], hi', by rw [List.length_append, List.length_singleton]; omega, Nat.zero_le _, heq⟩, by dsimp only; omega, ?_⟩
      dsimp only
      rw [List.map_append]
      refine vN (s' := ⟨[.row 0 34 1 (pre.map nds ++ [cur].map nds), .gone], [(0, .sl 7 (l.map nF)), (3, .row 0 0), (4, .val (.slice none 0 0)), (5, .val (.int .i64 ((i + 1 : Nat) : Int)))]⟩) (uy byV byV) ?_
      refine vN (s' := ⟨[.row 0 34 1 (pre.map nds ++ [cur].map nds)], [(0, .sl 7 (l.map nF)), (3, .row 0 0), (4, .val (.slice none 0 0)), (5, .val (.int .i64 ((i + 1 : Nat) : Int)))]⟩) (u2 1 rfl rfl byK) ?_
      exact uy byV byV
    · have hm : ¬ cmB l[i] = true := by simpa [cmB] using hc
      rw [if_neg hm] at heq
      repeat (first | refine uc ?_ | refine ud ?_ | refine uj ?_ | refine uf ?_ | (refine ug ?_; first | refine uh tab_ok rfl rfl rfl rfl byE rfl ?_ | refine vf tab_ok rfl rfl rfl rfl rfl rfl rfl (by first | exact ⟨by omega, by omega⟩ | (simp; omega)) rfl rfl ?_ | refine u9 tab_ok rfl rfl rfl rfl rfl rfl rfl rfl rfl ?_ | refine u6 tab_ok rfl rfl rfl rfl rfl rfl rfl rfl rfl (by first | omega | (simp; omega)) rfl ?_))
      simp only [Int.toNat_natCast]
      refine ⟨⟨i + 1, pre, cur ++ [l[i]], hi', by omega, by rw [List.length_append, List.length_singleton]; omega, heq⟩, by dsimp only; omega, ?_⟩
      dsimp only
      rw [List.map_append]
      exact uy byV byV
  · obtain rfl : i = l.length := by omega
    rw [List.drop_length, wP] at heq
    repeat (first | refine ue ?_ | refine uC ?_)
    refine ve (s' := ⟨[.row 0 34 1 (pre.map nds), .gone], [(3, .row 0 0), (4, .sl 7 (cur.map nF))]⟩) (uy byV byV) ?_
    repeat (first | refine uc ?_ | refine ud ?_ | refine uf ?_ | (refine ug ?_; first | refine uh tab_ok rfl rfl rfl rfl byE rfl ?_ | refine u9 tab_ok rfl rfl rfl rfl rfl rfl rfl rfl rfl ?_ | refine u6 tab_ok rfl rfl rfl rfl rfl rfl rfl rfl rfl (by first | omega | (simp; omega)) rfl ?_))
    rw [← heq, List.map_append]
    refine ve (s' := ⟨[.gone, .gone], [(2, .sl 1 (pre.map nds ++ [cur].map nds))]⟩) (uy byV byV) ?_
    repeat (first | refine uk ?_ | refine vB byO rfl rfl rfl ?_)
    exact Sub.refl _
def parR : List Nd → (Int × ByteArray) × Bool
  | [a, b] =>
    if (whoR a).2 && (vE b).2 then (((whoR a).1, (vE b).1), decide (0 ≤ (whoR a).1))
    else (((whoR b).1, (vE a).1), (whoR b).2 && (vE a).2 && decide (0 ≤ (whoR b).1))
  | _ => ((0, ⟨#[]⟩), false)
set_option maxHeartbeats 1000000 in
theorem rpair_ok (l : List Nd) (hl : l.length ≤ 1099511627776) : uI Tryz.prog 54 [.sl 7 (l.map nF)] (.tup [.val (.int .i64 (parR l).1.1), .val (.string (parR l).1.2), .val (.bool (parR l).2)]) := by
  refine uP Tryz.func54 Tryz.ntmps54 rfl rfl rfl fun S w0 => ?_
  have hlm : (l.map nF).length = l.length := List.length_map _
  match l, hl, hlm with
  | [], _, _ =>
    repeat (first | refine ue ?_ | refine uc ?_ | refine ud ?_ | refine uk ?_ | refine un ?_ | refine uf ?_ | (refine ug ?_; first | refine uG tab_ok rfl rfl rfl rfl rfl rfl rfl ?_ | refine uh tab_ok rfl rfl rfl rfl byE rfl ?_) | refine uq rfl ?_)
    all_goals exact qW byO rfl rfl rfl rfl rfl (Sub.refl _) (Sub.refl _) (Sub.refl _)
  | [_], _, _ =>
    repeat (first | refine ue ?_ | refine uc ?_ | refine ud ?_ | refine uk ?_ | refine un ?_ | refine uf ?_ | (refine ug ?_; first | refine uG tab_ok rfl rfl rfl rfl rfl rfl rfl ?_ | refine uh tab_ok rfl rfl rfl rfl byE rfl ?_) | refine uq rfl ?_)
    all_goals exact qW byO rfl rfl rfl rfl rfl (Sub.refl _) (Sub.refl _) (Sub.refl _)
  | a :: b :: c :: r, hl, hlm =>
    have hne : ¬ (((a :: b :: c :: r).length : Nat) : Int) = 2 := by simp only [List.length_cons]; omega
    repeat (first | refine ue ?_ | refine uc ?_ | refine ud ?_ | refine uk ?_ | refine un ?_ | refine uf ?_ | (refine ug ?_; first | refine uG tab_ok rfl rfl rfl rfl rfl rfl rfl ?_ | refine uh tab_ok rfl rfl rfl rfl byE rfl ?_) | refine uq rfl ?_)
    all_goals exact qW byO rfl rfl rfl rfl rfl (Sub.refl _) (Sub.refl _) (Sub.refl _)
  | [a, b], _, _ =>
    rw [parR]
    repeat (first | refine ue ?_ | refine uc ?_ | refine ud ?_ | refine uj ?_ | refine uf ?_ | (refine ug ?_; first | refine uG tab_ok rfl rfl rfl rfl rfl rfl rfl ?_ | refine uh tab_ok rfl rfl rfl rfl byE rfl ?_ | refine vl tab_ok rfl rfl rfl rfl rfl rfl rfl (by decide) rfl rfl rfl ?_) | refine ur rfl ?_)
    refine uw (kD a) call77 rfl rfl ⟨Sub.refl _, trivial⟩ rfl rfl rfl rfl ?_
    repeat (first | refine ue ?_ | refine ud ?_ | refine uf ?_ | (refine ug ?_; first | refine uh tab_ok rfl rfl rfl rfl byE rfl ?_ | refine vl tab_ok rfl rfl rfl rfl rfl rfl rfl (by decide) rfl rfl rfl ?_))
    refine uw (xB b) zX rfl rfl ⟨Sub.refl _, trivial⟩ rfl rfl rfl rfl ?_
    cases hA : (whoR a).2 with
    | true =>
      cases hB : (vE b).2 with
      | true =>
        rw [if_pos (show (true && true) = true from rfl)]
        repeat (first | refine ue ?_ | refine uc ?_ | refine ud ?_ | refine uk ?_ | refine uj ?_ | refine uf ?_ | (refine ug ?_; first | refine uh tab_ok rfl rfl rfl rfl byE rfl ?_ | refine ux tab_ok rfl rfl rfl rfl rfl rfl byC (by first | exact fun _ => trivial | (intro h; simp at h; omega)) rfl ?_ | refine vI rfl rfl rfl rfl rfl rfl rfl rfl ?_ | refine vm rfl rfl rfl rfl rfl rfl rfl rfl ?_) | refine ur rfl ?_)
        all_goals exact qW byO rfl rfl rfl rfl rfl (Sub.refl _) (Sub.refl _) (Sub.refl _)
      | false =>
        rw [if_neg (show ¬ (true && false) = true by decide)]
        repeat (first | refine ue ?_ | refine uc ?_ | refine ud ?_ | refine uf ?_ | (refine ug ?_; first | refine uh tab_ok rfl rfl rfl rfl byE rfl ?_ | refine vl tab_ok rfl rfl rfl rfl rfl rfl rfl (by decide) rfl rfl rfl ?_ | refine ux tab_ok rfl rfl rfl rfl rfl rfl byC (by first | exact fun _ => trivial | (intro h; simp at h; omega)) rfl ?_ | refine vI rfl rfl rfl rfl rfl rfl rfl rfl ?_) | refine uq rfl ?_)
        refine uw (kD b) call77 rfl rfl ⟨Sub.refl _, trivial⟩ rfl rfl rfl rfl ?_
        repeat (first | refine uc ?_ | refine ud ?_ | refine uf ?_ | (refine ug ?_; first | refine uh tab_ok rfl rfl rfl rfl byE rfl ?_ | refine vl tab_ok rfl rfl rfl rfl rfl rfl rfl (by decide) rfl rfl rfl ?_))
        refine uw (xB a) zX rfl rfl ⟨Sub.refl _, trivial⟩ rfl rfl rfl rfl ?_
        repeat (first | refine ue ?_ | refine uc ?_ | refine ud ?_ | refine uk ?_ | refine uf ?_ | (refine ug ?_; first | refine uh tab_ok rfl rfl rfl rfl byE rfl ?_ | refine ux tab_ok rfl rfl rfl rfl rfl rfl byC (by first | exact fun _ => trivial | (intro h; simp at h; omega)) rfl ?_ | refine vm rfl rfl rfl rfl rfl rfl rfl rfl ?_))
        all_goals exact qW byO rfl rfl rfl rfl rfl (Sub.refl _) (Sub.refl _) (Sub.refl _)
    | false =>
      rw [Bool.false_and, if_neg Bool.false_ne_true]
      repeat (first | refine ue ?_ | refine uc ?_ | refine ud ?_ | refine uf ?_ | (refine ug ?_; first | refine uh tab_ok rfl rfl rfl rfl byE rfl ?_ | refine vl tab_ok rfl rfl rfl rfl rfl rfl rfl (by decide) rfl rfl rfl ?_ | refine ux tab_ok rfl rfl rfl rfl rfl rfl byC (by first | exact fun _ => trivial | (intro h; simp at h; omega)) rfl ?_ | refine vI rfl rfl rfl rfl rfl rfl rfl rfl ?_) | refine uq rfl ?_)
      refine uw (kD b) call77 rfl rfl ⟨Sub.refl _, trivial⟩ rfl rfl rfl rfl ?_
      repeat (first | refine uc ?_ | refine ud ?_ | refine uf ?_ | (refine ug ?_; first | refine uh tab_ok rfl rfl rfl rfl byE rfl ?_ | refine vl tab_ok rfl rfl rfl rfl rfl rfl rfl (by decide) rfl rfl rfl ?_))
      refine uw (xB a) zX rfl rfl ⟨Sub.refl _, trivial⟩ rfl rfl rfl rfl ?_
      repeat (first | refine ue ?_ | refine uc ?_ | refine ud ?_ | refine uk ?_ | refine uf ?_ | (refine ug ?_; first | refine uh tab_ok rfl rfl rfl rfl byE rfl ?_ | refine ux tab_ok rfl rfl rfl rfl rfl rfl byC (by first | exact fun _ => trivial | (intro h; simp at h; omega)) rfl ?_ | refine vm rfl rfl rfl rfl rfl rfl rfl rfl ?_))
      all_goals exact qW byO rfl rfl rfl rfl rfl (Sub.refl _) (Sub.refl _) (Sub.refl _)
/- what these say beside the program's -/
theorem whoR_2 (n : Nd) : (whoR n).2 = (xe n).2 := by
  rw [whoR, xe]
  by_cases h : n.tok.kind = 10 <;> cases hw : n.tok.whole <;> simp [h]
theorem whoR_1 {n : Nd} (h : (xe n).2 = true) : (whoR n).1 = (xe n).1 := by
  rw [xe] at h ⊢
  split at h
  · rename_i h2
    rw [if_pos h2]; rfl
  · cases h
theorem bndR_2 (n : Nd) (e : Int) : (bndR n e).2 = (vJ n e).2 := by
  rw [bndR, vJ]
  split
  · rfl
  · exact whoR_2 n
theorem bndR_1 {n : Nd} {e : Int} (h : (vJ n e).2 = true) : (bndR n e).1 = (vJ n e).1 := by
  rw [vJ] at h ⊢
  rw [bndR]
  split
  · rfl
  · rename_i h2
    rw [if_neg h2] at h
    exact whoR_1 h
theorem sym_no {n : Nd} (h : n.tok.kind = 10) : (vE n).2 = false := by rw [vE, if_neg (by omega)]
theorem who_no {n : Nd} (h : ¬ n.tok.kind = 10) : (xe n).2 = false := by rw [xe, if_neg (fun h2 => h h2.1)]
theorem parR_at (l : List Nd) : (parR l).2 = (wO l).2 ∧ ((wO l).2 = true → (parR l).1 = (wO l).1) := by
  match l with
  | [] => exact ⟨rfl, fun _ => rfl⟩
  | [_] => exact ⟨rfl, fun _ => rfl⟩
  | _ :: _ :: _ :: _ => exact ⟨rfl, fun _ => rfl⟩
  | [a, b] =>
    rw [parR, wO]
    by_cases hk : a.tok.kind = 10
    · rw [if_pos hk, whoR_2, whoR_2]
      have hs := sym_no hk
      cases hA : (xe a).2 with
      | false =>
        rw [Bool.false_and, if_neg Bool.false_ne_true, hs, Bool.and_false, Bool.false_and]
        exact ⟨rfl, fun h => by cases h⟩
      | true =>
        have h1 := whoR_1 hA
        cases hB : (vE b).2 with
        | false =>
          rw [Bool.and_false, if_neg Bool.false_ne_true, hs, Bool.and_false, Bool.false_and]
          exact ⟨rfl, fun h => by cases h⟩
        | true =>
          rw [Bool.and_true, if_pos rfl, h1]
          exact ⟨rfl, fun _ => rfl⟩
    · rw [if_neg hk, whoR_2, whoR_2, who_no hk, Bool.false_and, if_neg Bool.false_ne_true]
      cases hA : (xe b).2 with
      | false => exact ⟨rfl, fun h => by cases h⟩
      | true => rw [whoR_1 hA]; exact ⟨rfl, fun _ => rfl⟩
end Go.Proofs.YtfmafehogfikmaaGreatDoor

/- The reference's own styles, fold and Name; walked. -/
namespace Go.Proofs.YtfmafehogfikmaaGreatDoor
open Go Go.RowKit
set_option maxRecDepth 20000

def zSr : Sd := ⟨⟨#[]⟩, ⟨#[]⟩, 0, [], [], ⟨#[]⟩, ⟨#[]⟩, ⟨#[]⟩, ⟨#[]⟩, false, [], 0, ⟨#[]⟩, ⟨#[]⟩, ⟨#[]⟩, 0, [], [], [], false, false⟩
def ownR (nm sy : ByteArray) (l : List ByteArray) : Sd := { zSr with name := nm, system := sy, first := 1, symbols := l, neg1 := ⟨#[45]⟩, suf := ⟨#[46, 32]⟩, auto := true, fall := ⟨#[100, 101, 99, 105, 109, 97, 108]⟩ }
def dfD (S : Sd) : D := .ag [.val (.string S.name), .val (.string S.system), .val (.int .i64 S.first), .sl 1 (S.symbols.map sF), .sl 1 (S.weights.map wtD), .val (.string S.neg1), .val (.string S.neg2), .val (.string S.pre), .val (.string S.suf), .val (.bool S.auto), .sl 2 (S.range.map rgD), .val (.int .i64 S.pad), .val (.string S.padSign), .val (.string S.fall), .val (.string S.ext), .val (.int .i64 (S.said : Nat))]
set_option maxHeartbeats 8000000 in
theorem rown_D (nm sy : ByteArray) (L : List D) : uI Tryz.prog 21 [.val (.string nm), .val (.string sy), .sl 1 L] (.agg [.val (.string nm), .val (.string sy), .val (.int .i64 1), .sl 1 L, .sl 1 [], .val (.string ⟨#[45]⟩), .val (.string ⟨#[]⟩), .val (.string ⟨#[]⟩), .val (.string ⟨#[46, 32]⟩), .val (.bool true), .sl 2 [], .val (.int .i64 0), .val (.string ⟨#[]⟩), .val (.string ⟨#[100, 101, 99, 105, 109, 97, 108]⟩), .val (.string ⟨#[]⟩), .val (.int .i64 0)]) := by
  refine uP Tryz.func21 Tryz.ntmps21 rfl rfl rfl fun S w => ?_
  repeat (first | refine ue ?_ | refine uc ?_ | refine ud ?_ | refine uk ?_ | refine uf ?_ | (refine ug ?_; first | refine uh tab_ok rfl rfl rfl rfl byE rfl ?_ | refine vp tab_ok rfl rfl rfl rfl rfl ?_ | refine uM tab_ok rfl rfl rfl rfl ?_ | refine uU tab_ok rfl rfl rfl rfl rfl rfl ?_))
  all_goals exact ret1c tab_ok byO rfl rfl rfl rfl rfl rfl (Sub.agg (by repeat' first | exact trivial | exact Sub.refl _ | exact Sub.nil _ | refine Sub.agg ?_ | apply And.intro))
theorem zJ (nm sy : ByteArray) (l : List ByteArray) : uI Tryz.prog 21 [.val (.string nm), .val (.string sy), .sl 1 (l.map sF)] (dfA (ownR nm sy l)) := rown_D nm sy (l.map sF)
def xG (f b : Int) (n : Nat) : List ByteArray := ((List.range n).filter fun (k : Nat) => !decide (f + (k : Int) = b)).map fun (k : Nat) => runesBytes [f + (k : Int)]
theorem let_succ (f b : Int) (n : Nat) : xG f b (n + 1) = if f + (n : Int) = b then xG f b n else xG f b n ++ [runesBytes [f + (n : Int)]] := by
  rw [xG, xG, List.range_succ, List.filter_append, List.filter_cons, List.filter_nil]
  by_cases h : f + (n : Int) = b
  · rw [if_pos h, decide_eq_true h]; simp
  · rw [if_neg h, decide_eq_false h]; simp
theorem let_len (f b : Int) (n : Nat) : (xG f b n).length ≤ n := by
  rw [xG, List.length_map]
  exact Nat.le_trans (List.length_filter_le _ _) (Nat.le_of_eq List.length_range)
set_option maxHeartbeats 1000000 in
theorem rlet_ok (f b : Int) (m : Nat) (hf : 0 ≤ f) (hm : f + m ≤ 70000) : uI Tryz.prog 98 [.val (.int .i32 f), .val (.int .i32 (f + (m : Int) - 1)), .val (.int .i32 b)] (.sl 1 ((xG f b m).map sF)) := by
  refine uP Tryz.func98 Tryz.ntmps98 rfl rfl rfl fun S w => ?_
  repeat (first | refine ue ?_ | refine uc ?_ | refine um ?_ | refine ud ?_ | refine uf ?_ | (refine ug ?_; first | refine uh tab_ok rfl rfl rfl rfl byE rfl ?_))
  refine uV (σ := {i : Nat // i ≤ m}) (fun x => [.row 0 9 1 ((xG f b x.1).map sF)]) (fun x => [(1, .val (.int .i32 (f + (m : Int) - 1))), (2, .val (.int .i32 b)), (7, .row 0 0), (8, .val (.int .i32 (f + (x.1 : Int))))]) (fun x => m - x.1) ⟨0, Nat.zero_le _⟩ (by rw [show f + ((0 : Nat) : Int) = f by omega]; exact uy byV byV) ?_
  rintro ⟨i, hi⟩
  dsimp only
  have hl : ((xG f b i).map sF).length ≤ i := by rw [List.length_map]; exact let_len f b i
  have hs := let_succ f b i
  generalize hT : xG f b i = T at hl hs ⊢
  have e1 : f + ((i + 1 : Nat) : Int) = f + (i : Int) + 1 := by omega
  repeat (first | refine ue ?_ | refine uc ?_ | refine ud ?_ | refine uf ?_ | (refine ug ?_; first | refine uh tab_ok rfl rfl rfl rfl byE rfl ?_))
  refine uo rfl (fun hlt => ?_) (fun hge => ?_)
  · by_cases hb : f + (i : Int) = b
    · rw [if_pos hb] at hs
      repeat (first | refine ue ?_ | refine uc ?_ | refine um ?_ | refine ud ?_ | refine uj ?_ | refine uf ?_ | (refine ug ?_; first | refine uh tab_ok rfl rfl rfl rfl byE rfl ?_))
      refine vz rfl (fun h => absurd hb h) (fun _ => ?_)
      repeat (first | refine uc ?_ | refine ud ?_ | refine uj ?_ | refine uf ?_ | (refine ug ?_; first | refine uh tab_ok rfl rfl rfl rfl byE rfl ?_))
      refine ⟨⟨i + 1, by omega⟩, by dsimp only; omega, ?_⟩
      dsimp only
      rw [hs, e1]
      exact uy byV byV
    · rw [if_neg hb] at hs
      repeat (first | refine ue ?_ | refine uc ?_ | refine um ?_ | refine ud ?_ | refine uj ?_ | refine uf ?_ | (refine ug ?_; first | refine uh tab_ok rfl rfl rfl rfl byE rfl ?_))
      refine vz rfl (fun _ => ?_) (fun h => absurd h hb)
      repeat (first | refine ud ?_ | (refine ug ?_; first | refine uh tab_ok rfl rfl rfl rfl byE rfl ?_))
      refine uw (y7 (f + (i : Int))) zb rfl rfl ⟨Sub.refl _, trivial⟩ rfl rfl rfl rfl ?_
      repeat (first | (refine ug ?_; first | refine u9 tab_ok rfl rfl rfl rfl rfl rfl rfl rfl rfl ?_))
      refine u6 tab_ok rfl rfl rfl rfl rfl rfl rfl rfl rfl (by simp only [List.length_map, List.length_cons, List.length_nil] at hl ⊢; omega) rfl ?_
      repeat (first | refine uc ?_ | refine ud ?_ | refine uf ?_ | (refine ug ?_; first | refine uh tab_ok rfl rfl rfl rfl byE rfl ?_))
      refine ⟨⟨i + 1, by omega⟩, by dsimp only; omega, ?_⟩
      dsimp only
      rw [hs, e1, List.map_append]
      exact uy byV byV
  · obtain rfl : i = m := by omega
    repeat (first | refine ue ?_ | refine uC ?_)
    refine ve (s' := ⟨[.gone], [(7, .sl 1 (T.map sF))]⟩) (uy byV byV) ?_
    repeat (first | refine uc ?_ | refine ud ?_ | refine uk ?_ | refine uf ?_ | (refine ug ?_; first | refine uh tab_ok rfl rfl rfl rfl byE rfl ?_) | refine vB byO rfl rfl rfl ?_)
    rw [hT]
    exact Sub.refl _
def mrkR (nm : ByteArray) (r : Int) : Sd := { ownR nm (⟨#[99, 121, 99, 108, 105, 99]⟩ : ByteArray) [runesBytes [r]] with suf := ⟨#[32]⟩ }
set_option maxHeartbeats 1000000 in
theorem rmark_ok (nm : ByteArray) (r : Int) : uI Tryz.prog 99 [.val (.string nm), .val (.int .i32 r)] (dfA (mrkR nm r)) := by
  refine uP Tryz.func99 Tryz.ntmps99 rfl rfl rfl fun S w => ?_
  repeat (first | refine ue ?_ | refine ud ?_ | refine uf ?_ | (refine ug ?_; first | refine uh tab_ok rfl rfl rfl rfl byE rfl ?_ | refine vp tab_ok rfl rfl rfl rfl rfl ?_))
  refine uw (y7 r) zb rfl rfl ⟨Sub.refl _, trivial⟩ rfl rfl rfl rfl ?_
  repeat (first | (refine ug ?_; first | refine u9 tab_ok rfl rfl rfl rfl rfl rfl rfl rfl rfl ?_))
  refine uw (zJ nm (⟨#[99, 121, 99, 108, 105, 99]⟩ : ByteArray) [runesBytes [r]]) ko rfl rfl ⟨Sub.refl _, Sub.refl _, Sub.refl _, trivial⟩ rfl rfl rfl rfl ?_
  repeat (first | refine ue ?_ | refine uc ?_ | refine ud ?_ | refine uk ?_ | refine uf ?_ | (refine ug ?_; first | refine uh tab_ok rfl rfl rfl rfl byE rfl ?_ | refine uJ tab_ok rfl rfl rfl rfl rfl ?_ | refine vp tab_ok rfl rfl rfl rfl rfl ?_ | refine uM tab_ok rfl rfl rfl rfl ?_))
  all_goals exact ret1c tab_ok byO rfl rfl rfl rfl rfl rfl (Sub.agg (by repeat' first | exact trivial | exact Sub.refl _ | exact Sub.nil _ | refine Sub.agg ?_ | apply And.intro))
def romR (nm : ByteArray) (l : List ByteArray) : Sd := { ownR nm (⟨#[97, 100, 100, 105, 116, 105, 118, 101]⟩ : ByteArray) l with weights := [1000, 900, 500, 400, 100, 90, 50, 40, 10, 9, 5, 4, 1], auto := false, range := [(1, 3999)] }
set_option maxHeartbeats 1000000 in
theorem rroman_ok (nm : ByteArray) (l : List ByteArray) : uI Tryz.prog 100 [.val (.string nm), .sl 1 (l.map sF)] (dfA (romR nm l)) := by
  refine uP Tryz.func100 Tryz.ntmps100 rfl rfl rfl fun S w => ?_
  repeat (first | refine ue ?_ | refine ud ?_ | refine uf ?_ | (refine ug ?_; first | refine uh tab_ok rfl rfl rfl rfl byE rfl ?_ | refine vp tab_ok rfl rfl rfl rfl rfl ?_))
  refine uw (zJ nm (⟨#[97, 100, 100, 105, 116, 105, 118, 101]⟩ : ByteArray) l) ko rfl rfl ⟨Sub.refl _, Sub.refl _, Sub.refl _, trivial⟩ rfl rfl rfl rfl ?_
  repeat (first | refine ue ?_ | refine uc ?_ | refine ud ?_ | refine uk ?_ | refine uf ?_ | (refine ug ?_; first | refine uh tab_ok rfl rfl rfl rfl byE rfl ?_ | refine uJ tab_ok rfl rfl rfl rfl rfl ?_ | refine vp tab_ok rfl rfl rfl rfl rfl ?_ | refine uM tab_ok rfl rfl rfl rfl ?_ | refine uU tab_ok rfl rfl rfl rfl rfl rfl ?_ | refine u9 tab_ok rfl rfl rfl rfl rfl rfl rfl rfl rfl ?_))
  all_goals exact ret1c tab_ok byO rfl rfl rfl rfl rfl rfl (Sub.agg (by repeat' first | exact trivial | exact Sub.refl _ | exact Sub.nil _ | refine Sub.agg ?_ | apply And.intro))
end Go.Proofs.YtfmafehogfikmaaGreatDoor

/- The reference's own styles; walked. -/
namespace Go.Proofs.YtfmafehogfikmaaGreatDoor
open Go Go.RowKit
set_option maxRecDepth 20000

def digR : List ByteArray := xG 48 0 10
def rlo : List ByteArray := [(⟨#[109]⟩ : ByteArray), (⟨#[99, 109]⟩ : ByteArray), (⟨#[100]⟩ : ByteArray), (⟨#[99, 100]⟩ : ByteArray), (⟨#[99]⟩ : ByteArray), (⟨#[120, 99]⟩ : ByteArray), (⟨#[108]⟩ : ByteArray), (⟨#[120, 108]⟩ : ByteArray), (⟨#[120]⟩ : ByteArray), (⟨#[105, 120]⟩ : ByteArray), (⟨#[118]⟩ : ByteArray), (⟨#[105, 118]⟩ : ByteArray), (⟨#[105]⟩ : ByteArray)]
def rup : List ByteArray := [(⟨#[77]⟩ : ByteArray), (⟨#[67, 77]⟩ : ByteArray), (⟨#[68]⟩ : ByteArray), (⟨#[67, 68]⟩ : ByteArray), (⟨#[67]⟩ : ByteArray), (⟨#[88, 67]⟩ : ByteArray), (⟨#[76]⟩ : ByteArray), (⟨#[88, 76]⟩ : ByteArray), (⟨#[88]⟩ : ByteArray), (⟨#[73, 88]⟩ : ByteArray), (⟨#[86]⟩ : ByteArray), (⟨#[73, 86]⟩ : ByteArray), (⟨#[73]⟩ : ByteArray)]
def ownsL : List Sd := [mrkR (⟨#[99, 105, 114, 99, 108, 101]⟩ : ByteArray) 9702, ownR (⟨#[100, 101, 99, 105, 109, 97, 108]⟩ : ByteArray) (⟨#[110, 117, 109, 101, 114, 105, 99]⟩ : ByteArray) digR, { ownR (⟨#[100, 101, 99, 105, 109, 97, 108, 45, 108, 101, 97, 100, 105, 110, 103, 45, 122, 101, 114, 111]⟩ : ByteArray) (⟨#[110, 117, 109, 101, 114, 105, 99]⟩ : ByteArray) digR with pad := 2, padSign := ⟨#[48]⟩ }, mrkR (⟨#[100, 105, 115, 99]⟩ : ByteArray) 8226, ownR (⟨#[108, 111, 119, 101, 114, 45, 97, 108, 112, 104, 97]⟩ : ByteArray) (⟨#[97, 108, 112, 104, 97, 98, 101, 116, 105, 99]⟩ : ByteArray) (xG 97 0 26), ownR (⟨#[108, 111, 119, 101, 114, 45, 103, 114, 101, 101, 107]⟩ : ByteArray) (⟨#[97, 108, 112, 104, 97, 98, 101, 116, 105, 99]⟩ : ByteArray) (xG 945 962 25), romR (⟨#[108, 111, 119, 101, 114, 45, 114, 111, 109, 97, 110]⟩ : ByteArray) rlo, mrkR (⟨#[115, 113, 117, 97, 114, 101]⟩ : ByteArray) 9642, ownR (⟨#[117, 112, 112, 101, 114, 45, 97, 108, 112, 104, 97]⟩ : ByteArray) (⟨#[97, 108, 112, 104, 97, 98, 101, 116, 105, 99]⟩ : ByteArray) (xG 65 0 26), romR (⟨#[117, 112, 112, 101, 114, 45, 114, 111, 109, 97, 110]⟩ : ByteArray) rup]
set_option maxHeartbeats 4000000 in
theorem rowns_ok : uI Tryz.prog 65 [] (.sl 16 (ownsL.map dfD)) := by
  refine uP Tryz.func65 Tryz.ntmps65 rfl rfl rfl fun S w => ?_
  repeat (first | refine ue ?_ | refine ud ?_ | refine uf ?_ | (refine ug ?_; first | refine uh tab_ok rfl rfl rfl rfl byE rfl ?_))
  refine uw (show uI Tryz.prog 98 [.val (.int .i32 48), .val (.int .i32 57), .val (.int .i32 0)] (.sl 1 (digR.map sF)) from rlet_ok 48 0 10 (by decide) (by decide)) call98 rfl rfl ⟨Sub.refl _, Sub.refl _, Sub.refl _, trivial⟩ rfl rfl rfl rfl ?_
  repeat (first | refine ue ?_ | refine ud ?_ | refine uf ?_ | (refine ug ?_; first | refine uh tab_ok rfl rfl rfl rfl byE rfl ?_))
  refine uw (zJ (⟨#[100, 101, 99, 105, 109, 97, 108, 45, 108, 101, 97, 100, 105, 110, 103, 45, 122, 101, 114, 111]⟩ : ByteArray) (⟨#[110, 117, 109, 101, 114, 105, 99]⟩ : ByteArray) digR) ko rfl rfl ⟨Sub.refl _, Sub.refl _, Sub.refl _, trivial⟩ rfl rfl rfl rfl ?_
  repeat (first | refine ue ?_ | refine ud ?_ | refine wN vM (by kernel_rfl) ?_ | refine uf ?_ | (refine ug ?_; first | refine uh tab_ok rfl rfl rfl rfl byE rfl ?_ | refine vp tab_ok rfl rfl rfl rfl rfl ?_ | refine uM tab_ok rfl rfl rfl rfl ?_))
  refine uw (rmark_ok (⟨#[99, 105, 114, 99, 108, 101]⟩ : ByteArray) 9702) call99 rfl rfl ⟨Sub.refl _, Sub.refl _, trivial⟩ rfl rfl rfl rfl ?_
  repeat (first | (refine ug ?_; first | refine uh tab_ok rfl rfl rfl rfl byE rfl ?_))
  refine uw (zJ (⟨#[100, 101, 99, 105, 109, 97, 108]⟩ : ByteArray) (⟨#[110, 117, 109, 101, 114, 105, 99]⟩ : ByteArray) digR) ko rfl rfl ⟨Sub.refl _, Sub.refl _, Sub.refl _, trivial⟩ rfl rfl rfl rfl ?_
  repeat (first | (refine ug ?_; first | refine uJ tab_ok rfl rfl rfl rfl rfl ?_))
  refine uw (rmark_ok (⟨#[100, 105, 115, 99]⟩ : ByteArray) 8226) call99 rfl rfl ⟨Sub.refl _, Sub.refl _, trivial⟩ rfl rfl rfl rfl ?_
  refine uw (show uI Tryz.prog 98 [.val (.int .i32 97), .val (.int .i32 122), .val (.int .i32 0)] (.sl 1 ((xG 97 0 26).map sF)) from rlet_ok 97 0 26 (by decide) (by decide)) call98 rfl rfl ⟨Sub.refl _, Sub.refl _, Sub.refl _, trivial⟩ rfl rfl rfl rfl ?_
  refine uw (zJ (⟨#[108, 111, 119, 101, 114, 45, 97, 108, 112, 104, 97]⟩ : ByteArray) (⟨#[97, 108, 112, 104, 97, 98, 101, 116, 105, 99]⟩ : ByteArray) (xG 97 0 26)) ko rfl rfl ⟨Sub.refl _, Sub.refl _, Sub.refl _, trivial⟩ rfl rfl rfl rfl ?_
  refine uw (show uI Tryz.prog 98 [.val (.int .i32 945), .val (.int .i32 969), .val (.int .i32 962)] (.sl 1 ((xG 945 962 25).map sF)) from rlet_ok 945 962 25 (by decide) (by decide)) call98 rfl rfl ⟨Sub.refl _, Sub.refl _, Sub.refl _, trivial⟩ rfl rfl rfl rfl ?_
  refine uw (zJ (⟨#[108, 111, 119, 101, 114, 45, 103, 114, 101, 101, 107]⟩ : ByteArray) (⟨#[97, 108, 112, 104, 97, 98, 101, 116, 105, 99]⟩ : ByteArray) (xG 945 962 25)) ko rfl rfl ⟨Sub.refl _, Sub.refl _, Sub.refl _, trivial⟩ rfl rfl rfl rfl ?_
  repeat (first | (refine ug ?_; first | refine u9 tab_ok rfl rfl rfl rfl rfl rfl rfl rfl rfl ?_))
  refine uw (rroman_ok (⟨#[108, 111, 119, 101, 114, 45, 114, 111, 109, 97, 110]⟩ : ByteArray) rlo) call100 rfl rfl ⟨Sub.refl _, Sub.refl _, trivial⟩ rfl rfl rfl rfl ?_
  refine uw (rmark_ok (⟨#[115, 113, 117, 97, 114, 101]⟩ : ByteArray) 9642) call99 rfl rfl ⟨Sub.refl _, Sub.refl _, trivial⟩ rfl rfl rfl rfl ?_
  refine uw (show uI Tryz.prog 98 [.val (.int .i32 65), .val (.int .i32 90), .val (.int .i32 0)] (.sl 1 ((xG 65 0 26).map sF)) from rlet_ok 65 0 26 (by decide) (by decide)) call98 rfl rfl ⟨Sub.refl _, Sub.refl _, Sub.refl _, trivial⟩ rfl rfl rfl rfl ?_
  refine uw (zJ (⟨#[117, 112, 112, 101, 114, 45, 97, 108, 112, 104, 97]⟩ : ByteArray) (⟨#[97, 108, 112, 104, 97, 98, 101, 116, 105, 99]⟩ : ByteArray) (xG 65 0 26)) ko rfl rfl ⟨Sub.refl _, Sub.refl _, Sub.refl _, trivial⟩ rfl rfl rfl rfl ?_
  repeat (first | (refine ug ?_; first | refine u9 tab_ok rfl rfl rfl rfl rfl rfl rfl rfl rfl ?_))
  refine uw (rroman_ok (⟨#[117, 112, 112, 101, 114, 45, 114, 111, 109, 97, 110]⟩ : ByteArray) rup) call100 rfl rfl ⟨Sub.refl _, Sub.refl _, trivial⟩ rfl rfl rfl rfl ?_
  repeat (first | refine uc ?_ | refine uk ?_ | refine vG ?_ | (refine ug ?_; first | refine uh tab_ok rfl rfl rfl rfl byE rfl ?_ | refine u9 tab_ok rfl rfl rfl rfl rfl rfl rfl rfl rfl ?_) | refine vB byO rfl rfl rfl ?_)
  exact Sub.refl _
end Go.Proofs.YtfmafehogfikmaaGreatDoor

/- The reference's fold and Name; walked. -/
namespace Go.Proofs.YtfmafehogfikmaaGreatDoor
open Go Go.RowKit
set_option maxRecDepth 20000

def nmO : List ByteArray := ownsL.map (·.name)
theorem amg_own (w : ByteArray) : xq ownN w = nmO.any fun x => decide (w = x) := by
  have h1 : (yZ ownN).all (fun x => nmO.any fun y => decide (x = y)) = true := by kernel_rfl
  have h2 : nmO.all (fun x => (yZ ownN).any fun y => decide (x = y)) = true := by kernel_rfl
  rw [xq, Bool.eq_iff_iff, List.any_eq_true, List.any_eq_true]
  constructor
  · rintro ⟨x, hx, h⟩
    obtain ⟨y, hy, e⟩ := List.any_eq_true.1 (List.all_eq_true.1 h1 x hx)
    exact ⟨y, hy, by rw [← of_decide_eq_true e]; exact h⟩
  · rintro ⟨x, hx, h⟩
    obtain ⟨y, hy, e⟩ := List.any_eq_true.1 (List.all_eq_true.1 h2 x hx)
    exact ⟨y, hy, by rw [← of_decide_eq_true e]; exact h⟩
theorem fold_no {w : ByteArray} (h : ∀ i (hi : i < ownsL.length), w ≠ (ownsL[i]).name) : xq ownN w = false := by
  rw [amg_own, List.any_eq_false]
  intro x hx
  obtain ⟨S, hS, rfl⟩ := List.mem_map.1 hx
  obtain ⟨i, hi, rfl⟩ := List.getElem_of_mem hS
  simpa using h i hi
theorem fold_yes {w : ByteArray} {i : Nat} (hi : i < ownsL.length) (h : w = (ownsL[i]).name) : xq ownN w = true := by
  rw [amg_own, List.any_eq_true]
  exact ⟨_, List.mem_map.2 ⟨_, List.getElem_mem hi, rfl⟩, decide_eq_true h⟩
set_option maxHeartbeats 1000000 in
theorem rfold_ok (s : ByteArray) (h : s.size ≤ 1099511627776) : uI Tryz.prog 34 [.val (.string s)] (.val (.string (canF s))) := by
  refine uP Tryz.func34 Tryz.ntmps34 rfl rfl rfl fun S w => ?_
  have hol : ownsL.length = 10 := rfl
  have hom : (ownsL.map dfD).length = 10 := rfl
  rw [canF]
  repeat (first | refine ue ?_ | refine ud ?_ | refine uf ?_ | (refine ug ?_; first | refine uh tab_ok rfl rfl rfl rfl byE rfl ?_))
  refine uw rowns_ok call65 rfl rfl trivial rfl rfl rfl rfl ?_
  repeat (first | refine ue ?_ | refine uc ?_ | refine um ?_ | refine ud ?_ | refine uf ?_ | (refine ug ?_; first | refine uh tab_ok rfl rfl rfl rfl byE rfl ?_))
  refine uV (σ := {i : Nat // i ≤ 10 ∧ ∀ j (hj : j < ownsL.length), j < i → vk s ≠ (ownsL[j]).name}) (fun _ => []) (fun x => [(0, .val (.string s)), (3, .sl 16 (ownsL.map dfD)), (4, .val (.int .i64 x.1))]) (fun x => 10 - x.1) ⟨0, Nat.zero_le _, fun _ _ h => absurd h (Nat.not_lt_zero _)⟩ (uy byV byV) ?_
  rintro ⟨i, hi, hno⟩
  dsimp only
  repeat (first | refine ue ?_ | refine uc ?_ | refine ud ?_ | refine uf ?_ | (refine ug ?_; first | refine uG tab_ok rfl rfl rfl rfl rfl rfl rfl ?_ | refine uh tab_ok rfl rfl rfl rfl byE rfl ?_))
  refine uo rfl (fun hlt => ?_) (fun hge => ?_)
  · have hi' : i < ownsL.length := by omega
    repeat (first | refine ue ?_ | refine um ?_ | refine wN vM (by kernel_rfl) ?_ | refine uj ?_ | (refine ug ?_; first | refine uh tab_ok rfl rfl rfl rfl byE rfl ?_))
    refine uw (wI s (by omega)) yq rfl rfl ⟨Sub.refl _, trivial⟩ rfl rfl rfl rfl ?_
    repeat (first | refine uc ?_ | refine vG ?_ | (refine ug ?_; first | refine uh tab_ok rfl rfl rfl rfl byE rfl ?_ | refine vf tab_ok rfl rfl rfl rfl rfl rfl rfl (by first | exact ⟨by omega, by omega⟩ | (simp; omega)) rfl rfl ?_))
    refine uo rfl (fun h => ?_) (fun h => ?_)
    · simp only [Int.toNat_natCast] at h
      rw [fold_yes hi' h, if_pos rfl]
      repeat (first | refine ue ?_ | refine uc ?_ | refine ud ?_ | refine uk ?_ | refine un ?_ | refine uu ?_ | refine uf ?_ | (refine ug ?_; first | refine uh tab_ok rfl rfl rfl rfl byE rfl ?_ | refine vf tab_ok rfl rfl rfl rfl rfl rfl rfl (by first | exact ⟨by omega, by omega⟩ | (simp; omega)) rfl rfl ?_) | refine vB byO rfl rfl rfl ?_)
      simp only [Int.toNat_natCast]
      rw [h]
      exact Sub.refl _
    · simp only [Int.toNat_natCast] at h
      repeat (first | refine uc ?_ | refine ud ?_ | refine uj ?_ | refine uf ?_ | (refine ug ?_; first | refine uh tab_ok rfl rfl rfl rfl byE rfl ?_))
      refine ⟨⟨i + 1, by omega, fun j hj hji => ?_⟩, by dsimp only; omega, uy byV byV⟩
      rcases Nat.lt_or_ge j i with hlt2 | hge2
      · exact hno j hj hlt2
      · obtain rfl : j = i := by omega
        exact h
  · obtain rfl : i = 10 := by omega
    rw [fold_no (fun j hj => hno j hj (by omega)), if_neg Bool.false_ne_true]
    repeat (first | refine ue ?_ | refine uc ?_ | refine ud ?_ | refine uk ?_ | refine uC ?_ | refine uf ?_ | (refine ug ?_; first | refine uh tab_ok rfl rfl rfl rfl byE rfl ?_) | refine vB byO rfl rfl rfl ?_)
    exact Sub.refl _
theorem bad_at (w : ByteArray) : xq badN w = (decide (w = (⟨#[110, 111, 110, 101]⟩ : ByteArray)) || decide (w = (⟨#[105, 110, 105, 116, 105, 97, 108]⟩ : ByteArray)) || decide (w = (⟨#[105, 110, 104, 101, 114, 105, 116]⟩ : ByteArray)) || decide (w = (⟨#[117, 110, 115, 101, 116]⟩ : ByteArray)) || decide (w = (⟨#[100, 101, 102, 97, 117, 108, 116]⟩ : ByteArray))) := by
  have h : yZ badN = [(⟨#[110, 111, 110, 101]⟩ : ByteArray), (⟨#[105, 110, 105, 116, 105, 97, 108]⟩ : ByteArray), (⟨#[105, 110, 104, 101, 114, 105, 116]⟩ : ByteArray), (⟨#[117, 110, 115, 101, 116]⟩ : ByteArray), (⟨#[100, 101, 102, 97, 117, 108, 116]⟩ : ByteArray)] := by kernel_rfl
  rw [xq, h]
  simp only [List.any_cons, List.any_nil, Bool.or_false, Bool.or_assoc]
set_option maxHeartbeats 1000000 in
theorem rname_ok (l : List Nd) (hl : l.length ≤ 1099511627776) (ht : ∀ n ∈ l, n.tok.text.size ≤ 1099511627776) : uI Tryz.prog 12 [.sl 7 (l.map nF)] (.tup [.val (.string (nmF l).1), .val (.bool (nmF l).2)]) := by
  refine uP Tryz.func12 Tryz.ntmps12 rfl rfl rfl fun S w0 => ?_
  repeat (first | refine ue ?_ | refine ud ?_ | refine uf ?_ | (refine ug ?_; first | refine uh tab_ok rfl rfl rfl rfl byE rfl ?_))
  refine uw (xb l hl) zd rfl rfl ⟨Sub.refl _, trivial⟩ rfl rfl rfl rfl ?_
  have htt : ∀ n ∈ uW l, n.tok.text.size ≤ 1099511627776 := fun n hn => ht n (xZ n hn)
  have hll : (uW l).length ≤ 1099511627776 := Nat.le_trans (kB l) hl
  rw [nmF]
  obtain ⟨m, hm⟩ : ∃ m, m = uW l := ⟨_, rfl⟩
  rw [← hm] at htt hll ⊢
  have hlm : (m.map nF).length = m.length := List.length_map _
  clear hm
  match m, htt, hll, hlm with
  | [], _, _, _ =>
    repeat (first | refine ue ?_ | refine uc ?_ | refine ud ?_ | refine uk ?_ | refine un ?_ | refine uf ?_ | (refine ug ?_; first | refine uG tab_ok rfl rfl rfl rfl rfl rfl rfl ?_ | refine uh tab_ok rfl rfl rfl rfl byE rfl ?_ | refine ux tab_ok rfl rfl rfl rfl rfl rfl byC (by first | exact fun _ => trivial | (intro h; simp at h; omega)) rfl ?_ | refine uN rfl rfl rfl rfl rfl rfl rfl ?_ | refine va rfl rfl rfl rfl rfl rfl ?_) | refine ww byO rfl rfl rfl rfl ?_ ?_ | refine uq rfl ?_)
    all_goals exact Sub.refl _
  | [n], ht, _, _ =>
    rw [nmF1]
    have h1 := ht n (by simp)
    have hl1 : ((([n] : List Nd).length : Nat) : Int) = 1 := rfl
    by_cases hk : n.tok.kind = 1
    · rw [if_pos hk]
      have hk2 : ([n][Int.toNat 0]'(Nat.one_pos)).tok.kind = 1 := hk
      repeat (first | refine ue ?_ | refine uc ?_ | refine ud ?_ | refine uf ?_ | (refine ug ?_; first | refine uG tab_ok rfl rfl rfl rfl rfl rfl rfl ?_ | refine uh tab_ok rfl rfl rfl rfl byE rfl ?_ | refine vf tab_ok rfl rfl rfl rfl rfl rfl rfl (by first | exact ⟨by omega, by omega⟩ | (simp; omega)) rfl rfl ?_ | refine uD rfl rfl rfl rfl rfl rfl rfl ?_ | refine uY tab_ok rfl rfl rfl rfl rfl rfl (by first | exact trivial | omega) rfl ?_) | refine r_g rfl rfl rfl ?_)
      refine vz rfl (fun h => absurd hk2 h) (fun _ => ?_)
      repeat (first | refine ue ?_ | refine ud ?_ | refine uj ?_ | (refine ug ?_; first | refine uh tab_ok rfl rfl rfl rfl byE rfl ?_ | refine vf tab_ok rfl rfl rfl rfl rfl rfl rfl (by first | exact ⟨by omega, by omega⟩ | (simp; omega)) rfl rfl ?_))
      refine uw (wI n.tok.text (by omega)) yq rfl rfl ⟨Sub.refl _, trivial⟩ rfl rfl rfl rfl ?_
      rw [bad_at]
      generalize vk n.tok.text = w
      by_cases e0 : w = (⟨#[110, 111, 110, 101]⟩ : ByteArray)
      · subst e0
        rw [if_pos (by decide)]
        repeat (first | refine ue ?_ | refine uc ?_ | refine um ?_ | refine ud ?_ | refine uk ?_ | refine un ?_ | refine uu ?_ | refine uj ?_ | refine uf ?_ | (refine ug ?_; first | refine uh tab_ok rfl rfl rfl rfl byE rfl ?_) | refine ww byO rfl rfl rfl rfl ?_ ?_ | refine uq rfl ?_)
        all_goals exact Sub.refl _
      by_cases e1 : w = (⟨#[105, 110, 105, 116, 105, 97, 108]⟩ : ByteArray)
      · subst e1
        rw [if_pos (by decide)]
        repeat (first | refine ue ?_ | refine uc ?_ | refine um ?_ | refine ud ?_ | refine uk ?_ | refine un ?_ | refine uu ?_ | refine uj ?_ | refine uf ?_ | (refine ug ?_; first | refine uh tab_ok rfl rfl rfl rfl byE rfl ?_) | refine ww byO rfl rfl rfl rfl ?_ ?_ | refine uq rfl ?_ | refine ur rfl ?_)
        all_goals exact Sub.refl _
      by_cases e2 : w = (⟨#[105, 110, 104, 101, 114, 105, 116]⟩ : ByteArray)
      · subst e2
        rw [if_pos (by decide)]
        repeat (first | refine ue ?_ | refine uc ?_ | refine um ?_ | refine ud ?_ | refine uk ?_ | refine un ?_ | refine uu ?_ | refine uj ?_ | refine uf ?_ | (refine ug ?_; first | refine uh tab_ok rfl rfl rfl rfl byE rfl ?_) | refine ww byO rfl rfl rfl rfl ?_ ?_ | refine uq rfl ?_ | refine ur rfl ?_)
        all_goals exact Sub.refl _
      by_cases e3 : w = (⟨#[117, 110, 115, 101, 116]⟩ : ByteArray)
      · subst e3
        rw [if_pos (by decide)]
        repeat (first | refine ue ?_ | refine uc ?_ | refine um ?_ | refine ud ?_ | refine uk ?_ | refine un ?_ | refine uu ?_ | refine uj ?_ | refine uf ?_ | (refine ug ?_; first | refine uh tab_ok rfl rfl rfl rfl byE rfl ?_) | refine ww byO rfl rfl rfl rfl ?_ ?_ | refine uq rfl ?_ | refine ur rfl ?_)
        all_goals exact Sub.refl _
      by_cases e4 : w = (⟨#[100, 101, 102, 97, 117, 108, 116]⟩ : ByteArray)
      · subst e4
        rw [if_pos (by decide)]
        repeat (first | refine ue ?_ | refine uc ?_ | refine um ?_ | refine ud ?_ | refine uk ?_ | refine un ?_ | refine uu ?_ | refine uf ?_ | (refine ug ?_; first | refine uh tab_ok rfl rfl rfl rfl byE rfl ?_) | refine ww byO rfl rfl rfl rfl ?_ ?_ | refine uq rfl ?_ | refine ur rfl ?_)
        all_goals exact Sub.refl _
      repeat (first | refine ue ?_ | refine uc ?_ | refine um ?_ | refine ud ?_ | refine uf ?_ | (refine ug ?_; first | refine uh tab_ok rfl rfl rfl rfl byE rfl ?_))
      refine uo rfl (fun h => absurd h e0) (fun _ => ?_)
      repeat (first | refine ue ?_ | refine uc ?_ | refine ud ?_ | refine uf ?_ | (refine ug ?_; first | refine uh tab_ok rfl rfl rfl rfl byE rfl ?_))
      refine uo rfl (fun h => absurd h e1) (fun _ => ?_)
      repeat (first | refine ue ?_ | refine uc ?_ | refine ud ?_ | refine uf ?_ | (refine ug ?_; first | refine uh tab_ok rfl rfl rfl rfl byE rfl ?_))
      refine uo rfl (fun h => absurd h e2) (fun _ => ?_)
      repeat (first | refine ue ?_ | refine uc ?_ | refine ud ?_ | refine uf ?_ | (refine ug ?_; first | refine uh tab_ok rfl rfl rfl rfl byE rfl ?_))
      refine uo rfl (fun h => absurd h e3) (fun _ => ?_)
      repeat (first | refine uc ?_ | refine ud ?_ | refine uf ?_ | (refine ug ?_; first | refine uh tab_ok rfl rfl rfl rfl byE rfl ?_))
      refine uo rfl (fun h => absurd h e4) (fun _ => ?_)
      repeat (first | refine ue ?_ | refine ud ?_ | refine uj ?_ | (refine ug ?_; first | refine uh tab_ok rfl rfl rfl rfl byE rfl ?_ | refine vf tab_ok rfl rfl rfl rfl rfl rfl rfl (by first | exact ⟨by omega, by omega⟩ | (simp; omega)) rfl rfl ?_))
      rw [decide_eq_false e0, decide_eq_false e1, decide_eq_false e2, decide_eq_false e3, decide_eq_false e4, if_neg (by decide)]
      refine uw (rfold_ok n.tok.text h1) call34 rfl rfl ⟨Sub.refl _, trivial⟩ rfl rfl rfl rfl ?_
      repeat (first | refine uc ?_ | refine uk ?_ | refine uf ?_ | (refine ug ?_; first | refine uh tab_ok rfl rfl rfl rfl byE rfl ?_) | refine ww byO rfl rfl rfl rfl ?_ ?_)
      all_goals exact Sub.refl _
    · rw [if_neg hk]
      have hk2 : ¬ ([n][Int.toNat 0]'(Nat.one_pos)).tok.kind = 1 := hk
      repeat (first | refine ue ?_ | refine uc ?_ | refine ud ?_ | refine uf ?_ | (refine ug ?_; first | refine uG tab_ok rfl rfl rfl rfl rfl rfl rfl ?_ | refine uh tab_ok rfl rfl rfl rfl byE rfl ?_ | refine vf tab_ok rfl rfl rfl rfl rfl rfl rfl (by first | exact ⟨by omega, by omega⟩ | (simp; omega)) rfl rfl ?_ | refine uD rfl rfl rfl rfl rfl rfl rfl ?_ | refine uY tab_ok rfl rfl rfl rfl rfl rfl (by first | exact trivial | omega) rfl ?_) | refine r_g rfl rfl rfl ?_)
      refine vz rfl (fun _ => ?_) (fun h => absurd h hk2)
      repeat (first | refine ue ?_ | refine uc ?_ | refine ud ?_ | refine uk ?_ | refine un ?_ | refine uf ?_ | (refine ug ?_; first | refine uh tab_ok rfl rfl rfl rfl byE rfl ?_) | refine ww byO rfl rfl rfl rfl ?_ ?_)
      all_goals exact Sub.refl _
  | a :: b :: r, _, hl, hlm =>
    have hne : ¬ (((a :: b :: r).length : Nat) : Int) = 1 := by simp only [List.length_cons]; omega
    repeat (first | refine ue ?_ | refine uc ?_ | refine ud ?_ | refine uk ?_ | refine un ?_ | refine uf ?_ | (refine ug ?_; first | refine uG tab_ok rfl rfl rfl rfl rfl rfl rfl ?_ | refine uh tab_ok rfl rfl rfl rfl byE rfl ?_ | refine ux tab_ok rfl rfl rfl rfl rfl rfl byC (by first | exact fun _ => trivial | (intro h; simp at h; omega)) rfl ?_ | refine wx tab_ok rfl rfl rfl rfl rfl rfl rfl byC rfl rfl (by first | (intro h; simp at h; exact ⟨by omega, by omega⟩) | (intro h; simp only [Bool.and_eq_true, Bool.or_eq_false_iff, beq_iff_eq, decide_eq_false_iff_not, decide_eq_true_eq] at h; exact ⟨by omega, by omega⟩)) rfl rfl ?_ | refine vI rfl rfl rfl rfl rfl rfl rfl rfl ?_) | refine ww byO rfl rfl rfl rfl ?_ ?_ | refine uq rfl ?_)
    all_goals exact Sub.refl _
end Go.Proofs.YtfmafehogfikmaaGreatDoor
