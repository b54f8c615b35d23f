/- The reference's May (chapter 9); walked. -/
import Derived.Test.YtfmafehogfikmaaGreatDoorp8
import Derived.Test.YtfmafehogfikmaaGreatDoorI7
namespace Go.Proofs.YtfmafehogfikmaaGreatDoor
open Go Go.RowKit
set_option maxRecDepth 20000

def needF (d : Sd) : Nat := if d.system = yf ∨ d.system = qd then 2 else if d.system = vX then 0 else 1
/-- What is asked of a system beside the number of its symbols. -/
def kindR (d : Sd) : Bool :=
  if d.system = wE then decide ((d.symbols.length : Int) = d.weights.length) && zh d.weights
  else if d.system = vX then decide ((d.symbols.length : Int) + d.weights.length = 0)
  else decide (d.system = cyclicS ∨ d.system = yz ∨ d.system = fixedS ∨ d.system = yf ∨ d.system = qd)
theorem kind_eq (d : Sd) : kindF d = (kindR d && decide ((needF d : Int) ≤ d.symbols.length)) := by
  obtain ⟨name, sys, first, syms, ws, neg0, neg1, pre, suf, auto, rng, pad, qt, fall, ext, said, sy, su, wt, sb, ad⟩ := d
  by_cases e1 : sys = cyclicS
  · subst e1; rfl
  by_cases e2 : sys = yz
  · subst e2; rfl
  by_cases e3 : sys = fixedS
  · subst e3; rfl
  by_cases e4 : sys = yf
  · subst e4; rfl
  by_cases e5 : sys = qd
  · subst e5; rfl
  by_cases e6 : sys = wE
  · subst e6
    show (decide (1 ≤ (syms.length : Int)) && decide ((syms.length : Int) = ws.length) && zh ws) = ((decide ((syms.length : Int) = ws.length) && zh ws) && decide (((1 : Nat) : Int) ≤ syms.length))
    rw [Bool.and_assoc, Bool.and_comm]; rfl
  by_cases e7 : sys = vX
  · subst e7
    show decide ((syms.length : Int) + ws.length = 0) = (decide ((syms.length : Int) + ws.length = 0) && decide (((0 : Nat) : Int) ≤ syms.length))
    rw [decide_eq_true (show ((0 : Nat) : Int) ≤ syms.length by omega), Bool.and_true]
  · simp [kindF, kindR, e1, e2, e3, e4, e5, e6, e7]
theorem may_no {d : Sd} (h : (!kindF d || decide (64 < (d.symbols.length : Int)) || decide (d.pad < 0) || decide (200 < d.pad) || (qU d).any zg) = true) : yU d = false := if_pos h
theorem may_yes {d : Sd} (h : (!kindF d || decide (64 < (d.symbols.length : Int)) || decide (d.pad < 0) || decide (200 < d.pad) || (qU d).any zg) = false) : yU d = !d.range.any badR := if_neg (by rw [h]; decide)
theorem may_k {d : Sd} (h : kindR d = false) : yU d = false := may_no (by rw [kind_eq, h]; rfl)
theorem awp_cutrx {σ : Type} {cx : Cx} {s : AS} {Q : Exit → AS → Prop} (IS : σ → AS) {c b : Code} (h1 : AWp cx c s (fun e s'' => (e = .normal ∧ ∃ x : σ, Fits cx s'' (IS x)) ∨ (e = .ret ∧ Q .ret s''))) (h2 : ∀ x, AWp cx b (IS x) Q) : AWp cx c s (qQ (fun s'' => AWp cx b s'' Q) Q) :=
  ks h1 fun e s'' h => by
    rcases h with ⟨rfl, x, h⟩ | ⟨rfl, h⟩
    · exact uc (ve h (h2 x))
    · exact h
structure FlS (ws : List Int) where
  i : Nat
  hi : i ≤ ws.length
  ok : ∀ j, j < i → za ws j = true
theorem fall_ok {ws : List Int} (h : ∀ j, j < ws.length → za ws j = true) : zh ws = true := by
  rw [kg, List.all_eq_true]
  exact fun j hj => h j (List.mem_range.1 hj)
theorem fall_bad {ws : List Int} {j : Nat} (hj : j < ws.length) (h : za ws j = false) : zh ws = false := by
  rw [kg, List.all_eq_false]
  exact ⟨j, List.mem_range.2 hj, by rw [h]; decide⟩
theorem fallAt_at {ws : List Int} {i : Nat} (hi : i < ws.length) : za ws i = (decide (0 ≤ ws[i]) && (decide (i = 0) || decide (ws[i] < ws[i - 1]'(by omega)))) := by
  rw [za, List.getD_eq_getElem?_getD, List.getD_eq_getElem?_getD, List.getElem?_eq_getElem hi, List.getElem?_eq_getElem (show i - 1 < ws.length by omega)]; rfl
set_option maxHeartbeats 16000000 in
theorem rmay9_ok (d : Sd) (h1 : d.symbols.length ≤ 65536) (h2 : d.weights.length ≤ 65536) (h3 : d.range.length ≤ 65536) : uI Tryz.prog 23 [dfA d] (.val (.bool (yU d))) := by
  refine uP Tryz.func23 Tryz.ntmps23 rfl rfl rfl fun S w => ?_
  have hsm : (d.symbols.map sF).length = d.symbols.length := List.length_map _
  have hwm : (d.weights.map wtD).length = d.weights.length := List.length_map _
  have hrm : (d.range.map rgD).length = d.range.length := List.length_map _
  refine ue ?_
  repeat (first | refine uc ?_ | refine ud ?_ | refine uf ?_ | (refine ug ?_; first | refine uh tab_ok rfl rfl rfl rfl byE rfl ?_ | refine vp tab_ok rfl rfl rfl rfl rfl ?_))
  refine ue ?_
  repeat (first | refine uc ?_ | refine ud ?_ | refine uf ?_ | (refine ug ?_; first | refine uh tab_ok rfl rfl rfl rfl byE rfl ?_))
  refine ue ?_
  refine awp_cutrx (σ := PLift (kindR d = true)) (fun _ => ⟨[.box 38 (dfC d)], [(1, .ptr 0 0), (3, .val (.int .i64 (needF d : Nat)))]⟩) ?_ ?_
  · obtain ⟨name, sys, first, syms, ws, neg0, neg1, pre, suf, auto, rng, pad, qt, fall, ext, said, sy, su, wt, sb, ad⟩ := d
    dsimp only at h1 h2 h3 hsm hwm hrm ⊢
    by_cases e1 : sys = cyclicS
    · subst e1
      repeat (first | refine ue ?_ | refine uc ?_ | refine um ?_ | refine ud ?_ | refine ut ?_ | refine uj ?_ | refine uf ?_ | (refine ug ?_; first | refine uh tab_ok rfl rfl rfl rfl byE rfl ?_ | refine uJ tab_ok rfl rfl rfl rfl rfl ?_) | refine uq rfl ?_)
      exact .inl ⟨rfl, ⟨rfl⟩, uy byV byV⟩
    by_cases e2 : sys = yz
    · subst e2
      repeat (first | refine ue ?_ | refine uc ?_ | refine um ?_ | refine ud ?_ | refine ut ?_ | refine uj ?_ | refine uf ?_ | (refine ug ?_; first | refine uh tab_ok rfl rfl rfl rfl byE rfl ?_ | refine uJ tab_ok rfl rfl rfl rfl rfl ?_) | refine uq rfl ?_ | refine ur rfl ?_)
      exact .inl ⟨rfl, ⟨rfl⟩, uy byV byV⟩
    by_cases e3 : sys = fixedS
    · subst e3
      repeat (first | refine ue ?_ | refine uc ?_ | refine um ?_ | refine ud ?_ | refine ut ?_ | refine uf ?_ | (refine ug ?_; first | refine uh tab_ok rfl rfl rfl rfl byE rfl ?_ | refine uJ tab_ok rfl rfl rfl rfl rfl ?_) | refine uq rfl ?_ | refine ur rfl ?_)
      exact .inl ⟨rfl, ⟨rfl⟩, uy byV byV⟩
    by_cases e4 : sys = yf
    · subst e4
      repeat (first | refine ue ?_ | refine uc ?_ | refine um ?_ | refine ud ?_ | refine ut ?_ | refine uj ?_ | refine uf ?_ | (refine ug ?_; first | refine uh tab_ok rfl rfl rfl rfl byE rfl ?_ | refine uJ tab_ok rfl rfl rfl rfl rfl ?_) | refine uq rfl ?_ | refine ur rfl ?_)
      exact .inl ⟨rfl, ⟨rfl⟩, uy byV byV⟩
    by_cases e5 : sys = qd
    · subst e5
      repeat (first | refine ue ?_ | refine uc ?_ | refine um ?_ | refine ud ?_ | refine ut ?_ | refine uf ?_ | (refine ug ?_; first | refine uh tab_ok rfl rfl rfl rfl byE rfl ?_ | refine uJ tab_ok rfl rfl rfl rfl rfl ?_) | refine uq rfl ?_ | refine ur rfl ?_)
      exact .inl ⟨rfl, ⟨rfl⟩, uy byV byV⟩
    by_cases e6 : sys = wE
    · subst e6
      by_cases hlen : (syms.length : Int) = ws.length
      · repeat (first | refine ue ?_ | refine uc ?_ | refine um ?_ | refine ud ?_ | refine uf ?_ | (refine ug ?_; first | refine uG tab_ok rfl rfl rfl rfl rfl rfl rfl ?_ | refine uh tab_ok rfl rfl rfl rfl byE rfl ?_ | refine uJ tab_ok rfl rfl rfl rfl rfl ?_) | refine uq rfl ?_ | refine ur rfl ?_)
        refine vz rfl (fun h => absurd (by omega) h) (fun _ => ?_)
        repeat (first | refine ue ?_ | refine uc ?_ | refine um ?_ | refine ud ?_ | refine uj ?_ | refine uf ?_ | (refine ug ?_; first | refine uh tab_ok rfl rfl rfl rfl byE rfl ?_))
        refine uV (σ := FlS ws) (fun _ => [.box 38 [.val (.string name), .val (.string wE), .val (.int .i64 first), .sl 1 (syms.map sF), .sl 1 (ws.map wtD), .val (.string neg0), .val (.string neg1), .val (.string pre), .val (.string suf), .val (.bool auto), .sl 2 (rng.map rgD), .val (.int .i64 pad), .val (.string qt), .val (.string fall), .val (.string ext), .val (.int .i64 (said : Nat))]]) (fun x => [(1, .ptr 0 0), (3, .val (.int .i64 1)), (4, .val (.int .i64 x.i))]) (fun x => ws.length - x.i) ⟨0, Nat.zero_le _, fun _ h => absurd h (Nat.not_lt_zero _)⟩ (uy byV byV) ?_
        rintro ⟨i, hi, hok⟩
        dsimp only
        repeat (first | refine ue ?_ | refine uc ?_ | refine ud ?_ | refine uf ?_ | (refine ug ?_; first | refine uG tab_ok rfl rfl rfl rfl rfl rfl rfl ?_ | refine uh tab_ok rfl rfl rfl rfl byE rfl ?_ | refine uJ tab_ok rfl rfl rfl rfl rfl ?_))
        refine uo rfl (fun hlt => ?_) (fun hge => ?_)
        · have hi' : i < ws.length := by omega
          have hat := fallAt_at hi'
          have ei : ((i : Nat) : Int).toNat = i := Int.toNat_natCast i
          have ej : (((i : Nat) : Int) - 1).toNat = i - 1 := by omega
          repeat (first | refine ue ?_ | refine um ?_ | refine wN vM (by kernel_rfl) ?_ | refine uj ?_ | (refine ug ?_; first | refine uh tab_ok rfl rfl rfl rfl byE rfl ?_ | refine uJ tab_ok rfl rfl rfl rfl rfl ?_ | refine vf tab_ok rfl rfl rfl rfl rfl rfl rfl (by first | exact ⟨by omega, by omega⟩ | (simp; omega)) rfl rfl ?_))
          try simp only [Int.toNat_natCast]
          by_cases hx : ws[i] < 0
          · repeat (first | refine ue ?_ | refine uc ?_ | refine ud ?_ | refine uk ?_ | refine un ?_ | refine uu ?_ | refine uf ?_ | refine vG ?_ | (refine ug ?_; first | refine uh tab_ok rfl rfl rfl rfl byE rfl ?_) | refine uq rfl ?_ | refine uN rfl rfl (congrArg (fun b => AV.val (.bool b)) (decide_eq_true (by omega))) rfl rfl rfl rfl ?_ | refine va rfl rfl (congrArg (fun b => AV.val (.bool b)) (decide_eq_true (by omega))) rfl rfl rfl ?_ | refine y8 rfl rfl rfl rfl rfl rfl ?_)
            refine .inr ⟨rfl, ?_⟩
            rw [may_k (d := ⟨name, wE, first, syms, ws, neg0, neg1, pre, suf, auto, rng, pad, qt, fall, ext, said, sy, su, wt, sb, ad⟩) (show (decide ((syms.length : Int) = ws.length) && zh ws) = false by rw [fall_bad hi' (by rw [hat]; rw [decide_eq_false (by omega)]; rfl), Bool.and_false])]
            exact vB byO rfl rfl rfl (Sub.refl _)
          by_cases hi0 : i = 0
          · repeat (first | refine uc ?_ | refine ud ?_ | refine uj ?_ | refine uf ?_ | refine vG ?_ | (refine ug ?_; first | refine uh tab_ok rfl rfl rfl rfl byE rfl ?_) | refine ur rfl ?_ | refine r_g rfl rfl (congrArg (fun b => AV.val (.bool b)) (decide_eq_false (by omega))) ?_ | refine uD rfl rfl (congrArg (fun b => AV.val (.bool b)) (decide_eq_false (by omega))) rfl rfl rfl rfl ?_ | refine va rfl rfl (congrArg (fun b => AV.val (.bool b)) (decide_eq_false (by omega))) rfl rfl rfl ?_)
            refine ⟨⟨i + 1, hi', fun j hj => ?_⟩, by dsimp only; omega, uy byV byV⟩
            rcases Nat.lt_or_ge j i with hlt2 | hge2
            · exact hok j hlt2
            · obtain rfl : j = i := by omega
              rw [hat]; rw [decide_eq_true (by omega), decide_eq_true hi0]; rfl
          have hip : (0 : Int) < (i : Int) := by omega
          repeat (first | refine uc ?_ | refine vG ?_ | (refine ug ?_; first | refine uh tab_ok rfl rfl rfl rfl byE rfl ?_ | refine uJ tab_ok rfl rfl rfl rfl rfl ?_ | refine vf tab_ok rfl rfl rfl rfl rfl rfl rfl (by first | exact ⟨by omega, by omega⟩ | (simp; omega)) rfl rfl ?_) | refine r_g rfl rfl (congrArg (fun b => AV.val (.bool b)) (decide_eq_true (by omega))) ?_ | refine r_g rfl rfl (congrArg (fun b => AV.val (.bool b)) (decide_eq_false (by omega))) ?_ | refine uN rfl rfl (congrArg (fun b => AV.val (.bool b)) (decide_eq_true (by omega))) rfl rfl rfl rfl ?_ | refine uD rfl rfl (congrArg (fun b => AV.val (.bool b)) (decide_eq_false (by omega))) rfl rfl rfl rfl ?_)
          try simp only [Int.toNat_natCast, ej]
          try simp only [Int.toNat_natCast, ej]
          by_cases hy : ws[i] < ws[i - 1]'(by omega)
          · skip
            refine uo rfl (fun h => absurd h (by omega)) (fun _ => ?_)
            repeat (first | refine uc ?_ | refine ud ?_ | refine uj ?_ | refine uf ?_ | (refine ug ?_; first | refine uh tab_ok rfl rfl rfl rfl byE rfl ?_))
            refine ⟨⟨i + 1, hi', fun j hj => ?_⟩, by dsimp only; omega, uy byV byV⟩
            rcases Nat.lt_or_ge j i with hlt2 | hge2
            · exact hok j hlt2
            · obtain rfl : j = i := by omega
              rw [hat]; rw [decide_eq_true (by omega), decide_eq_false hi0, decide_eq_true hy]; rfl
          · skip
            refine uo rfl (fun _ => ?_) (fun h => absurd (by omega) h)
            repeat (first | refine ue ?_ | refine uc ?_ | refine ud ?_ | refine uk ?_ | refine un ?_ | refine uu ?_ | refine uf ?_ | (refine ug ?_; first | refine uh tab_ok rfl rfl rfl rfl byE rfl ?_))
            refine .inr ⟨rfl, ?_⟩
            rw [may_k (d := ⟨name, wE, first, syms, ws, neg0, neg1, pre, suf, auto, rng, pad, qt, fall, ext, said, sy, su, wt, sb, ad⟩) (show (decide ((syms.length : Int) = ws.length) && zh ws) = false by rw [fall_bad hi' (by rw [hat]; rw [decide_eq_false hi0, decide_eq_false hy]; simp), Bool.and_false])]
            exact vB byO rfl rfl rfl (Sub.refl _)
        · obtain rfl : i = ws.length := by omega
          repeat (first | refine uC ?_ | refine vg ?_ | refine ut ?_ | refine vi rfl ?_)
          exact .inl ⟨rfl, ⟨show (decide ((syms.length : Int) = ws.length) && zh ws) = true by rw [decide_eq_true hlen, fall_ok hok]; rfl⟩, uy byV byV⟩
      · repeat (first | refine ue ?_ | refine uc ?_ | refine um ?_ | refine ud ?_ | refine uf ?_ | (refine ug ?_; first | refine uG tab_ok rfl rfl rfl rfl rfl rfl rfl ?_ | refine uh tab_ok rfl rfl rfl rfl byE rfl ?_ | refine uJ tab_ok rfl rfl rfl rfl rfl ?_) | refine uq rfl ?_ | refine ur rfl ?_)
        refine vz rfl (fun _ => ?_) (fun h => absurd (by omega) hlen)
        repeat (first | refine ue ?_ | refine uc ?_ | refine ud ?_ | refine uk ?_ | refine un ?_ | refine uu ?_ | refine uf ?_ | (refine ug ?_; first | refine uh tab_ok rfl rfl rfl rfl byE rfl ?_))
        refine .inr ⟨rfl, ?_⟩
        rw [may_k (d := ⟨name, wE, first, syms, ws, neg0, neg1, pre, suf, auto, rng, pad, qt, fall, ext, said, sy, su, wt, sb, ad⟩) (show (decide ((syms.length : Int) = ws.length) && zh ws) = false by rw [decide_eq_false hlen]; rfl)]
        exact vB byO rfl rfl rfl (Sub.refl _)
    by_cases e7 : sys = vX
    · subst e7
      by_cases h0 : syms.length = 0
      · by_cases h00 : ws.length = 0
        · repeat (first | refine ue ?_ | refine uc ?_ | refine um ?_ | refine ud ?_ | refine uf ?_ | (refine ug ?_; first | refine uG tab_ok rfl rfl rfl rfl rfl rfl rfl ?_ | refine uh tab_ok rfl rfl rfl rfl byE rfl ?_ | refine uJ tab_ok rfl rfl rfl rfl rfl ?_) | refine uq rfl ?_ | refine ur rfl ?_ | refine r_g rfl rfl (congrArg (fun b => AV.val (.bool b)) (decide_eq_false (by omega))) ?_ | refine uD rfl rfl (congrArg (fun b => AV.val (.bool b)) (decide_eq_false (by omega))) rfl rfl rfl rfl ?_)
          refine uo rfl (fun h => absurd h (by omega)) (fun _ => ?_)
          repeat (first | refine ut ?_ | refine uj ?_)
          exact .inl ⟨rfl, ⟨decide_eq_true (by dsimp only; omega)⟩, uy byV byV⟩
        · have hp : 0 < ws.length := by omega
          repeat (first | refine ue ?_ | refine uc ?_ | refine um ?_ | refine ud ?_ | refine uf ?_ | (refine ug ?_; first | refine uG tab_ok rfl rfl rfl rfl rfl rfl rfl ?_ | refine uh tab_ok rfl rfl rfl rfl byE rfl ?_ | refine uJ tab_ok rfl rfl rfl rfl rfl ?_) | refine uq rfl ?_ | refine ur rfl ?_ | refine r_g rfl rfl (congrArg (fun b => AV.val (.bool b)) (decide_eq_false (by omega))) ?_ | refine uD rfl rfl (congrArg (fun b => AV.val (.bool b)) (decide_eq_false (by omega))) rfl rfl rfl rfl ?_)
          refine uo rfl (fun _ => ?_) (fun h => absurd (by omega) h)
          repeat (first | refine ue ?_ | refine uc ?_ | refine ud ?_ | refine uk ?_ | refine uu ?_ | refine uf ?_ | (refine ug ?_; first | refine uh tab_ok rfl rfl rfl rfl byE rfl ?_))
          refine .inr ⟨rfl, ?_⟩
          rw [may_k (d := ⟨name, vX, first, syms, ws, neg0, neg1, pre, suf, auto, rng, pad, qt, fall, ext, said, sy, su, wt, sb, ad⟩) (decide_eq_false (by dsimp only; omega))]
          exact vB byO rfl rfl rfl (Sub.refl _)
      · have hp : 0 < syms.length := by omega
        repeat (first | refine ue ?_ | refine uc ?_ | refine um ?_ | refine ud ?_ | refine uk ?_ | refine uu ?_ | refine uf ?_ | (refine ug ?_; first | refine uG tab_ok rfl rfl rfl rfl rfl rfl rfl ?_ | refine uh tab_ok rfl rfl rfl rfl byE rfl ?_ | refine uJ tab_ok rfl rfl rfl rfl rfl ?_) | refine uq rfl ?_ | refine ur rfl ?_ | refine uN rfl rfl (congrArg (fun b => AV.val (.bool b)) (decide_eq_true (by omega))) rfl rfl rfl rfl ?_ | refine va rfl rfl (congrArg (fun b => AV.val (.bool b)) (decide_eq_true (by omega))) rfl rfl rfl ?_)
        refine .inr ⟨rfl, ?_⟩
        rw [may_k (d := ⟨name, vX, first, syms, ws, neg0, neg1, pre, suf, auto, rng, pad, qt, fall, ext, said, sy, su, wt, sb, ad⟩) (decide_eq_false (by dsimp only; omega))]
        exact vB byO rfl rfl rfl (Sub.refl _)
    repeat (first | refine ue ?_ | refine uc ?_ | refine um ?_ | refine ud ?_ | refine uf ?_ | (refine ug ?_; first | refine uh tab_ok rfl rfl rfl rfl byE rfl ?_ | refine uJ tab_ok rfl rfl rfl rfl rfl ?_))
    refine uo rfl (fun h => absurd h e1) (fun _ => ?_)
    repeat (first | refine ue ?_ | refine uc ?_ | refine ud ?_ | refine uf ?_ | (refine ug ?_; first | refine uh tab_ok rfl rfl rfl rfl byE rfl ?_))
    refine uo rfl (fun h => absurd h e2) (fun _ => ?_)
    repeat (first | refine uc ?_ | refine ud ?_ | refine uf ?_ | (refine ug ?_; first | refine uh tab_ok rfl rfl rfl rfl byE rfl ?_))
    refine uo rfl (fun h => absurd h e3) (fun _ => ?_)
    repeat (first | refine ue ?_ | refine uc ?_ | refine ud ?_ | refine uf ?_ | (refine ug ?_; first | refine uh tab_ok rfl rfl rfl rfl byE rfl ?_))
    refine uo rfl (fun h => absurd h e4) (fun _ => ?_)
    repeat (first | refine uc ?_ | refine ud ?_ | refine uf ?_ | (refine ug ?_; first | refine uh tab_ok rfl rfl rfl rfl byE rfl ?_))
    refine uo rfl (fun h => absurd h e5) (fun _ => ?_)
    repeat (first | refine ue ?_ | refine uc ?_ | refine ud ?_ | refine uf ?_ | (refine ug ?_; first | refine uh tab_ok rfl rfl rfl rfl byE rfl ?_))
    refine uo rfl (fun h => absurd h e6) (fun _ => ?_)
    repeat (first | refine ue ?_ | refine uc ?_ | refine ud ?_ | refine uf ?_ | (refine ug ?_; first | refine uh tab_ok rfl rfl rfl rfl byE rfl ?_))
    refine uo rfl (fun h => absurd h e7) (fun _ => ?_)
    repeat (first | refine ue ?_ | refine uc ?_ | refine ud ?_ | refine uk ?_ | refine uu ?_ | refine uf ?_ | (refine ug ?_; first | refine uh tab_ok rfl rfl rfl rfl byE rfl ?_))
    refine .inr ⟨rfl, ?_⟩
    rw [may_k (d := ⟨name, sys, first, syms, ws, neg0, neg1, pre, suf, auto, rng, pad, qt, fall, ext, said, sy, su, wt, sb, ad⟩) (by simp [kindR, e1, e2, e3, e4, e5, e6, e7])]
    exact vB byO rfl rfl rfl (Sub.refl _)
  · rintro ⟨hk⟩
    have hke : kindF d = decide ((needF d : Int) ≤ d.symbols.length) := by rw [kind_eq, hk, Bool.true_and]
    have hsg : (qU d).any zg = (zg d.pre || (zg d.suf || (zg d.padSign || (zg d.neg1 || (zg d.neg2 || d.symbols.any zg))))) := by rw [qU]; rfl
    repeat (first | refine ue ?_ | refine uc ?_ | refine ud ?_ | refine uf ?_ | (refine ug ?_; first | refine uG tab_ok rfl rfl rfl rfl rfl rfl rfl ?_ | refine uh tab_ok rfl rfl rfl rfl byE rfl ?_ | refine uJ tab_ok rfl rfl rfl rfl rfl ?_ | refine wb tab_ok rfl rfl rfl rfl rfl rfl (by first | exact fun _ => rfl | exact cs1) rfl rfl rfl ?_ | refine ux tab_ok rfl rfl rfl rfl rfl rfl byC (by first | exact fun _ => trivial | (intro h; simp at h; omega)) rfl ?_ | refine vd tab_ok rfl rfl rfl rfl rfl rfl byC rfl ?_ | refine vI rfl rfl rfl rfl rfl rfl rfl rfl ?_ | refine w6 tab_ok rfl rfl rfl rfl rfl rfl (by decide) rfl rfl rfl byC rfl ?_))
    refine uA rfl (fun h => ?_) (fun h => ?_)
    · have hm : yU d = false := may_no (by
        rw [hke, hsg]
        simp only [Bool.or_eq_true, decide_eq_true_eq, Bool.not_eq_true', decide_eq_false_iff_not, zg] at h ⊢
        omega)
      rw [hm]
      repeat (first | refine ue ?_ | refine uc ?_ | refine ud ?_ | refine uk ?_ | refine un ?_ | refine uf ?_ | (refine ug ?_; first | refine uh tab_ok rfl rfl rfl rfl byE rfl ?_) | refine vB byO rfl rfl rfl ?_)
      all_goals exact Sub.refl _
    · simp only [Bool.or_eq_false_iff, decide_eq_false_iff_not] at h
      repeat (first | refine ue ?_ | refine uc ?_ | refine um ?_ | refine ud ?_ | refine uj ?_ | refine uf ?_ | (refine ug ?_; first | refine uh tab_ok rfl rfl rfl rfl byE rfl ?_))
      refine uV (σ := {i : Nat // i ≤ d.symbols.length ∧ ∀ j (hj : j < d.symbols.length), j < i → zg d.symbols[j] = false}) (fun _ => [.box 38 (dfC d)]) (fun x => [(1, .ptr 0 0), (5, .val (.int .i64 x.1))]) (fun x => d.symbols.length - x.1) ⟨0, Nat.zero_le _, fun _ _ h => absurd h (Nat.not_lt_zero _)⟩ (uy byV byV) ?_
      rintro ⟨i, hi, hok⟩
      dsimp only
      repeat (first | refine ue ?_ | refine uc ?_ | refine ud ?_ | refine uf ?_ | (refine ug ?_; first | refine uG tab_ok rfl rfl rfl rfl rfl rfl rfl ?_ | refine uh tab_ok rfl rfl rfl rfl byE rfl ?_ | refine uJ tab_ok rfl rfl rfl rfl rfl ?_))
      refine uo rfl (fun hlt => ?_) (fun hge => ?_)
      · have hi' : i < d.symbols.length := by omega
        repeat (first | refine ue ?_ | refine uc ?_ | refine um ?_ | refine ud ?_ | refine uj ?_ | refine uf ?_ | (refine ug ?_; first | refine uh tab_ok rfl rfl rfl rfl byE rfl ?_ | refine uJ tab_ok rfl rfl rfl rfl rfl ?_ | refine vf tab_ok rfl rfl rfl rfl rfl rfl rfl (by first | exact ⟨by omega, by omega⟩ | (simp; omega)) rfl rfl ?_))
        simp only [Int.toNat_natCast]
        refine uo rfl (fun hb => ?_) (fun hb => ?_)
        · have hany : d.symbols.any zg = true := List.any_eq_true.2 ⟨_, List.getElem_mem hi', decide_eq_true hb⟩
          rw [show yU d = false from may_no (by rw [hsg, hany]; simp)]
          repeat (first | refine ue ?_ | refine uc ?_ | refine ud ?_ | refine uk ?_ | refine un ?_ | refine uu ?_ | refine uf ?_ | (refine ug ?_; first | refine uh tab_ok rfl rfl rfl rfl byE rfl ?_) | refine vB byO rfl rfl rfl ?_)
          all_goals exact Sub.refl _
        · repeat (first | refine uc ?_ | refine ud ?_ | refine uj ?_ | refine uf ?_ | (refine ug ?_; first | refine uh tab_ok rfl rfl rfl rfl byE rfl ?_))
          refine ⟨⟨i + 1, hi', fun j hj hji => ?_⟩, by dsimp only; omega, uy byV byV⟩
          rcases Nat.lt_or_ge j i with hlt2 | hge2
          · exact hok j hj hlt2
          · obtain rfl : j = i := by omega
            exact decide_eq_false hb
      · obtain rfl : i = d.symbols.length := by omega
        have hany : d.symbols.any zg = false := by
          rw [List.any_eq_false]
          intro s hs
          obtain ⟨j, hj, rfl⟩ := List.getElem_of_mem hs
          rw [hok j hj hj]; decide
        have hm : yU d = !d.range.any badR := may_yes (by
          rw [hke, hsg, hany]
          simp only [Bool.or_false, Bool.or_eq_false_iff, decide_eq_false_iff_not, Bool.not_eq_false', decide_eq_true_eq, zg]
          omega)
        rw [hm]
        repeat (first | refine ue ?_ | refine uc ?_ | refine um ?_ | refine ud ?_ | refine uC ?_ | refine uf ?_ | (refine ug ?_; first | refine uh tab_ok rfl rfl rfl rfl byE rfl ?_))
        refine uV (σ := {i : Nat // i ≤ d.range.length ∧ ∀ j (hj : j < d.range.length), j < i → badR d.range[j] = false}) (fun _ => [.box 38 (dfC d)]) (fun x => [(1, .ptr 0 0), (6, .val (.int .i64 x.1))]) (fun x => d.range.length - x.1) ⟨0, Nat.zero_le _, fun _ _ h => absurd h (Nat.not_lt_zero _)⟩ (uy byV byV) ?_
        rintro ⟨i, hi, hok2⟩
        dsimp only
        repeat (first | refine ue ?_ | refine uc ?_ | refine ud ?_ | refine uf ?_ | (refine ug ?_; first | refine uG tab_ok rfl rfl rfl rfl rfl rfl rfl ?_ | refine uh tab_ok rfl rfl rfl rfl byE rfl ?_ | refine uJ tab_ok rfl rfl rfl rfl rfl ?_))
        refine uo rfl (fun hlt => ?_) (fun hge => ?_)
        · have hi' : i < d.range.length := by omega
          repeat (first | refine ue ?_ | refine uc ?_ | refine um ?_ | refine ud ?_ | refine uj ?_ | refine uf ?_ | (refine ug ?_; first | refine uh tab_ok rfl rfl rfl rfl byE rfl ?_ | refine uJ tab_ok rfl rfl rfl rfl rfl ?_ | refine vf tab_ok rfl rfl rfl rfl rfl rfl rfl (by first | exact ⟨by omega, by omega⟩ | (simp; omega)) rfl rfl ?_ | refine vp tab_ok rfl rfl rfl rfl rfl ?_ | refine uM tab_ok rfl rfl rfl rfl ?_ | refine ux tab_ok rfl rfl rfl rfl rfl rfl byC (by first | exact fun _ => trivial | (intro h; simp at h; omega)) rfl ?_ | refine vd tab_ok rfl rfl rfl rfl rfl rfl byC rfl ?_ | refine vI rfl rfl rfl rfl rfl rfl rfl rfl ?_ | refine yD tab_ok rfl rfl rfl rfl (by decide) rfl rfl rfl rfl ?_ | refine w6 tab_ok rfl rfl rfl rfl rfl rfl (by decide) rfl rfl rfl byC rfl ?_))
          simp only [Int.toNat_natCast]
          refine uA rfl (fun hb => ?_) (fun hb => ?_)
          · have hbad : badR d.range[i] = true := hb
            rw [List.any_eq_true.2 ⟨_, List.getElem_mem hi', hbad⟩]
            repeat (first | refine ue ?_ | refine uc ?_ | refine ud ?_ | refine uk ?_ | refine un ?_ | refine uu ?_ | refine uf ?_ | (refine ug ?_; first | refine uh tab_ok rfl rfl rfl rfl byE rfl ?_) | refine vB byO rfl rfl rfl ?_)
            all_goals exact Sub.refl _
          · have hbad : badR d.range[i] = false := hb
            repeat (first | refine uc ?_ | refine ud ?_ | refine uj ?_ | refine uf ?_ | (refine ug ?_; first | refine uh tab_ok rfl rfl rfl rfl byE rfl ?_))
            refine ⟨⟨i + 1, hi', fun j hj hji => ?_⟩, by dsimp only; omega, u2 1 rfl rfl byK⟩
            rcases Nat.lt_or_ge j i with hlt2 | hge2
            · exact hok2 j hj hlt2
            · obtain rfl : j = i := by omega
              exact hbad
        · obtain rfl : i = d.range.length := by omega
          rw [show d.range.any badR = false by
            rw [List.any_eq_false]
            intro s hs
            obtain ⟨j, hj, rfl⟩ := List.getElem_of_mem hs
            rw [hok2 j hj hj]; decide]
          repeat (first | refine ue ?_ | refine uc ?_ | refine ud ?_ | refine uk ?_ | refine uC ?_ | refine uf ?_ | (refine ug ?_; first | refine uh tab_ok rfl rfl rfl rfl byE rfl ?_) | refine vB byO rfl rfl rfl ?_)
          exact Sub.refl _
end Go.Proofs.YtfmafehogfikmaaGreatDoor
