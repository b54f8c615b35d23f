import Derived.Test.YtfmafehogfikmaaGreatDoorI4
import Derived.Test.YtfmafehogfikmaaGreatDoorP8
import Derived.Test.YtfmafehogfikmaaGreatDoorU5
/- define.style.negativeOf; walked. -/
namespace Go.Proofs.YtfmafehogfikmaaGreatDoor
open Go Go.RowKit
set_option maxRecDepth 20000

def wW (S : Sd) : List Nd → Sd × Bool
  | [] => ({ S with neg1 := ⟨#[]⟩, neg2 := ⟨#[]⟩, said := S.said ||| 1 }, true)
  | [a] => if (vE a).2 then ({ S with neg1 := (vE a).1, neg2 := ⟨#[]⟩, said := S.said ||| 1 }, true) else (S, false)
  | [a, b] => if (vE a).2 && (vE b).2 then ({ S with neg1 := (vE a).1, neg2 := (vE b).1, said := S.said ||| 1 }, true) else (S, false)
  | _ => (S, false)
set_option maxHeartbeats 8000000 in
theorem negative_0 (S0 : Sd) (hS : S0.said < 1000) : u3 Tryz.prog 39 [sdB S0] [.ptr 0 0, .sl 7 (([] : List Nd).map nF)] [sdB (wW S0 []).1] (.val (.bool (wW S0 []).2)) := by
  refine vu Tryz.func39 Tryz.ntmps39 rfl rfl rfl fun S w β => ?_
  repeat (first | refine ue ?_ | refine uc ?_ | refine um ?_ | refine ud ?_ | refine uj ?_ | refine uf ?_ | (refine ug ?_; first | refine uG tab_ok rfl rfl rfl rfl rfl rfl rfl ?_ | refine uh tab_ok rfl rfl rfl rfl byE rfl ?_ | refine vp tab_ok rfl rfl rfl rfl rfl ?_) | refine ur rfl ?_)
  refine uV (σ := {i : Nat // i ≤ 0}) (fun x => match x.1 with | _ => [sdB S0, .box 27 [.val (.string ⟨#[]⟩), .val (.string ⟨#[]⟩)]]) (fun x => [(0, .ptr 0 0), (5, .ptr 1 0), (13, .sl 7 ([].map nF)), (14, .val (.int .i64 0)), (15, .val (.int .i64 (x.1 : Nat)))]) (fun x => 0 - x.1) ⟨0, Nat.zero_le _⟩ (u5 rfl byK) ?_
  rintro ⟨i, hi⟩
  match i, hi with
  | 0, hi =>
    dsimp only
    rw [show wW S0 [] = ({ S0 with neg1 := ⟨#[]⟩, neg2 := ⟨#[]⟩, said := S0.said ||| 1 }, true) by simp [wW]]
    repeat (first | refine ue ?_ | refine ud ?_ | refine uC ?_ | refine uf ?_ | (refine ug ?_; first | refine uh tab_ok rfl rfl rfl rfl byE rfl ?_ | refine uJ tab_ok rfl rfl rfl rfl rfl ?_ | refine uM tab_ok rfl rfl rfl rfl ?_ | refine uB rfl rfl rfl rfl rfl rfl rfl ?_) | refine ur rfl ?_)
    refine yl rfl rfl rfl rfl (by omega) (by decide) rfl rfl rfl ?_
    repeat (first | refine ue ?_ | refine uc ?_ | refine ud ?_ | refine uk ?_ | refine uf ?_ | (refine ug ?_; first | refine uh tab_ok rfl rfl rfl rfl byE rfl ?_ | refine uM tab_ok rfl rfl rfl rfl ?_ | refine uB rfl rfl rfl rfl rfl rfl rfl ?_))
    exact vj [sdB { S0 with neg1 := ⟨#[]⟩, neg2 := ⟨#[]⟩, said := S0.said ||| 1 }, .gone] [(4, .val (.bool true))] (ul byV byV ⟨trivial, trivial⟩) byO rfl rfl rfl rfl rfl (Sub.refl _)
set_option maxHeartbeats 8000000 in
theorem negative_1 (S0 : Sd) (a : Nd) (hS : S0.said < 1000) : u3 Tryz.prog 39 [sdB S0] [.ptr 0 0, .sl 7 (([a] : List Nd).map nF)] [sdB (wW S0 [a]).1] (.val (.bool (wW S0 [a]).2)) := by
  refine vu Tryz.func39 Tryz.ntmps39 rfl rfl rfl fun S w β => ?_
  repeat (first | refine ue ?_ | refine uc ?_ | refine um ?_ | refine ud ?_ | refine uj ?_ | refine uf ?_ | (refine ug ?_; first | refine uG tab_ok rfl rfl rfl rfl rfl rfl rfl ?_ | refine uh tab_ok rfl rfl rfl rfl byE rfl ?_ | refine vp tab_ok rfl rfl rfl rfl rfl ?_) | refine ur rfl ?_)
  refine uV (σ := {i : Nat // i ≤ 1 ∧ (0 < i → (vE a).2 = true)}) (fun x => match x.1 with | 0 => [sdB S0, .box 27 [.val (.string ⟨#[]⟩), .val (.string ⟨#[]⟩)]] | _ => [sdB S0, .box 27 [.val (.string (vE a).1), .val (.string ⟨#[]⟩)]]) (fun x => [(0, .ptr 0 0), (5, .ptr 1 0), (13, .sl 7 ([a].map nF)), (14, .val (.int .i64 1)), (15, .val (.int .i64 (x.1 : Nat)))]) (fun x => 1 - x.1) ⟨0, Nat.zero_le _, fun h => absurd h (by omega)⟩ (u5 rfl byK) ?_
  rintro ⟨i, hi, p0⟩
  match i, hi, p0 with
  | 0, hi, p0 =>
    dsimp only
    repeat (first | refine ue ?_ | refine um ?_ | refine ud ?_ | refine uj ?_ | refine uf ?_ | (refine ug ?_; first | refine uh tab_ok rfl rfl rfl rfl byE rfl ?_ | refine uJ tab_ok rfl rfl rfl rfl rfl ?_ | refine vl tab_ok rfl rfl rfl rfl rfl rfl rfl (by decide) rfl rfl rfl ?_ | refine vp tab_ok rfl rfl rfl rfl rfl ?_ | refine uM tab_ok rfl rfl rfl rfl ?_) | refine uq rfl ?_)
    refine uw (wC a) ze rfl rfl ⟨Sub.refl _, trivial⟩ rfl rfl rfl rfl ?_
    cases h0 : (vE a).2 with
    | false =>
      rw [show wW S0 [a] = (S0, false) by simp [wW, h0]]
      repeat (first | refine ue ?_ | refine uc ?_ | refine ud ?_ | refine uk ?_ | refine un ?_ | refine uu ?_ | refine uf ?_ | (refine ug ?_; first | refine uh tab_ok rfl rfl rfl rfl byE rfl ?_) | refine uq rfl ?_)
      exact vj [sdB S0, .gone, .gone] [(4, .val (.bool false))] (ul byV byV ⟨trivial, trivial⟩) byO rfl rfl rfl rfl rfl (Sub.refl _)
    | true =>
      repeat (first | refine ue ?_ | refine uc ?_ | refine ud ?_ | refine uj ?_ | refine uf ?_ | (refine ug ?_; first | refine uh tab_ok rfl rfl rfl rfl byE rfl ?_ | refine uM tab_ok rfl rfl rfl rfl ?_ | refine yD tab_ok rfl rfl rfl rfl (by decide) rfl rfl rfl rfl ?_) | refine ur rfl ?_)
      exact ⟨⟨1, by omega, fun _ => by first | exact h0 | rfl⟩, by show 1 - 1 < 1 - 0; omega, u2 2 rfl rfl byK⟩
  | 1, hi, p0 =>
    dsimp only
    have q0 := p0 (by omega)
    rw [show wW S0 [a] = ({ S0 with neg1 := (vE a).1, neg2 := ⟨#[]⟩, said := S0.said ||| 1 }, true) by simp [wW, q0]]
    repeat (first | refine ue ?_ | refine ud ?_ | refine uC ?_ | refine uf ?_ | (refine ug ?_; first | refine uh tab_ok rfl rfl rfl rfl byE rfl ?_ | refine uJ tab_ok rfl rfl rfl rfl rfl ?_ | refine uM tab_ok rfl rfl rfl rfl ?_ | refine uB rfl rfl rfl rfl rfl rfl rfl ?_) | refine ur rfl ?_)
    refine yl rfl rfl rfl rfl (by omega) (by decide) rfl rfl rfl ?_
    repeat (first | refine ue ?_ | refine uc ?_ | refine ud ?_ | refine uk ?_ | refine uf ?_ | (refine ug ?_; first | refine uh tab_ok rfl rfl rfl rfl byE rfl ?_ | refine uM tab_ok rfl rfl rfl rfl ?_ | refine uB rfl rfl rfl rfl rfl rfl rfl ?_))
    exact vj [sdB { S0 with neg1 := (vE a).1, neg2 := ⟨#[]⟩, said := S0.said ||| 1 }, .gone] [(4, .val (.bool true))] (ul byV byV ⟨trivial, trivial⟩) byO rfl rfl rfl rfl rfl (Sub.refl _)
set_option maxHeartbeats 8000000 in
theorem negative_2 (S0 : Sd) (a b : Nd) (hS : S0.said < 1000) : u3 Tryz.prog 39 [sdB S0] [.ptr 0 0, .sl 7 (([a, b] : List Nd).map nF)] [sdB (wW S0 [a, b]).1] (.val (.bool (wW S0 [a, b]).2)) := by
  refine vu Tryz.func39 Tryz.ntmps39 rfl rfl rfl fun S w β => ?_
  repeat (first | refine ue ?_ | refine uc ?_ | refine um ?_ | refine ud ?_ | refine uj ?_ | refine uf ?_ | (refine ug ?_; first | refine uG tab_ok rfl rfl rfl rfl rfl rfl rfl ?_ | refine uh tab_ok rfl rfl rfl rfl byE rfl ?_ | refine vp tab_ok rfl rfl rfl rfl rfl ?_) | refine ur rfl ?_)
  refine uV (σ := {i : Nat // i ≤ 2 ∧ (0 < i → (vE a).2 = true) ∧ (1 < i → (vE b).2 = true)}) (fun x => match x.1 with | 0 => [sdB S0, .box 27 [.val (.string ⟨#[]⟩), .val (.string ⟨#[]⟩)]] | 1 => [sdB S0, .box 27 [.val (.string (vE a).1), .val (.string ⟨#[]⟩)]] | _ => [sdB S0, .box 27 [.val (.string (vE a).1), .val (.string (vE b).1)]]) (fun x => [(0, .ptr 0 0), (5, .ptr 1 0), (13, .sl 7 ([a, b].map nF)), (14, .val (.int .i64 2)), (15, .val (.int .i64 (x.1 : Nat)))]) (fun x => 2 - x.1) ⟨0, Nat.zero_le _, fun h => absurd h (by omega), fun h => absurd h (by omega)⟩ (u5 rfl byK) ?_
  rintro ⟨i, hi, p0, p1⟩
  match i, hi, p0, p1 with
  | 0, hi, p0, p1 =>
    dsimp only
    repeat (first | refine ue ?_ | refine um ?_ | refine ud ?_ | refine uj ?_ | refine uf ?_ | (refine ug ?_; first | refine uh tab_ok rfl rfl rfl rfl byE rfl ?_ | refine uJ tab_ok rfl rfl rfl rfl rfl ?_ | refine vl tab_ok rfl rfl rfl rfl rfl rfl rfl (by decide) rfl rfl rfl ?_ | refine vp tab_ok rfl rfl rfl rfl rfl ?_ | refine uM tab_ok rfl rfl rfl rfl ?_) | refine uq rfl ?_)
    refine uw (wC a) ze rfl rfl ⟨Sub.refl _, trivial⟩ rfl rfl rfl rfl ?_
    cases h0 : (vE a).2 with
    | false =>
      rw [show wW S0 [a, b] = (S0, false) by simp [wW, h0]]
      repeat (first | refine ue ?_ | refine uc ?_ | refine ud ?_ | refine uk ?_ | refine un ?_ | refine uu ?_ | refine uf ?_ | (refine ug ?_; first | refine uh tab_ok rfl rfl rfl rfl byE rfl ?_) | refine uq rfl ?_)
      exact vj [sdB S0, .gone, .gone] [(4, .val (.bool false))] (ul byV byV ⟨trivial, trivial⟩) byO rfl rfl rfl rfl rfl (Sub.refl _)
    | true =>
      repeat (first | refine ue ?_ | refine uc ?_ | refine ud ?_ | refine uj ?_ | refine uf ?_ | (refine ug ?_; first | refine uh tab_ok rfl rfl rfl rfl byE rfl ?_ | refine uM tab_ok rfl rfl rfl rfl ?_ | refine yD tab_ok rfl rfl rfl rfl (by decide) rfl rfl rfl rfl ?_) | refine ur rfl ?_)
      exact ⟨⟨1, by omega, fun _ => by first | exact h0 | rfl, fun h => absurd h (by omega)⟩, by show 2 - 1 < 2 - 0; omega, u2 2 rfl rfl byK⟩
  | 1, hi, p0, p1 =>
    dsimp only
    repeat (first | refine ue ?_ | refine um ?_ | refine ud ?_ | refine uj ?_ | refine uf ?_ | (refine ug ?_; first | refine uh tab_ok rfl rfl rfl rfl byE rfl ?_ | refine uJ tab_ok rfl rfl rfl rfl rfl ?_ | refine vl tab_ok rfl rfl rfl rfl rfl rfl rfl (by decide) rfl rfl rfl ?_ | refine vp tab_ok rfl rfl rfl rfl rfl ?_ | refine uM tab_ok rfl rfl rfl rfl ?_) | refine uq rfl ?_)
    refine uw (wC b) ze rfl rfl ⟨Sub.refl _, trivial⟩ rfl rfl rfl rfl ?_
    cases h1 : (vE b).2 with
    | false =>
      rw [show wW S0 [a, b] = (S0, false) by simp [wW, h1]]
      repeat (first | refine ue ?_ | refine uc ?_ | refine ud ?_ | refine uk ?_ | refine un ?_ | refine uu ?_ | refine uf ?_ | (refine ug ?_; first | refine uh tab_ok rfl rfl rfl rfl byE rfl ?_) | refine uq rfl ?_)
      exact vj [sdB S0, .gone, .gone] [(4, .val (.bool false))] (ul byV byV ⟨trivial, trivial⟩) byO rfl rfl rfl rfl rfl (Sub.refl _)
    | true =>
      repeat (first | refine ue ?_ | refine uc ?_ | refine ud ?_ | refine uj ?_ | refine uf ?_ | (refine ug ?_; first | refine uh tab_ok rfl rfl rfl rfl byE rfl ?_ | refine uM tab_ok rfl rfl rfl rfl ?_ | refine yD tab_ok rfl rfl rfl rfl (by decide) rfl rfl rfl rfl ?_) | refine ur rfl ?_)
      exact ⟨⟨2, by omega, fun _ => p0 (by omega), fun _ => by first | exact h1 | rfl⟩, by show 2 - 2 < 2 - 1; omega, u2 2 rfl rfl byK⟩
  | 2, hi, p0, p1 =>
    dsimp only
    have q0 := p0 (by omega)
    have q1 := p1 (by omega)
    rw [show wW S0 [a, b] = ({ S0 with neg1 := (vE a).1, neg2 := (vE b).1, said := S0.said ||| 1 }, true) by simp [wW, q0, q1]]
    repeat (first | refine ue ?_ | refine ud ?_ | refine uC ?_ | refine uf ?_ | (refine ug ?_; first | refine uh tab_ok rfl rfl rfl rfl byE rfl ?_ | refine uJ tab_ok rfl rfl rfl rfl rfl ?_ | refine uM tab_ok rfl rfl rfl rfl ?_ | refine uB rfl rfl rfl rfl rfl rfl rfl ?_) | refine ur rfl ?_)
    refine yl rfl rfl rfl rfl (by omega) (by decide) rfl rfl rfl ?_
    repeat (first | refine ue ?_ | refine uc ?_ | refine ud ?_ | refine uk ?_ | refine uf ?_ | (refine ug ?_; first | refine uh tab_ok rfl rfl rfl rfl byE rfl ?_ | refine uM tab_ok rfl rfl rfl rfl ?_ | refine uB rfl rfl rfl rfl rfl rfl rfl ?_))
    exact vj [sdB { S0 with neg1 := (vE a).1, neg2 := (vE b).1, said := S0.said ||| 1 }, .gone] [(4, .val (.bool true))] (ul byV byV ⟨trivial, trivial⟩) byO rfl rfl rfl rfl rfl (Sub.refl _)
set_option maxHeartbeats 8000000 in
theorem negative_3 (S0 : Sd) (a b c : Nd) (r : List Nd) (hl : (a :: b :: c :: r).length ≤ 1099511627776) (hS : S0.said < 1000) : u3 Tryz.prog 39 [sdB S0] [.ptr 0 0, .sl 7 (((a :: b :: c :: r) : List Nd).map nF)] [sdB (wW S0 (a :: b :: c :: r)).1] (.val (.bool (wW S0 (a :: b :: c :: r)).2)) := by
  refine vu Tryz.func39 Tryz.ntmps39 rfl rfl rfl fun S w β => ?_
  have hlm : ((a :: b :: c :: r).map nF).length = (a :: b :: c :: r).length := List.length_map _
  have hne : (2 : Int) < (((a :: b :: c :: r).length : Nat) : Int) := by simp only [List.length_cons]; omega
  rw [show wW S0 (a :: b :: c :: r) = (S0, false) from rfl]
  repeat (first | refine ue ?_ | refine uc ?_ | refine ud ?_ | refine uf ?_ | (refine ug ?_; first | refine uG tab_ok rfl rfl rfl rfl rfl rfl rfl ?_ | refine uh tab_ok rfl rfl rfl rfl byE rfl ?_ | refine vp tab_ok rfl rfl rfl rfl rfl ?_))
  refine uo rfl (fun _ => ?_) (fun h => absurd hne h)
  repeat (first | refine ue ?_ | refine uc ?_ | refine ud ?_ | refine uk ?_ | refine un ?_ | refine uf ?_ | (refine ug ?_; first | refine uh tab_ok rfl rfl rfl rfl byE rfl ?_))
  exact vj [sdB S0, .gone] [(4, .val (.bool false))] (ul byV byV ⟨trivial, trivial⟩) byO rfl rfl rfl rfl rfl (Sub.refl _)
theorem negative_ok (S0 : Sd) (l : List Nd) (hl : l.length ≤ 1099511627776) (hS : S0.said < 1000) : u3 Tryz.prog 39 [sdB S0] [.ptr 0 0, .sl 7 (l.map nF)] [sdB (wW S0 l).1] (.val (.bool (wW S0 l).2)) :=
  match l, hl with
  | [], _ => negative_0 S0 hS
  | [a], _ => negative_1 S0 a hS
  | [a, b], _ => negative_2 S0 a b hS
  | a :: b :: c :: r, hl => negative_3 S0 a b c r hl hS
end Go.Proofs.YtfmafehogfikmaaGreatDoor

/- define.style.sumsOf; walked. -/
namespace Go.Proofs.YtfmafehogfikmaaGreatDoor
open Go Go.RowKit
set_option maxRecDepth 20000

theorem StepG.offv {P : Program} {ops : Array Oper} {o : Oper} {M : List AB} {F : Nat → AV} {j : Nat} {want : Bool} {g : Tmp} (hg : o.guard = some (j, want)) (hj : wd ops j = some g) (hF : F g = .val undef) : StepG P ops o M F M (.val undef) := by
  intro S B β a w hm hs K Q hK
  have h1 := hs g (yI hg hj)
  rw [hF] at h1
  have hy := wu (a := a) hj h1
  have hw : Region.wanted o (yielded ops a.tmps) = false := by simp [Region.wanted, hg, hy, zf, undef]
  rw [hw]
  exact hK undef β w (Ev.refl _ _ _) hm rfl
/-- An operation whose guard was not carried out. -/
theorem r_offv {P : Program} {ops : Array Oper} {N : Nat} {K : AS → Prop} {o : Oper} {r : List Oper} {fo fo' : Option (List Nat)} {M : List AB} {F : List (Nat × AV)} {dt : Tmp} {j : Nat} {want : Bool} {g : Tmp} (hg : o.guard = some (j, want)) (hj : wd ops j = some g) (hF : uH F g = .val undef) (hdd : o.dst = some dt) (hd : vn o.dst N = true)
    (hp : vF fo 0 = some fo') (k : RunX P ops N K r fo' (M) ((dt, (.val undef)) :: F)) : RunX P ops N K (o :: r) fo M F :=
  RunX.mk (fun _ k => Run.pure_ hd (fun _ => StepG.offv hg hj hF) (by rw [uT hdd]; exact k)) hp k
def okW (ws : List Int) (n : Int) : Bool := match ws.getLast? with | none => true | some w => decide (n < w)
def zv : List (List Nd) → List ByteArray → List Int → Option (List ByteArray × List Int)
  | [], ss, ws => some (ss, ws)
  | p :: r, ss, ws => if (wO p).2 && okW ws (wO p).1.1 then zv r (ss ++ [(wO p).1.2]) (ws ++ [(wO p).1.1]) else none
def zH (S : Sd) (l : List Nd) : Sd × Bool :=
  match zv (vO l) [] [] with
  | none => (S, false)
  | some a => ({ S with sums := a.1, wts := a.2, additive := true }, true)
structure SuS (ps : List (List Nd)) where
  i : Nat
  ss : List ByteArray
  ws : List Int
  hi : i ≤ ps.length
  ha : ss.length ≤ i
  hb : ws.length ≤ i
  eq : zv (ps.drop i) ss ws = zv ps [] []
set_option maxHeartbeats 8000000 in
theorem sums_ok (S0 : Sd) (l : List Nd) (hl : u4 l < 1099511627776) : u3 Tryz.prog 45 [sdB S0] [.ptr 0 0, .sl 7 (l.map nF)] [sdB (zH S0 l).1] (.val (.bool (zH S0 l).2)) := by
  have hll := u7 l
  have hpb : (vO l).length ≤ 1099511627776 := by
    rw [vO, w4]
    have := List.countP_le_length (p := cmB) (l := l)
    simp only [List.length_nil]
    omega
  have hpz : ∀ p ∈ vO l, u4 p < 1099511627776 := fun p h => Nat.lt_of_le_of_lt (zo h).1 hl
  refine vu Tryz.func45 Tryz.ntmps45 rfl rfl rfl fun S w β => ?_
  rw [zH]
  repeat (first | refine ue ?_ | refine ud ?_ | refine uf ?_ | (refine ug ?_; first | refine uh tab_ok rfl rfl rfl rfl byE rfl ?_))
  refine uw (split_ok 1099511627776 l hl (Nat.le_refl _)) call71 rfl rfl ⟨Sub.refl _, trivial⟩ rfl rfl rfl rfl ?_
  obtain ⟨ps, hps⟩ : ∃ ps, ps = vO l := ⟨_, rfl⟩
  rw [← hps] at hpb hpz ⊢
  have hpm : (ps.map nds).length = ps.length := List.length_map _
  clear hps
  repeat (first | refine uc ?_ | refine um ?_ | refine uf ?_ | (refine ug ?_; first | refine uG tab_ok rfl rfl rfl rfl rfl rfl rfl ?_ | refine uh tab_ok rfl rfl rfl rfl byE rfl ?_))
  refine uV (σ := SuS ps) (fun x => [sdB S0, .row 0 9 1 (x.ss.map sF), .row 0 3 1 (x.ws.map wtD)]) (fun x => [(0, .ptr 0 0), (5, .row 1 0), (6, .row 2 0), (13, .sl 1 (ps.map nds)), (14, .val (.int .i64 ps.length)), (15, .val (.int .i64 x.i))]) (fun x => ps.length - x.i) ⟨0, [], [], Nat.zero_le _, Nat.le_refl _, Nat.le_refl _, rfl⟩ (ul byV ⟨wS rfl rfl rfl rfl, c_nil rfl rfl, c_nil rfl rfl, vb rfl (Sub.refl _) rfl, vb rfl (Sub.of_eq (by rw [← hpm]; rfl)) rfl, vb rfl (Sub.refl _) rfl, trivial⟩ ⟨trivial, trivial⟩) ?_
  rintro ⟨i, ss, ws, hi, ha, hb, heq⟩
  dsimp only
  rw [← heq]
  have hal : (ss.map sF).length = ss.length := List.length_map _
  have hbl : (ws.map wtD).length = ws.length := List.length_map _
  repeat (first | refine ue ?_ | refine ud ?_ | refine uf ?_ | (refine ug ?_; first | refine uh tab_ok rfl rfl rfl rfl byE rfl ?_))
  refine uo rfl (fun hlt => ?_) (fun hge => ?_)
  · have hi' : i < ps.length := by omega
    have hin : ((i : Nat) : Int).toNat < ps.length := by simp only [Int.toNat_natCast]; exact hi'
    have hdr : ps.drop i = ps[i] :: ps.drop (i + 1) := List.drop_eq_getElem_cons hi'
    have hpi := hpz ps[i] (List.getElem_mem hi')
    rw [hdr] at heq ⊢
    repeat (first | refine ue ?_ | refine um ?_ | refine ud ?_ | refine uj ?_ | refine uf ?_ | (refine ug ?_; first | refine uh tab_ok rfl rfl rfl rfl byE rfl ?_ | refine vf tab_ok rfl rfl rfl rfl rfl rfl rfl (by first | exact ⟨by omega, by omega⟩ | (simp; omega)) rfl rfl ?_))
    obtain ⟨p, hp⟩ : ∃ p, p = ps[((i : Nat) : Int).toNat]'hin := ⟨_, rfl⟩
    rw [← hp]
    have hp2 : ps[i] = p := by rw [hp]; simp only [Int.toNat_natCast]
    rw [hp2] at hpi heq ⊢
    clear hp hp2 hdr
    have hpl := u7 p
    rw [zv] at heq ⊢
    refine uw (weighed_ok p (by omega)) call73 rfl rfl ⟨Sub.refl _, trivial⟩ rfl rfl rfl rfl ?_
    cases hA : (wO p).2 with
    | false =>
      rw [Bool.false_and, if_neg Bool.false_ne_true]
      repeat (first | refine ue ?_ | refine ud ?_ | refine uf ?_ | (refine ug ?_; first | refine uh tab_ok rfl rfl rfl rfl byE rfl ?_ | refine va rfl rfl rfl rfl rfl rfl ?_))
      repeat refine r_offv rfl rfl rfl rfl rfl rfl ?_
      repeat (first | refine ue ?_ | refine uc ?_ | refine ud ?_ | refine uk ?_ | refine un ?_ | refine uu ?_ | refine uf ?_ | (refine ug ?_; first | refine uh tab_ok rfl rfl rfl rfl byE rfl ?_ | refine uN rfl rfl rfl rfl rfl rfl rfl ?_ | refine va rfl rfl rfl rfl rfl rfl ?_) | refine uq rfl ?_)
      exact vj [sdB S0, .gone, .gone] [(4, .val (.bool false))] (ul byV byV ⟨trivial, trivial⟩) byO rfl rfl rfl rfl rfl (Sub.refl _)
    | true =>
      rw [hA] at heq
      rw [Bool.true_and] at heq ⊢
      rcases List.eq_nil_or_concat ws with hws | ⟨w1, v, hws⟩
      · have h00 : ws.length = 0 := by rw [hws]; rfl
        have e : okW ws (wO p).1.1 = true := by rw [hws]; rfl
        rw [e, if_pos rfl] at heq ⊢
        repeat (first | refine ue ?_ | refine uc ?_ | refine ud ?_ | refine uj ?_ | refine uf ?_ | (refine ug ?_; first | refine uh tab_ok rfl rfl rfl rfl byE rfl ?_ | refine uD rfl rfl rfl rfl rfl rfl rfl ?_ | refine uY tab_ok rfl rfl rfl rfl rfl rfl (by first | exact trivial | omega) rfl ?_ | refine wm tab_ok rfl rfl rfl rfl rfl rfl rfl ?_ | refine u9 tab_ok rfl rfl rfl rfl rfl rfl rfl rfl rfl ?_ | refine u6 tab_ok rfl rfl rfl rfl rfl rfl rfl rfl rfl (by first | omega | (simp; omega)) rfl ?_) | refine ur rfl ?_ | refine r_g rfl rfl rfl ?_ | refine uD rfl rfl (congrArg (fun b => AV.val (.bool b)) (decide_eq_false (by omega))) rfl rfl rfl rfl ?_ | refine va rfl rfl (congrArg (fun b => AV.val (.bool b)) (decide_eq_false (by omega))) rfl rfl rfl ?_)
        repeat refine r_offv rfl rfl rfl rfl rfl rfl ?_
        refine ⟨⟨i + 1, ss ++ [(wO p).1.2], ws ++ [(wO p).1.1], hi', by simp; omega, by rw [List.length_append, List.length_singleton]; omega, heq⟩, by dsimp only; omega, ?_⟩
        dsimp only
        rw [show (ss ++ [((wO p).1.2 : ByteArray)]).map sF = ss.map sF ++ [sF (wO p).1.2] from List.map_append, show ((ws) ++ [((wO p).1.1 : Int)]).map wtD = (ws : List Int).map wtD ++ [wtD (wO p).1.1] from List.map_append]
        exact ul byV byV ⟨trivial, trivial⟩
      · have e : okW (w1 ++ [v]) (wO p).1.1 = decide ((wO p).1.1 < v) := by simp [okW]
        rw [List.concat_eq_append] at hws
        subst hws
        rw [e] at heq ⊢
        have hlw : (w1 ++ [v]).length = w1.length + 1 := by simp
        have hpos : (0 : Int) < ((w1 ++ [v]).length : Nat) := by omega
        repeat (first | refine ue ?_ | refine uc ?_ | refine ud ?_ | refine uf ?_ | (refine ug ?_; first | refine uh tab_ok rfl rfl rfl rfl byE rfl ?_ | refine uJ tab_ok rfl rfl rfl rfl rfl ?_ | refine uD rfl rfl rfl rfl rfl rfl rfl ?_ | refine uY tab_ok rfl rfl rfl rfl rfl rfl (by first | exact trivial | omega) rfl ?_ | refine wm tab_ok rfl rfl rfl rfl rfl rfl rfl ?_ | refine w5 tab_ok rfl rfl rfl rfl rfl rfl rfl rfl (by first | exact ⟨by omega, by omega⟩ | (simp; omega)) rfl ?_ | refine qb tab_ok rfl rfl rfl rfl rfl (by omega) rfl rfl rfl rfl ?_) | refine r_g rfl rfl rfl ?_ | refine r_g rfl rfl (congrArg (fun b => AV.val (.bool b)) (decide_eq_true (by omega))) ?_ | refine uN rfl rfl (congrArg (fun b => AV.val (.bool b)) (decide_eq_true (by omega))) rfl rfl rfl rfl ?_)
        have hv : ∀ h : ((((w1 ++ [v]).map wtD).length : Nat) : Int) - 1 = (w1.length : Int), (w1 ++ [v])[(((((w1 ++ [v]).map wtD).length : Nat) : Int) - 1).toNat]'(by omega) = v := fun h => by
          simp only [h, Int.toNat_natCast]
          simp
        rw [hv (by omega)]
        by_cases hlt2 : (wO p).1.1 < v
        · rw [decide_eq_true hlt2, if_pos rfl] at heq ⊢
          refine uo rfl (fun h => absurd h (by omega)) (fun _ => ?_)
          repeat (first | refine uc ?_ | refine ud ?_ | refine uj ?_ | refine uf ?_ | (refine ug ?_; first | refine uh tab_ok rfl rfl rfl rfl byE rfl ?_ | refine u9 tab_ok rfl rfl rfl rfl rfl rfl rfl rfl rfl ?_ | refine u6 tab_ok rfl rfl rfl rfl rfl rfl rfl rfl rfl (by first | omega | (simp; omega)) rfl ?_))
          refine ⟨⟨i + 1, ss ++ [(wO p).1.2], (w1 ++ [v]) ++ [(wO p).1.1], hi', by simp; omega, by rw [List.length_append, List.length_singleton]; omega, heq⟩, by dsimp only; omega, ?_⟩
          dsimp only
          rw [show (ss ++ [((wO p).1.2 : ByteArray)]).map sF = ss.map sF ++ [sF (wO p).1.2] from List.map_append, show (((w1 ++ [v])) ++ [((wO p).1.1 : Int)]).map wtD = ((w1 ++ [v]) : List Int).map wtD ++ [wtD (wO p).1.1] from List.map_append]
          exact ul byV byV ⟨trivial, trivial⟩
        · rw [decide_eq_false hlt2, if_neg Bool.false_ne_true]
          refine uo rfl (fun _ => ?_) (fun h => absurd (show v ≤ (wO p).1.1 by omega) h)
          repeat (first | refine ue ?_ | refine uc ?_ | refine ud ?_ | refine uk ?_ | refine un ?_ | refine uu ?_ | refine uf ?_ | (refine ug ?_; first | refine uh tab_ok rfl rfl rfl rfl byE rfl ?_))
          exact vj [sdB S0, .gone, .gone] [(4, .val (.bool false))] (ul byV byV ⟨trivial, trivial⟩) byO rfl rfl rfl rfl rfl (Sub.refl _)
  · have : i = ps.length := by omega
    subst this
    rw [show zv (ps.drop ps.length) ss ws = some (ss, ws) by rw [List.drop_length, zv]]
    repeat (first | refine ue ?_ | refine uC ?_)
    refine ve (s' := ⟨[sdB S0, .gone, .gone], [(0, .ptr 0 0), (5, .sl 1 (ss.map sF)), (6, .sl 1 (ws.map wtD))]⟩) (ul byV ⟨wS rfl rfl rfl rfl, yL rfl rfl rfl, yL rfl rfl rfl, trivial⟩ ⟨trivial, trivial⟩) ?_
    repeat (first | refine ue ?_ | refine uc ?_ | refine ud ?_ | refine uk ?_ | refine uf ?_ | (refine ug ?_; first | refine uh tab_ok rfl rfl rfl rfl byE rfl ?_ | refine uM tab_ok rfl rfl rfl rfl ?_ | refine uB rfl rfl rfl rfl rfl rfl rfl ?_))
    exact vj [sdB { S0 with sums := ss, wts := ws, additive := true }, .gone, .gone] [(4, .val (.bool true))] (ul byV byV ⟨trivial, trivial⟩) byO rfl rfl rfl rfl rfl (Sub.refl _)
end Go.Proofs.YtfmafehogfikmaaGreatDoor

/- system.May; walked. -/
namespace Go.Proofs.YtfmafehogfikmaaGreatDoor
open Go Go.RowKit
set_option maxRecDepth 20000

def cyclicS : ByteArray := ⟨#[99, 121, 99, 108, 105, 99]⟩
def yz : ByteArray := ⟨#[115, 121, 109, 98, 111, 108, 105, 99]⟩
def fixedS : ByteArray := ⟨#[102, 105, 120, 101, 100]⟩
def yf : ByteArray := ⟨#[97, 108, 112, 104, 97, 98, 101, 116, 105, 99]⟩
def qd : ByteArray := ⟨#[110, 117, 109, 101, 114, 105, 99]⟩
def wE : ByteArray := ⟨#[97, 100, 100, 105, 116, 105, 118, 101]⟩
def vX : ByteArray := ⟨#[101, 120, 116, 101, 110, 100, 115]⟩

theorem long_ok (s : ByteArray) : uI Tryz.prog 48 [.val (.string s)] (.val (.bool (decide (100 < (s.size : Int))))) := by
  refine uP Tryz.func48 Tryz.ntmps48 rfl rfl rfl fun S w => ?_
  repeat (first | refine ue ?_ | refine uc ?_ | refine ud ?_ | refine uk ?_ | refine uf ?_ | (refine ug ?_; first | refine uh tab_ok rfl rfl rfl rfl byE rfl ?_) | refine vB byO rfl rfl rfl ?_)
  exact Sub.refl _
theorem mayr_ok (r : Int × Int) : uI Tryz.prog 50 [.agg [.val (.int .i64 r.1), .val (.int .i64 r.2)]] (.val (.bool (decide (r.2 < r.1) || decide (r.1 < -2147483648) || decide (2147483647 < r.2)))) := by
  refine uP Tryz.func50 Tryz.ntmps50 rfl rfl rfl fun S w => ?_
  repeat (first | refine ue ?_ | refine uc ?_ | refine ud ?_ | refine uk ?_ | refine uf ?_ | (refine ug ?_; first | refine uh tab_ok rfl rfl rfl rfl byE rfl ?_ | refine uJ tab_ok rfl rfl rfl rfl rfl ?_ | refine vp tab_ok rfl rfl rfl rfl rfl ?_ | refine ux tab_ok rfl rfl rfl rfl rfl rfl byC (by first | exact fun _ => trivial | (intro h; simp at h; omega)) rfl ?_ | refine vd tab_ok rfl rfl rfl rfl rfl rfl byC rfl ?_ | refine vI rfl rfl rfl rfl rfl rfl rfl rfl ?_ | refine yD tab_ok rfl rfl rfl rfl (by decide) rfl rfl rfl rfl ?_ | refine w6 tab_ok rfl rfl rfl rfl rfl rfl (by decide) rfl rfl rfl byC rfl ?_) | refine vB byO rfl rfl rfl ?_)
  exact Sub.refl _
/-- Weights that fall. -/
def zh : List Int → Bool
  | [] => true
  | [a] => decide (0 ≤ a)
  | a :: b :: r => decide (0 ≤ a) && decide (b < a) && zh (b :: r)
def za (l : List Int) (i : Nat) : Bool := decide (0 ≤ l.getD i 0) && (decide (i = 0) || decide (l.getD i 0 < l.getD (i - 1) 0))
theorem kg : ∀ (l : List Int), zh l = (List.range l.length).all (za l)
  | [] => rfl
  | [a] => by simp [zh, za, List.range_succ]
  | a :: b :: r => by
    rw [zh, kg (b :: r)]
    rw [Bool.eq_iff_iff]
    simp only [Bool.and_eq_true, List.all_eq_true, List.mem_range, decide_eq_true_eq, za, Bool.or_eq_true, List.length_cons]
    constructor
    · rintro ⟨⟨h1, h2⟩, h3⟩ i hi
      match i with
      | 0 => exact ⟨by simpa using h1, .inl rfl⟩
      | 1 => exact ⟨by have := (h3 0 (by omega)).1; simpa using this, .inr (by simpa using h2)⟩
      | i + 2 =>
        obtain ⟨h4, h5⟩ := h3 (i + 1) (by omega)
        exact ⟨by simpa using h4, .inr (by rcases h5 with h | h; omega; simpa using h)⟩
    · intro h
      refine ⟨⟨by simpa using (h 0 (by omega)).1, ?_⟩, fun i hi => ?_⟩
      · rcases (h 1 (by omega)).2 with h | h
        · omega
        · simpa using h
      · obtain ⟨h4, h5⟩ := h (i + 1) (by omega)
        refine ⟨by simpa using h4, ?_⟩
        rcases Nat.eq_zero_or_pos i with h0 | h0
        · exact .inl h0
        · obtain ⟨j, rfl⟩ : ∃ j, i = j + 1 := ⟨i - 1, by omega⟩
          rcases h5 with h | h
          · omega
          · exact .inr (by simpa using h)
theorem falling_ok (l : List Int) (hl : l.length ≤ 4611686018427387904) : uI Tryz.prog 74 [.sl 1 (l.map wtD)] (.val (.bool (zh l))) := by
  refine uP Tryz.func74 Tryz.ntmps74 rfl rfl rfl fun S w => ?_
  repeat (first | refine ue ?_ | refine uc ?_ | refine um ?_ | refine ud ?_ | refine uf ?_ | (refine ug ?_; first | refine uG tab_ok rfl rfl rfl rfl rfl rfl rfl ?_ | refine uh tab_ok rfl rfl rfl rfl byE rfl ?_))
  refine uV (σ := {i : Nat // i ≤ l.length ∧ (List.range i).all (za l) = true}) (fun _ => []) (fun x => [(0, .sl 1 (l.map wtD)), (5, .sl 1 (l.map wtD)), (6, .val (.int .i64 l.length)), (7, .val (.int .i64 x.1))]) (fun x => l.length - x.1) ⟨0, by simp⟩
    (u5 rfl ⟨Sub.refl _, Sub.refl _, Sub.refl _, Sub.refl _, trivial⟩) ?_
  rintro ⟨i, hi, hall⟩
  dsimp only
  repeat (first | refine ue ?_ | refine ud ?_ | refine uf ?_ | (refine ug ?_; first | refine uh tab_ok rfl rfl rfl rfl byE rfl ?_))
  refine uo rfl (fun hlt => ?_) (fun hge => ?_)
  · have hi' : i < l.length := by omega
    have hg0 : l.getD i 0 = l[i] := by simp [hi']
    repeat (first | refine ue ?_ | refine uc ?_ | refine um ?_ | refine ud ?_ | refine uj ?_ | refine uf ?_ | (refine ug ?_; first | refine uh tab_ok rfl rfl rfl rfl byE rfl ?_ | refine vf tab_ok rfl rfl rfl rfl rfl rfl rfl (by first | exact ⟨by omega, by omega⟩ | (simp; omega)) rfl rfl ?_ | refine ux tab_ok rfl rfl rfl rfl rfl rfl byC (by first | exact fun _ => trivial | (intro h; simp at h; omega)) rfl ?_ | refine wx tab_ok rfl rfl rfl rfl rfl rfl rfl byC rfl rfl (by first | (intro h; simp at h; exact ⟨by omega, by omega⟩) | (intro h; simp only [Bool.and_eq_true, Bool.or_eq_false_iff, beq_iff_eq, decide_eq_false_iff_not, decide_eq_true_eq] at h; exact ⟨by omega, by omega⟩)) rfl rfl ?_ | refine vT rfl rfl rfl rfl rfl rfl rfl rfl rfl rfl ?_ | refine vI rfl rfl rfl rfl rfl rfl rfl rfl ?_))
    simp only [Int.toNat_natCast]
    refine uA rfl (fun hb => ?_) (fun hb => ?_)
    · repeat (first | refine ue ?_ | refine uc ?_ | refine ud ?_ | refine uk ?_ | refine un ?_ | refine uu ?_ | refine uf ?_ | (refine ug ?_; first | refine uh tab_ok rfl rfl rfl rfl byE rfl ?_) | refine vB byO rfl rfl rfl ?_)
      exact Sub.of_eq (by
        have : zh l = false := by
          rw [kg, Bool.eq_false_iff]
          intro h
          rw [List.all_eq_true] at h
          have h1 := h i (List.mem_range.2 hi')
          simp only [za, hg0, Bool.and_eq_true, Bool.or_eq_true, decide_eq_true_eq] at h1
          simp only [Bool.or_eq_true, Bool.and_eq_true, decide_eq_true_eq] at hb
          rcases hb with hb | ⟨hb, hb2⟩
          · omega
          · have e1 : (((i : Int) - 1).toNat) = i - 1 := by omega
            rw [e1] at hb2
            have e2 : l.getD (i - 1) default = l.getD (i - 1) 0 := rfl
            rw [e2] at hb2
            omega
        rw [this])
    · have hs : (List.range (i + 1)).all (za l) = true := by
        rw [List.range_succ, List.all_append, hall]
        simp only [Bool.or_eq_false_iff, Bool.and_eq_false_iff, decide_eq_false_iff_not] at hb
        simp only [List.all_cons, List.all_nil, Bool.and_true, Bool.true_and, za, hg0, Bool.and_eq_true, Bool.or_eq_true, decide_eq_true_eq]
        refine ⟨by omega, ?_⟩
        rcases hb.2 with h | h
        · exact .inl (by omega)
        · right
          have e1 : (((i : Int) - 1).toNat) = i - 1 := by omega
          rw [e1] at h
          have e2 : l.getD (i - 1) default = l.getD (i - 1) 0 := rfl
          rw [e2] at h
          omega
      repeat (first | refine uc ?_ | refine ud ?_ | refine uj ?_ | refine uf ?_ | (refine ug ?_; first | refine uh tab_ok rfl rfl rfl rfl byE rfl ?_))
      exact ⟨⟨i + 1, by omega, hs⟩, by dsimp only; omega, u5 rfl ⟨Sub.refl _, Sub.refl _, Sub.refl _, Sub.refl _, trivial⟩⟩
  · have : i = l.length := by omega
    subst this
    repeat (first | refine ue ?_ | refine uc ?_ | refine ud ?_ | refine uk ?_ | refine uC ?_ | refine uf ?_ | (refine ug ?_; first | refine uh tab_ok rfl rfl rfl rfl byE rfl ?_) | refine vB byO rfl rfl rfl ?_)
    exact Sub.of_eq (by rw [kg, hall])
theorem find_str_ok (l : List ByteArray) (p : ByteArray → Bool) (f : FuncId) (caps : List AV) (hl : l.length ≤ 4611686018427387904) (hcall : uz Tryz.prog f) (hcf : AV.frees caps = true) (hp : ∀ s ∈ l, uI Tryz.prog f (.val (.string s) :: caps) (.val (.bool (p s)))) :
    uI Tryz.prog 75 [.sl 1 (l.map sF), .cl f caps] (.val (.int .i64 (zE p l))) := by
  refine uP Tryz.func75 Tryz.ntmps75 rfl rfl rfl fun S w => ?_
  repeat (first | refine ue ?_ | refine uc ?_ | refine um ?_ | refine ud ?_ | refine uf ?_ | (refine ug ?_; first | refine uG tab_ok rfl rfl rfl rfl rfl rfl rfl ?_ | refine uh tab_ok rfl rfl rfl rfl byE rfl ?_))
  refine uV (σ := {i : Nat // i ≤ l.findIdx p}) (fun _ => []) (fun x => [(0, .sl 1 (l.map sF)), (1, .cl f caps), (7, .val (.int .i64 l.length)), (8, .val (.int .i64 x.1))]) (fun x => l.length - x.1) ⟨0, Nat.zero_le _⟩
    (u5 rfl ⟨Sub.refl _, Sub.refl _, Sub.refl _, Sub.refl _, trivial⟩) ?_
  rintro ⟨i, hi⟩
  dsimp only
  have hle := List.findIdx_le_length (p := p) (xs := l)
  repeat (first | refine ue ?_ | refine ud ?_ | refine uf ?_ | (refine ug ?_; first | refine uh tab_ok rfl rfl rfl rfl byE rfl ?_))
  refine uo rfl (fun hlt => ?_) (fun hge => ?_)
  · have hi' : i < l.length := by omega
    repeat (first | refine ue ?_ | refine um ?_ | refine ud ?_ | refine uj ?_ | refine uf ?_ | (refine ug ?_; first | refine uh tab_ok rfl rfl rfl rfl byE rfl ?_ | refine vf tab_ok rfl rfl rfl rfl rfl rfl rfl (by first | exact ⟨by omega, by omega⟩ | (simp; omega)) rfl rfl ?_))
    simp only [Int.toNat_natCast]
    refine r_callv (hp l[i] (List.getElem_mem hi')) hcall rfl rfl rfl ⟨Sub.refl _, z8 _⟩ (by simp [AV.frees, AV.free, hcf]) rfl rfl rfl ?_
    repeat (first | refine uc ?_ | refine uf ?_)
    refine uA rfl (fun hb => ?_) (fun hb => ?_)
    · repeat (first | refine ue ?_ | refine uc ?_ | refine ud ?_ | refine uk ?_ | refine un ?_ | refine uu ?_ | refine uf ?_ | (refine ug ?_; first | refine uh tab_ok rfl rfl rfl rfl byE rfl ?_) | refine vB byO rfl rfl rfl ?_)
      have : l.findIdx p = i := by
        rcases Nat.lt_or_eq_of_le hi with h | h
        · have := List.not_of_lt_findIdx h
          simp_all
        · exact h.symm
      exact Sub.of_eq (by rw [zE, if_pos (by omega), this])
    · have : l.findIdx p ≠ i := fun h => by
        have := List.findIdx_getElem (p := p) (xs := l) (w := by omega)
        simp only [h] at this
        simp_all
      repeat (first | refine uc ?_ | refine ud ?_ | refine uj ?_ | refine uf ?_ | (refine ug ?_; first | refine uh tab_ok rfl rfl rfl rfl byE rfl ?_))
      exact ⟨⟨i + 1, by omega⟩, by dsimp only; omega, u5 rfl ⟨Sub.refl _, Sub.refl _, Sub.refl _, Sub.refl _, trivial⟩⟩
  · repeat (first | refine ue ?_ | refine uc ?_ | refine ud ?_ | refine uk ?_ | refine uC ?_ | refine uf ?_ | (refine ug ?_; first | refine uh tab_ok rfl rfl rfl rfl byE rfl ?_) | refine vB byO rfl rfl rfl ?_)
    exact Sub.of_eq (by rw [zE, if_neg (by omega)])
def rgA (r : Int × Int) : AV := .agg [.val (.int .i64 r.1), .val (.int .i64 r.2)]
theorem find_rng_ok (l : List (Int × Int)) (p : (Int × Int) → Bool) (f : FuncId) (caps : List AV) (hl : l.length ≤ 4611686018427387904) (hcall : uz Tryz.prog f) (hcf : AV.frees caps = true) (hp : ∀ s ∈ l, uI Tryz.prog f (rgA s :: caps) (.val (.bool (p s)))) :
    uI Tryz.prog 76 [.sl 2 (l.map rgD), .cl f caps] (.val (.int .i64 (zE p l))) := by
  refine uP Tryz.func76 Tryz.ntmps76 rfl rfl rfl fun S w => ?_
  repeat (first | refine ue ?_ | refine uc ?_ | refine um ?_ | refine ud ?_ | refine uf ?_ | (refine ug ?_; first | refine uG tab_ok rfl rfl rfl rfl rfl rfl rfl ?_ | refine uh tab_ok rfl rfl rfl rfl byE rfl ?_))
  refine uV (σ := {i : Nat // i ≤ l.findIdx p}) (fun _ => []) (fun x => [(0, .sl 2 (l.map rgD)), (1, .cl f caps), (7, .val (.int .i64 l.length)), (8, .val (.int .i64 x.1))]) (fun x => l.length - x.1) ⟨0, Nat.zero_le _⟩
    (u5 rfl ⟨Sub.refl _, Sub.refl _, Sub.refl _, Sub.refl _, trivial⟩) ?_
  rintro ⟨i, hi⟩
  dsimp only
  have hle := List.findIdx_le_length (p := p) (xs := l)
  repeat (first | refine ue ?_ | refine ud ?_ | refine uf ?_ | (refine ug ?_; first | refine uh tab_ok rfl rfl rfl rfl byE rfl ?_))
  refine uo rfl (fun hlt => ?_) (fun hge => ?_)
  · have hi' : i < l.length := by omega
    repeat (first | refine ue ?_ | refine um ?_ | refine ud ?_ | refine uj ?_ | refine uf ?_ | (refine ug ?_; first | refine uh tab_ok rfl rfl rfl rfl byE rfl ?_ | refine vf tab_ok rfl rfl rfl rfl rfl rfl rfl (by first | exact ⟨by omega, by omega⟩ | (simp; omega)) rfl rfl ?_))
    simp only [Int.toNat_natCast]
    refine r_callv (hp l[i] (List.getElem_mem hi')) hcall rfl rfl rfl ⟨Sub.refl _, z8 _⟩ (by simp [AV.frees, AV.free, rgA, hcf]) rfl rfl rfl ?_
    repeat (first | refine uc ?_ | refine uf ?_)
    refine uA rfl (fun hb => ?_) (fun hb => ?_)
    · repeat (first | refine ue ?_ | refine uc ?_ | refine ud ?_ | refine uk ?_ | refine un ?_ | refine uu ?_ | refine uf ?_ | (refine ug ?_; first | refine uh tab_ok rfl rfl rfl rfl byE rfl ?_) | refine vB byO rfl rfl rfl ?_)
      have : l.findIdx p = i := by
        rcases Nat.lt_or_eq_of_le hi with h | h
        · have := List.not_of_lt_findIdx h
          simp_all
        · exact h.symm
      exact Sub.of_eq (by rw [zE, if_pos (by omega), this])
    · have : l.findIdx p ≠ i := fun h => by
        have := List.findIdx_getElem (p := p) (xs := l) (w := by omega)
        simp only [h] at this
        simp_all
      repeat (first | refine uc ?_ | refine ud ?_ | refine uj ?_ | refine uf ?_ | (refine ug ?_; first | refine uh tab_ok rfl rfl rfl rfl byE rfl ?_))
      exact ⟨⟨i + 1, by omega⟩, by dsimp only; omega, u5 rfl ⟨Sub.refl _, Sub.refl _, Sub.refl _, Sub.refl _, trivial⟩⟩
  · repeat (first | refine ue ?_ | refine uc ?_ | refine ud ?_ | refine uk ?_ | refine uC ?_ | refine uf ?_ | (refine ug ?_; first | refine uh tab_ok rfl rfl rfl rfl byE rfl ?_) | refine vB byO rfl rfl rfl ?_)
    exact Sub.of_eq (by rw [zE, if_neg (by omega)])
theorem any_str_ok (l : List ByteArray) (p : ByteArray → Bool) (f : FuncId) (caps : List AV) (hl : l.length ≤ 4611686018427387904) (hcall : uz Tryz.prog f) (hcf : AV.frees caps = true) (hp : ∀ s ∈ l, uI Tryz.prog f (.val (.string s) :: caps) (.val (.bool (p s)))) :
    uI Tryz.prog 47 [.sl 1 (l.map sF), .cl f caps] (.val (.bool (l.any p))) := by
  refine uP Tryz.func47 Tryz.ntmps47 rfl rfl rfl fun S w => ?_
  repeat (first | refine ue ?_ | refine ud ?_ | refine uf ?_ | (refine ug ?_; first | refine uh tab_ok rfl rfl rfl rfl byE rfl ?_))
  refine uw (find_str_ok l p f caps hl hcall hcf hp) call75 rfl rfl ⟨Sub.refl _, Sub.refl _, trivial⟩ (by simp [AV.frees, AV.free, rgA, hcf]) rfl rfl rfl ?_
  repeat (first | refine uc ?_ | refine uk ?_ | refine uf ?_ | (refine ug ?_; first | refine uh tab_ok rfl rfl rfl rfl byE rfl ?_) | refine vB byO rfl rfl rfl ?_)
  exact Sub.of_eq (by rw [findR_any])
theorem any_rng_ok (l : List (Int × Int)) (p : (Int × Int) → Bool) (f : FuncId) (caps : List AV) (hl : l.length ≤ 4611686018427387904) (hcall : uz Tryz.prog f) (hcf : AV.frees caps = true) (hp : ∀ s ∈ l, uI Tryz.prog f (rgA s :: caps) (.val (.bool (p s)))) :
    uI Tryz.prog 49 [.sl 2 (l.map rgD), .cl f caps] (.val (.bool (l.any p))) := by
  refine uP Tryz.func49 Tryz.ntmps49 rfl rfl rfl fun S w => ?_
  repeat (first | refine ue ?_ | refine ud ?_ | refine uf ?_ | (refine ug ?_; first | refine uh tab_ok rfl rfl rfl rfl byE rfl ?_))
  refine uw (find_rng_ok l p f caps hl hcall hcf hp) call76 rfl rfl ⟨Sub.refl _, Sub.refl _, trivial⟩ (by simp [AV.frees, AV.free, rgA, hcf]) rfl rfl rfl ?_
  repeat (first | refine uc ?_ | refine uk ?_ | refine uf ?_ | (refine ug ?_; first | refine uh tab_ok rfl rfl rfl rfl byE rfl ?_) | refine vB byO rfl rfl rfl ?_)
  exact Sub.of_eq (by rw [findR_any])
/-- kind: may a style's system and its symbols be? -/
def kindF (d : Sd) : Bool :=
  if d.system = cyclicS ∨ d.system = yz ∨ d.system = fixedS then decide (1 ≤ (d.symbols.length : Int))
  else if d.system = yf ∨ d.system = qd then decide (2 ≤ (d.symbols.length : Int))
  else if d.system = wE then decide (1 ≤ (d.symbols.length : Int)) && decide ((d.symbols.length : Int) = d.weights.length) && zh d.weights
  else if d.system = vX then decide ((d.symbols.length : Int) + d.weights.length = 0) else false
theorem kind_ok (d : Sd) (h1 : d.symbols.length ≤ 17592186044416) (h2 : d.weights.length ≤ 17592186044416) : uI Tryz.prog 46 [dfA d] (.val (.bool (kindF d))) := by
  refine uP Tryz.func46 Tryz.ntmps46 rfl rfl rfl fun S w => ?_
  obtain ⟨name, sys, first, syms, ws, neg0, neg1, pre, suf, auto, rng, pad, qt, fall, ext, said, sy, su, wt, sb, ad⟩ := d
  by_cases e1 : sys = cyclicS
  · subst e1
    repeat (first | refine ue ?_ | refine uc ?_ | refine um ?_ | refine ud ?_ | refine uk ?_ | refine un ?_ | refine uu ?_ | refine uj ?_ | refine uf ?_ | (refine ug ?_; first | refine uG tab_ok rfl rfl rfl rfl rfl rfl rfl ?_ | refine uh tab_ok rfl rfl rfl rfl byE rfl ?_ | refine uJ tab_ok rfl rfl rfl rfl rfl ?_ | refine vp tab_ok rfl rfl rfl rfl rfl ?_) | refine vB byO rfl rfl rfl ?_ | refine uq rfl ?_)
    exact Sub.refl _
  by_cases e2 : sys = yz
  · subst e2
    repeat (first | refine ue ?_ | refine uc ?_ | refine um ?_ | refine ud ?_ | refine uk ?_ | refine un ?_ | refine uu ?_ | refine uj ?_ | refine uf ?_ | (refine ug ?_; first | refine uG tab_ok rfl rfl rfl rfl rfl rfl rfl ?_ | refine uh tab_ok rfl rfl rfl rfl byE rfl ?_ | refine uJ tab_ok rfl rfl rfl rfl rfl ?_ | refine vp tab_ok rfl rfl rfl rfl rfl ?_) | refine vB byO rfl rfl rfl ?_ | refine uq rfl ?_ | refine ur rfl ?_)
    exact Sub.refl _
  by_cases e3 : sys = fixedS
  · subst e3
    repeat (first | refine ue ?_ | refine uc ?_ | refine um ?_ | refine ud ?_ | refine uk ?_ | refine un ?_ | refine uu ?_ | refine uf ?_ | (refine ug ?_; first | refine uG tab_ok rfl rfl rfl rfl rfl rfl rfl ?_ | refine uh tab_ok rfl rfl rfl rfl byE rfl ?_ | refine uJ tab_ok rfl rfl rfl rfl rfl ?_ | refine vp tab_ok rfl rfl rfl rfl rfl ?_) | refine vB byO rfl rfl rfl ?_ | refine uq rfl ?_ | refine ur rfl ?_)
    exact Sub.refl _
  by_cases e4 : sys = yf
  · subst e4
    repeat (first | refine ue ?_ | refine uc ?_ | refine um ?_ | refine ud ?_ | refine uk ?_ | refine un ?_ | refine uu ?_ | refine uj ?_ | refine uf ?_ | (refine ug ?_; first | refine uG tab_ok rfl rfl rfl rfl rfl rfl rfl ?_ | refine uh tab_ok rfl rfl rfl rfl byE rfl ?_ | refine uJ tab_ok rfl rfl rfl rfl rfl ?_ | refine vp tab_ok rfl rfl rfl rfl rfl ?_) | refine vB byO rfl rfl rfl ?_ | refine uq rfl ?_ | refine ur rfl ?_)
    exact Sub.refl _
  by_cases e5 : sys = qd
  · subst e5
    repeat (first | refine ue ?_ | refine uc ?_ | refine um ?_ | refine ud ?_ | refine uk ?_ | refine un ?_ | refine uu ?_ | refine uf ?_ | (refine ug ?_; first | refine uG tab_ok rfl rfl rfl rfl rfl rfl rfl ?_ | refine uh tab_ok rfl rfl rfl rfl byE rfl ?_ | refine uJ tab_ok rfl rfl rfl rfl rfl ?_ | refine vp tab_ok rfl rfl rfl rfl rfl ?_) | refine vB byO rfl rfl rfl ?_ | refine uq rfl ?_ | refine ur rfl ?_)
    exact Sub.refl _
  by_cases e6 : sys = wE
  · subst e6
    repeat (first | refine ue ?_ | refine uc ?_ | refine um ?_ | refine ud ?_ | refine uf ?_ | (refine ug ?_; first | refine uG tab_ok rfl rfl rfl rfl rfl rfl rfl ?_ | refine uh tab_ok rfl rfl rfl rfl byE rfl ?_ | refine uJ tab_ok rfl rfl rfl rfl rfl ?_ | refine vp tab_ok rfl rfl rfl rfl rfl ?_ | refine wb tab_ok rfl rfl rfl rfl rfl rfl (by first | exact fun _ => rfl | exact cs1) rfl rfl rfl ?_ | refine ux tab_ok rfl rfl rfl rfl rfl rfl byC (by first | exact fun _ => trivial | (intro h; simp at h; omega)) rfl ?_ | refine vd tab_ok rfl rfl rfl rfl rfl rfl byC rfl ?_ | refine vm rfl rfl rfl rfl rfl rfl rfl rfl ?_) | refine uq rfl ?_ | refine ur rfl ?_)
    refine vt (fun _ => falling_ok ws (by dsimp only at h2; omega)) call74 rfl rfl rfl rfl byC ⟨Sub.refl _, trivial⟩ rfl rfl rfl rfl ?_
    repeat (first | refine uc ?_ | refine uk ?_ | refine un ?_ | refine uu ?_ | refine uf ?_ | (refine ug ?_; first | refine uh tab_ok rfl rfl rfl rfl byE rfl ?_ | refine vm rfl rfl rfl rfl rfl rfl rfl rfl ?_) | refine vB byO rfl rfl rfl ?_)
    exact Sub.refl _
  by_cases e7 : sys = vX
  · subst e7
    repeat (first | refine ue ?_ | refine uc ?_ | refine um ?_ | refine ud ?_ | refine uk ?_ | refine un ?_ | refine uu ?_ | refine uf ?_ | (refine ug ?_; first | refine uG tab_ok rfl rfl rfl rfl rfl rfl rfl ?_ | refine uh tab_ok rfl rfl rfl rfl byE rfl ?_ | refine uJ tab_ok rfl rfl rfl rfl rfl ?_ | refine vp tab_ok rfl rfl rfl rfl rfl ?_) | refine vB byO rfl rfl rfl ?_ | refine uq rfl ?_ | refine ur rfl ?_)
    exact Sub.refl _
  repeat (first | refine ue ?_ | refine uc ?_ | refine um ?_ | refine ud ?_ | refine uf ?_ | (refine ug ?_; first | refine uh tab_ok rfl rfl rfl rfl byE rfl ?_ | refine uJ tab_ok rfl rfl rfl rfl rfl ?_ | refine vp tab_ok rfl rfl rfl rfl rfl ?_))
  refine uo rfl (fun h => absurd h e1) (fun _ => ?_)
  repeat (first | refine ue ?_ | refine uc ?_ | refine ud ?_ | refine uf ?_ | (refine ug ?_; first | refine uh tab_ok rfl rfl rfl rfl byE rfl ?_))
  refine uo rfl (fun h => absurd h e2) (fun _ => ?_)
  repeat (first | refine uc ?_ | refine ud ?_ | refine uf ?_ | (refine ug ?_; first | refine uh tab_ok rfl rfl rfl rfl byE rfl ?_))
  refine uo rfl (fun h => absurd h e3) (fun _ => ?_)
  repeat (first | refine ue ?_ | refine uc ?_ | refine ud ?_ | refine uf ?_ | (refine ug ?_; first | refine uh tab_ok rfl rfl rfl rfl byE rfl ?_))
  refine uo rfl (fun h => absurd h e4) (fun _ => ?_)
  repeat (first | refine uc ?_ | refine ud ?_ | refine uf ?_ | (refine ug ?_; first | refine uh tab_ok rfl rfl rfl rfl byE rfl ?_))
  refine uo rfl (fun h => absurd h e5) (fun _ => ?_)
  repeat (first | refine ue ?_ | refine uc ?_ | refine ud ?_ | refine uf ?_ | (refine ug ?_; first | refine uh tab_ok rfl rfl rfl rfl byE rfl ?_))
  refine uo rfl (fun h => absurd h e6) (fun _ => ?_)
  repeat (first | refine ue ?_ | refine uc ?_ | refine ud ?_ | refine uf ?_ | (refine ug ?_; first | refine uh tab_ok rfl rfl rfl rfl byE rfl ?_))
  refine uo rfl (fun h => absurd h e7) (fun _ => ?_)
  repeat (first | refine ue ?_ | refine uc ?_ | refine ud ?_ | refine uk ?_ | refine uj ?_ | refine uf ?_ | (refine ug ?_; first | refine uh tab_ok rfl rfl rfl rfl byE rfl ?_) | refine vB byO rfl rfl rfl ?_)
  exact Sub.of_eq (by simp [kindF, e1, e2, e3, e4, e5, e6, e7])
def zg (s : ByteArray) : Bool := decide (100 < (s.size : Int))
def badR (r : Int × Int) : Bool := decide (r.2 < r.1) || decide (r.1 < -2147483648) || decide (2147483647 < r.2)
def qU (d : Sd) : List ByteArray := [d.pre, d.suf, d.padSign, d.neg1, d.neg2] ++ d.symbols
def yU (d : Sd) : Bool := if (!kindF d || decide (64 < (d.symbols.length : Int)) || decide (d.pad < 0) || decide (200 < d.pad) || (qU d).any zg) = true then false else !d.range.any badR
theorem smay_ok (d : Sd) (h1 : d.symbols.length ≤ 65536) (h2 : d.weights.length ≤ 65536) (h3 : d.range.length ≤ 65536) : uI Tryz.prog 20 [dfA d] (.val (.bool (yU d))) := by
  refine uP Tryz.func20 Tryz.ntmps20 rfl rfl rfl fun S w => ?_
  repeat (first | refine ue ?_)
  refine ud ?_
  repeat (first | refine ue ?_ | refine uf ?_ | (refine ug ?_; first | refine uh tab_ok rfl rfl rfl rfl byE rfl ?_ | refine vp tab_ok rfl rfl rfl rfl rfl ?_))
  refine ud ?_
  repeat (first | (refine ug ?_; first | refine uh tab_ok rfl rfl rfl rfl byE rfl ?_ | refine uJ tab_ok rfl rfl rfl rfl rfl ?_ | refine yD tab_ok rfl rfl rfl rfl (by decide) rfl rfl rfl rfl ?_))
  refine qY tab_ok rfl rfl rfl rfl rfl rfl rfl rfl rfl ?_
  repeat (first | refine ue ?_ | refine uf ?_ | (refine ug ?_; first | refine uh tab_ok rfl rfl rfl rfl byE rfl ?_ | refine uJ tab_ok rfl rfl rfl rfl rfl ?_ | refine u6 tab_ok rfl rfl rfl rfl rfl rfl rfl rfl rfl (by first | omega | (simp; omega)) rfl ?_))
  refine ve (uy (M' := [.box 30 (dfC d), .gone]) (F' := [(1, .ptr 0 0), (3, .sl 1 ((qU d).map sF))]) byV byV) ?_
  repeat (first | refine ud ?_ | (refine ug ?_; first | refine uJ tab_ok rfl rfl rfl rfl rfl ?_))
  refine uw (kind_ok d (by omega) (by omega)) call46 rfl rfl ⟨Sub.agg (by repeat' first | exact trivial | exact Sub.refl _ | exact Sub.nil _ | refine Sub.agg ?_ | apply And.intro), trivial⟩ rfl rfl rfl rfl ?_
  repeat (first | (refine ug ?_; first | refine uh tab_ok rfl rfl rfl rfl byE rfl ?_ | refine wb tab_ok rfl rfl rfl rfl rfl rfl (by first | exact fun _ => rfl | exact cs1) rfl rfl rfl ?_ | refine ux tab_ok rfl rfl rfl rfl rfl rfl byC (by first | exact fun _ => trivial | (intro h; simp at h; omega)) rfl ?_ | refine vd tab_ok rfl rfl rfl rfl rfl rfl byC rfl ?_ | refine vI rfl rfl rfl rfl rfl rfl rfl rfl ?_))
  refine vt (fun _ => any_str_ok (qU d) zg 48 [] (by simp [qU]; omega) call48 rfl (fun s _ => long_ok s)) call47 rfl rfl rfl rfl byC ⟨Sub.refl _, Sub.refl _, trivial⟩ rfl rfl rfl rfl ?_
  repeat (first | refine uc ?_ | refine uf ?_ | (refine ug ?_; first | refine vI rfl rfl rfl rfl rfl rfl rfl rfl ?_))
  refine uA rfl (fun h => ?_) (fun h => ?_)
  · repeat (first | refine ue ?_ | refine uc ?_ | refine ud ?_ | refine uk ?_ | refine un ?_ | refine uf ?_ | (refine ug ?_; first | refine uh tab_ok rfl rfl rfl rfl byE rfl ?_) | refine vB byO rfl rfl rfl ?_)
    exact Sub.of_eq (by rw [yU, if_pos h])
  · repeat (first | refine ue ?_ | refine ud ?_ | refine uj ?_ | (refine ug ?_; first | refine uh tab_ok rfl rfl rfl rfl byE rfl ?_ | refine uJ tab_ok rfl rfl rfl rfl rfl ?_))
    refine uw (any_rng_ok d.range badR 50 [] (by omega) call50 rfl (fun r _ => mayr_ok r)) call49 rfl rfl ⟨Sub.refl _, Sub.refl _, trivial⟩ rfl rfl rfl rfl ?_
    repeat (first | refine uc ?_ | refine uk ?_ | refine uf ?_ | (refine ug ?_; first | refine uh tab_ok rfl rfl rfl rfl byE rfl ?_) | refine vB byO rfl rfl rfl ?_)
    exact Sub.of_eq (by rw [yU, if_neg (by simpa using h)])
end Go.Proofs.YtfmafehogfikmaaGreatDoor

/- define.style.say; walked. -/
namespace Go.Proofs.YtfmafehogfikmaaGreatDoor
open Go Go.RowKit
set_option maxRecDepth 20000

def sysS : ByteArray := ⟨#[115, 121, 115, 116, 101, 109]⟩
def negS : ByteArray := ⟨#[110, 101, 103, 97, 116, 105, 118, 101]⟩
def preS : ByteArray := ⟨#[112, 114, 101, 102, 105, 120]⟩
def sufS : ByteArray := ⟨#[115, 117, 102, 102, 105, 120]⟩
def ranS : ByteArray := ⟨#[114, 97, 110, 103, 101]⟩
def qt : ByteArray := ⟨#[112, 97, 100]⟩
def falS : ByteArray := ⟨#[102, 97, 108, 108, 98, 97, 99, 107]⟩
def symS : ByteArray := ⟨#[115, 121, 109, 98, 111, 108, 115]⟩
def addS : ByteArray := ⟨#[97, 100, 100, 105, 116, 105, 118, 101, 45, 115, 121, 109, 98, 111, 108, 115]⟩
def yx (S0 : Sd) (nm : ByteArray) (l : List Nd) : Sd × Bool :=
  if l.length = 0 then (S0, false) else
  if nm = sysS then zP S0 l else
  if nm = negS then wW S0 l else
  if nm = preS then xh S0 false l else
  if nm = sufS then xh S0 true l else
  if nm = ranS then zy S0 l else
  if nm = qt then padF S0 l else
  if nm = falS then falF S0 l else
  if nm = symS then z7 S0 l else
  if nm = addS then zH S0 l else
  (S0, false)
def sayD (S0 : Sd) (d : Dc) : Sd × Bool := yx S0 d.name (vc d.value)
set_option maxHeartbeats 8000000 in
theorem dsay_ok (S0 : Sd) (d : Dc) (hs : u4 d.value < 1099511627776) (ht : ∀ n ∈ d.value, n.tok.text.size ≤ 1099511627776) (hS : S0.said < 1000) : u3 Tryz.prog 19 [sdB S0] [.ptr 0 0, .agg [.val (.string d.name), .sl 7 (d.value.map nF), .val (.bool d.imp)]] [sdB (sayD S0 d).1] (.val (.bool (sayD S0 d).2)) := by
  have hm : ∀ m ∈ vc d.value, m.tok.text.size ≤ 1099511627776 := fun m h => ht m (w9 h)
  have hz : u4 (vc d.value) < 1099511627776 := Nat.lt_of_le_of_lt (yi _) hs
  refine vu Tryz.func19 Tryz.ntmps19 rfl rfl rfl fun S w β => ?_
  rw [sayD]
  repeat (first | refine ue ?_ | refine ud ?_ | refine uf ?_ | (refine ug ?_; first | refine uh tab_ok rfl rfl rfl rfl byE rfl ?_ | refine uJ tab_ok rfl rfl rfl rfl rfl ?_ | refine vp tab_ok rfl rfl rfl rfl rfl ?_))
  refine uw (show uI Tryz.prog 37 [.sl 7 (d.value.map nF)] (.sl 7 ((vc d.value).map nF)) from tight_ok d.value hs) call37 rfl rfl ⟨Sub.refl _, trivial⟩ rfl rfl rfl rfl ?_
  obtain ⟨l, hl2⟩ : ∃ l, l = vc d.value := ⟨_, rfl⟩
  rw [← hl2] at hm hz ⊢
  have hlm : (l.map nF).length = l.length := List.length_map _
  have hll := u7 l
  clear hl2
  generalize d.name = nm
  repeat (first | refine ue ?_ | refine uc ?_ | refine ud ?_ | refine uf ?_ | (refine ug ?_; first | refine uG tab_ok rfl rfl rfl rfl rfl rfl rfl ?_ | refine uh tab_ok rfl rfl rfl rfl byE rfl ?_))
  refine uo rfl (fun h0 => ?_) (fun h0 => ?_)
  · rw [show yx S0 nm l = (S0, false) from if_pos (by omega)]
    repeat (first | refine ue ?_ | refine uc ?_ | refine ud ?_ | refine uk ?_ | refine un ?_ | refine uf ?_ | (refine ug ?_; first | refine uh tab_ok rfl rfl rfl rfl byE rfl ?_))
    exact vj [sdB S0, .gone] [(4, .val (.bool false))] (ul byV byV ⟨trivial, trivial⟩) byO rfl rfl rfl rfl rfl (Sub.refl _)
  have hne : l ≠ [] := fun h => h0 (by rw [h]; rfl)
  have h00 : ¬ l.length = 0 := by omega
  repeat (first | refine ue ?_ | refine uc ?_ | refine um ?_ | refine ud ?_ | refine uj ?_ | refine uf ?_ | (refine ug ?_; first | refine uh tab_ok rfl rfl rfl rfl byE rfl ?_ | refine uJ tab_ok rfl rfl rfl rfl rfl ?_))
  refine uo rfl (fun (hsysS : nm = sysS) => ?_) (fun (hsysS : ¬ nm = sysS) => ?_)
  · rw [(show yx S0 nm l = zP S0 l from (if_neg h00).trans (if_pos hsysS))]
    repeat (first | refine ue ?_ | refine ud ?_ | (refine ug ?_; first | refine uh tab_ok rfl rfl rfl rfl byE rfl ?_))
    refine vr [0] (system_ok S0 l hne hz hm) call38 rfl rfl ⟨rfl, trivial⟩ (by decide) ⟨Sub.refl _, Sub.refl _, trivial⟩ rfl rfl rfl rfl rfl rfl rfl ?_
    repeat (first | refine uc ?_ | refine uk ?_ | refine un ?_ | refine uu ?_ | refine uf ?_ | (refine ug ?_; first | refine uh tab_ok rfl rfl rfl rfl byE rfl ?_))
    exact vj [sdB (zP S0 l).1, .gone] [(4, .val (.bool (zP S0 l).2))] (ul byV byV ⟨trivial, trivial⟩) byO rfl rfl rfl rfl rfl (Sub.refl _)
  repeat (first | refine ue ?_ | refine uc ?_ | refine ud ?_ | refine uf ?_ | (refine ug ?_; first | refine uh tab_ok rfl rfl rfl rfl byE rfl ?_))
  refine uo rfl (fun (hnegS : nm = negS) => ?_) (fun (hnegS : ¬ nm = negS) => ?_)
  · rw [(show yx S0 nm l = wW S0 l from (if_neg h00).trans ((if_neg hsysS).trans (if_pos hnegS)))]
    repeat (first | refine ue ?_ | refine ud ?_ | (refine ug ?_; first | refine uh tab_ok rfl rfl rfl rfl byE rfl ?_))
    refine vr [0] (negative_ok S0 l (by omega) hS) call39 rfl rfl ⟨rfl, trivial⟩ (by decide) ⟨Sub.refl _, Sub.refl _, trivial⟩ rfl rfl rfl rfl rfl rfl rfl ?_
    repeat (first | refine uc ?_ | refine uk ?_ | refine un ?_ | refine uu ?_ | refine uf ?_ | (refine ug ?_; first | refine uh tab_ok rfl rfl rfl rfl byE rfl ?_))
    exact vj [sdB (wW S0 l).1, .gone] [(4, .val (.bool (wW S0 l).2))] (ul byV byV ⟨trivial, trivial⟩) byO rfl rfl rfl rfl rfl (Sub.refl _)
  repeat (first | refine ue ?_ | refine uc ?_ | refine ud ?_ | refine uf ?_ | (refine ug ?_; first | refine uh tab_ok rfl rfl rfl rfl byE rfl ?_))
  refine uo rfl (fun (hpreS : nm = preS) => ?_) (fun (hpreS : ¬ nm = preS) => ?_)
  · rw [(show yx S0 nm l = xh S0 false l from (if_neg h00).trans ((if_neg hsysS).trans ((if_neg hnegS).trans (if_pos hpreS))))]
    repeat (first | refine ue ?_ | refine ud ?_ | (refine ug ?_; first | refine uh tab_ok rfl rfl rfl rfl byE rfl ?_ | refine uB rfl rfl rfl rfl rfl rfl rfl ?_))
    refine vr [0] (prefix_ok S0 l hne hz hS) call40 rfl rfl ⟨rfl, trivial⟩ (by decide) ⟨Sub.refl _, Sub.refl _, Sub.refl _, Sub.refl _, trivial⟩ rfl rfl rfl rfl rfl rfl rfl ?_
    repeat (first | refine uc ?_ | refine uk ?_ | refine un ?_ | refine uu ?_ | refine uf ?_ | (refine ug ?_; first | refine uh tab_ok rfl rfl rfl rfl byE rfl ?_))
    exact vj [sdB (xh S0 false l).1, .gone] [(4, .val (.bool (xh S0 false l).2))] (ul byV byV ⟨trivial, trivial⟩) byO rfl rfl rfl rfl rfl (Sub.refl _)
  repeat (first | refine ue ?_ | refine uc ?_ | refine ud ?_ | refine uf ?_ | (refine ug ?_; first | refine uh tab_ok rfl rfl rfl rfl byE rfl ?_))
  refine uo rfl (fun (hsufS : nm = sufS) => ?_) (fun (hsufS : ¬ nm = sufS) => ?_)
  · rw [(show yx S0 nm l = xh S0 true l from (if_neg h00).trans ((if_neg hsysS).trans ((if_neg hnegS).trans ((if_neg hpreS).trans (if_pos hsufS)))))]
    repeat (first | refine ue ?_ | refine ud ?_ | (refine ug ?_; first | refine uh tab_ok rfl rfl rfl rfl byE rfl ?_ | refine uB rfl rfl rfl rfl rfl rfl rfl ?_))
    refine vr [0] (suffix_ok S0 l hne hz hS) call40 rfl rfl ⟨rfl, trivial⟩ (by decide) ⟨Sub.refl _, Sub.refl _, Sub.refl _, Sub.refl _, trivial⟩ rfl rfl rfl rfl rfl rfl rfl ?_
    repeat (first | refine uc ?_ | refine uk ?_ | refine un ?_ | refine uu ?_ | refine uf ?_ | (refine ug ?_; first | refine uh tab_ok rfl rfl rfl rfl byE rfl ?_))
    exact vj [sdB (xh S0 true l).1, .gone] [(4, .val (.bool (xh S0 true l).2))] (ul byV byV ⟨trivial, trivial⟩) byO rfl rfl rfl rfl rfl (Sub.refl _)
  repeat (first | refine ue ?_ | refine uc ?_ | refine ud ?_ | refine uf ?_ | (refine ug ?_; first | refine uh tab_ok rfl rfl rfl rfl byE rfl ?_))
  refine uo rfl (fun (hranS : nm = ranS) => ?_) (fun (hranS : ¬ nm = ranS) => ?_)
  · rw [(show yx S0 nm l = zy S0 l from (if_neg h00).trans ((if_neg hsysS).trans ((if_neg hnegS).trans ((if_neg hpreS).trans ((if_neg hsufS).trans (if_pos hranS))))))]
    repeat (first | refine ue ?_ | refine ud ?_ | (refine ug ?_; first | refine uh tab_ok rfl rfl rfl rfl byE rfl ?_))
    refine vr [0] (range_ok S0 l hz hm hS) call41 rfl rfl ⟨rfl, trivial⟩ (by decide) ⟨Sub.refl _, Sub.refl _, trivial⟩ rfl rfl rfl rfl rfl rfl rfl ?_
    repeat (first | refine uc ?_ | refine uk ?_ | refine un ?_ | refine uu ?_ | refine uf ?_ | (refine ug ?_; first | refine uh tab_ok rfl rfl rfl rfl byE rfl ?_))
    exact vj [sdB (zy S0 l).1, .gone] [(4, .val (.bool (zy S0 l).2))] (ul byV byV ⟨trivial, trivial⟩) byO rfl rfl rfl rfl rfl (Sub.refl _)
  repeat (first | refine ue ?_ | refine uc ?_ | refine ud ?_ | refine uf ?_ | (refine ug ?_; first | refine uh tab_ok rfl rfl rfl rfl byE rfl ?_))
  refine uo rfl (fun (hpadS : nm = qt) => ?_) (fun (hpadS : ¬ nm = qt) => ?_)
  · rw [(show yx S0 nm l = padF S0 l from (if_neg h00).trans ((if_neg hsysS).trans ((if_neg hnegS).trans ((if_neg hpreS).trans ((if_neg hsufS).trans ((if_neg hranS).trans (if_pos hpadS)))))))]
    repeat (first | refine ue ?_ | refine ud ?_ | (refine ug ?_; first | refine uh tab_ok rfl rfl rfl rfl byE rfl ?_))
    refine vr [0] (pad_ok S0 l (by omega) hS) call42 rfl rfl ⟨rfl, trivial⟩ (by decide) ⟨Sub.refl _, Sub.refl _, trivial⟩ rfl rfl rfl rfl rfl rfl rfl ?_
    repeat (first | refine uc ?_ | refine uk ?_ | refine un ?_ | refine uu ?_ | refine uf ?_ | (refine ug ?_; first | refine uh tab_ok rfl rfl rfl rfl byE rfl ?_))
    exact vj [sdB (padF S0 l).1, .gone] [(4, .val (.bool (padF S0 l).2))] (ul byV byV ⟨trivial, trivial⟩) byO rfl rfl rfl rfl rfl (Sub.refl _)
  repeat (first | refine ue ?_ | refine uc ?_ | refine ud ?_ | refine uf ?_ | (refine ug ?_; first | refine uh tab_ok rfl rfl rfl rfl byE rfl ?_))
  refine uo rfl (fun (hfalS : nm = falS) => ?_) (fun (hfalS : ¬ nm = falS) => ?_)
  · rw [(show yx S0 nm l = falF S0 l from (if_neg h00).trans ((if_neg hsysS).trans ((if_neg hnegS).trans ((if_neg hpreS).trans ((if_neg hsufS).trans ((if_neg hranS).trans ((if_neg hpadS).trans (if_pos hfalS))))))))]
    repeat (first | refine ue ?_ | refine ud ?_ | (refine ug ?_; first | refine uh tab_ok rfl rfl rfl rfl byE rfl ?_))
    refine vr [0] (fallback_ok S0 l hz hm hS) call43 rfl rfl ⟨rfl, trivial⟩ (by decide) ⟨Sub.refl _, Sub.refl _, trivial⟩ rfl rfl rfl rfl rfl rfl rfl ?_
    repeat (first | refine uc ?_ | refine uk ?_ | refine un ?_ | refine uu ?_ | refine uf ?_ | (refine ug ?_; first | refine uh tab_ok rfl rfl rfl rfl byE rfl ?_))
    exact vj [sdB (falF S0 l).1, .gone] [(4, .val (.bool (falF S0 l).2))] (ul byV byV ⟨trivial, trivial⟩) byO rfl rfl rfl rfl rfl (Sub.refl _)
  repeat (first | refine ue ?_ | refine uc ?_ | refine ud ?_ | refine uf ?_ | (refine ug ?_; first | refine uh tab_ok rfl rfl rfl rfl byE rfl ?_))
  refine uo rfl (fun (hsymS : nm = symS) => ?_) (fun (hsymS : ¬ nm = symS) => ?_)
  · rw [(show yx S0 nm l = z7 S0 l from (if_neg h00).trans ((if_neg hsysS).trans ((if_neg hnegS).trans ((if_neg hpreS).trans ((if_neg hsufS).trans ((if_neg hranS).trans ((if_neg hpadS).trans ((if_neg hfalS).trans (if_pos hsymS)))))))))]
    repeat (first | refine ue ?_ | refine ud ?_ | (refine ug ?_; first | refine uh tab_ok rfl rfl rfl rfl byE rfl ?_))
    refine vr [0] (symbols_ok S0 l (by omega)) call44 rfl rfl ⟨rfl, trivial⟩ (by decide) ⟨Sub.refl _, Sub.refl _, trivial⟩ rfl rfl rfl rfl rfl rfl rfl ?_
    repeat (first | refine uc ?_ | refine uk ?_ | refine un ?_ | refine uu ?_ | refine uf ?_ | (refine ug ?_; first | refine uh tab_ok rfl rfl rfl rfl byE rfl ?_))
    exact vj [sdB (z7 S0 l).1, .gone] [(4, .val (.bool (z7 S0 l).2))] (ul byV byV ⟨trivial, trivial⟩) byO rfl rfl rfl rfl rfl (Sub.refl _)
  repeat (first | refine ue ?_ | refine uc ?_ | refine ud ?_ | refine uf ?_ | (refine ug ?_; first | refine uh tab_ok rfl rfl rfl rfl byE rfl ?_))
  refine uo rfl (fun (haddS : nm = addS) => ?_) (fun (haddS : ¬ nm = addS) => ?_)
  · rw [(show yx S0 nm l = zH S0 l from (if_neg h00).trans ((if_neg hsysS).trans ((if_neg hnegS).trans ((if_neg hpreS).trans ((if_neg hsufS).trans ((if_neg hranS).trans ((if_neg hpadS).trans ((if_neg hfalS).trans ((if_neg hsymS).trans (if_pos haddS))))))))))]
    repeat (first | refine ue ?_ | refine ud ?_ | (refine ug ?_; first | refine uh tab_ok rfl rfl rfl rfl byE rfl ?_))
    refine vr [0] (sums_ok S0 l hz) call45 rfl rfl ⟨rfl, trivial⟩ (by decide) ⟨Sub.refl _, Sub.refl _, trivial⟩ rfl rfl rfl rfl rfl rfl rfl ?_
    repeat (first | refine uc ?_ | refine uk ?_ | refine un ?_ | refine uu ?_ | refine uf ?_ | (refine ug ?_; first | refine uh tab_ok rfl rfl rfl rfl byE rfl ?_))
    exact vj [sdB (zH S0 l).1, .gone] [(4, .val (.bool (zH S0 l).2))] (ul byV byV ⟨trivial, trivial⟩) byO rfl rfl rfl rfl rfl (Sub.refl _)
  repeat (first | refine ue ?_ | refine uc ?_ | refine ud ?_ | refine uk ?_ | refine uj ?_ | refine uf ?_ | (refine ug ?_; first | refine uh tab_ok rfl rfl rfl rfl byE rfl ?_))
  rw [(show yx S0 nm l = (S0, false) from (if_neg h00).trans ((if_neg hsysS).trans ((if_neg hnegS).trans ((if_neg hpreS).trans ((if_neg hsufS).trans ((if_neg hranS).trans ((if_neg hpadS).trans ((if_neg hfalS).trans ((if_neg hsymS).trans (if_neg haddS))))))))))]
  exact vj [sdB S0, .gone] [(4, .val (.bool false))] (ul byV byV ⟨trivial, trivial⟩) byO rfl rfl rfl rfl rfl (Sub.refl _)
end Go.Proofs.YtfmafehogfikmaaGreatDoor

/- The engine: a drawn region with two operations, not side by side, that meet in memory and are drawn in either order: both orders of the two are walked. -/
namespace Go.Proofs.YtfmafehogfikmaaGreatDoor
open Go Go.RowKit

section
variable {P : Program} {ops : Array Oper} {N : Nat} {fl : Nat → Nat} {K : List AB → (Nat → AV) → Prop}
def ordOK3 (ops : Array Oper) (fl : List Nat) (ms : List Nat) (c d : Nat) : Bool :=
  (List.range ops.size).all fun i => match ops[i]? with
    | none => true
    | some o => (o.after.all fun e => !Region.binds .any e || Nat.blt e.on i) && (ms.getD i 0 == ancOf (ms.take i) o) &&
      (Nat.ble i d || Nat.testBit (ms.getD i 0) c) &&
      (Nat.ble i c || Nat.ble d i || (match ops[c]? with
        | none => true
        | some o' => wQ ops o o' && xE (fl.getD i 0) (fl.getD c 0))) &&
      (List.range i).all fun j => Nat.testBit (ms.getD i 0) j || (j == c && i == d) || (match ops[j]? with
        | none => true
        | some o' => wQ ops o' o && xE (fl.getD j 0) (fl.getD i 0))
theorem qc {flags ms : List Nat} {c d : Nat} (h : ordOK3 ops flags ms c d = true) {i : Nat} {o : Oper} (ho : ops[i]? = some o) :
    (∀ e ∈ o.after, Region.binds .any e = true → e.on < i) ∧ ms.getD i 0 = ancOf (ms.take i) o ∧ (∀ j oj, j < i → ops[j]? = some oj → ¬ (j = c ∧ i = d) → Nat.testBit (ms.getD i 0) j = true ∨ (wQ ops oj o = true ∧ xE (flags.getD j 0) (flags.getD i 0) = true)) ∧ (d < i → Nat.testBit (ms.getD i 0) c = true) ∧
    (c < i → i < d → ∀ oc, ops[c]? = some oc → wQ ops o oc = true ∧ xE (flags.getD i 0) (flags.getD c 0) = true) := by
  have hlt : i < ops.size := (Array.getElem?_eq_some_iff.1 ho).1
  have h1 := List.all_eq_true.1 h i (List.mem_range.2 hlt)
  rw [ho] at h1
  simp only [Bool.and_eq_true, beq_iff_eq] at h1
  obtain ⟨⟨⟨⟨h2, h3⟩, h6⟩, h7⟩, h4⟩ := h1
  refine ⟨fun e he hbd => ?_, h3, fun j oj hj hoj hne => ?_, fun hci => ?_, fun h8 h9 oc hoc => ?_⟩
  · have := Array.all_eq_true_iff_forall_mem.1 h2 e he
    rw [hbd] at this
    simpa [Nat.blt_eq] using this
  · have h5 := List.all_eq_true.1 h4 j (List.mem_range.2 hj)
    rw [hoj] at h5
    simp only [Bool.or_eq_true, Bool.and_eq_true, beq_iff_eq] at h5
    rcases h5 with (h5 | h5) | h5
    · exact .inl h5
    · exact absurd h5 hne
    · exact .inr h5
  · simp only [Bool.or_eq_true, Nat.ble_eq] at h6
    rcases h6 with h6 | h6
    · omega
    · exact h6
  · rw [hoc] at h7
    simp only [Bool.or_eq_true, Bool.and_eq_true, Nat.ble_eq] at h7
    rcases h7 with (h7 | h7) | h7
    · omega
    · omega
    · exact h7
theorem anc_listed3 {flags ms : List Nat} {c d : Nat} (h : ordOK3 ops flags ms c d = true) {listed : Array Bool} (hc : Closed ops listed) : ∀ (i : Nat) (o : Oper), ops[i]? = some o →
    (∀ e ∈ o.after, Region.binds .any e = true → listed.getD e.on false = true) → ∀ j, Nat.testBit (ms.getD i 0) j = true → listed.getD j false = true := by
  intro i
  induction i using Nat.strongRecOn with
  | _ i ih =>
    intro o ho hall j hj
    obtain ⟨h1, h2, _⟩ := qc h ho
    rw [h2] at hj
    obtain ⟨e, he, hb, h3⟩ := ancOf_bit hj
    have hl := hall e he hb
    rcases h3 with h3 | h3
    · rw [← h3]; exact hl
    · have hlt := h1 e he hb
      have hi : i < ops.size := (Array.getElem?_eq_some_iff.1 ho).1
      have ho' : ops[e.on]? = some ops[e.on] := Array.getElem?_eq_getElem (by omega)
      have h4 : (ms.take i).getD e.on 0 = ms.getD e.on 0 := by
        rw [List.getD_eq_getElem?_getD, List.getD_eq_getElem?_getD, List.getElem?_take, if_pos hlt]
      rw [h4] at h3
      exact ih e.on hlt _ ho' (hc e.on _ ho' hl) j h3
theorem RunF.split {A B : List Nat} : ∀ {M : List AB} {F : Nat → AV}, RunF P ops N fl K (A ++ B) M F → RunF P ops N fl (fun M F => RunF P ops N fl K B M F) A M F := by
  induction A with
  | nil => exact fun h => h
  | cons i A ih =>
    rintro M F ⟨o, M', out, h1, h2, h3, h4⟩
    exact ⟨o, M', out, h1, h2, h3, ih h4⟩
/-- The order of the rest: one of the two is done, or both stand yet. -/
theorem RunF.anyD {cx : Cx} (hP : cx.P = P) (hN : cx.N = N) {Q : Exit → Act → World → Prop} {flags ms : List Nat} {c d : Nat} (hcd : c < d) (hok : ordOK3 ops flags ms c d = true) (hfl : ∀ i, fl i = flags.getD i 0)
    (hQ : ∀ M F a w, K M F → qN cx M F a w → Q .normal a w) : ∀ (fuel : Nat) (L : List Nat) (listed : Array Bool) (M : List AB) (F : Nat → AV) (a : Act) (w : World),
    L.length = fuel → listed.size = ops.size → List.Pairwise (· < ·) L → (∀ j, j < ops.size → (listed.getD j false = false ↔ j ∈ L)) → (∀ j ∈ L, j < ops.size) → Closed ops listed →
    ((¬ (c ∈ L ∧ d ∈ L) ∧ RunF P ops N fl K L M F) ∨ ∃ A Z B, L = A ++ c :: (Z ++ d :: B) ∧ (∀ j ∈ A, j < c) ∧ (∀ j ∈ Z, c < j ∧ j < d) ∧ (∀ j ∈ B, d < j) ∧ RunF P ops N fl (fun M F => RunF P ops N fl K (c :: d :: B) M F ∧ RunF P ops N fl K (d :: c :: B) M F) (A ++ Z) M F) → qN cx M F a w → wpAnyIn (Fen cx.L) 0 P .any ops Q fuel listed a w := by
  subst hP
  intro fuel
  induction fuel with
  | zero =>
    intro L listed M F a w hlen hsz _ hL _ _ h hs
    have : L = [] := List.eq_nil_of_length_eq_zero hlen
    subst this
    refine ⟨?_, hQ M F a w (h.elim (fun h => h.2) (fun ⟨A, Z, B, e, _⟩ => by cases A <;> cases e)) hs⟩
    rw [List.eq_nil_iff_forall_not_mem]
    intro j hj
    obtain ⟨h1, o, h2, _⟩ := mem_ready.1 hj
    have hlt : j < ops.size := (Array.getElem?_eq_some_iff.1 h2).1
    have : listed.getD j false = false := by
      simp [hsz, hlt] at h1 ⊢; exact h1
    exact absurd ((hL j hlt).1 this) (by simp)
  | succ fuel ih =>
    intro L listed M F a w hlen hsz hp hL hlt hc h hs
    refine ⟨fun hr => ?_, fun i hi => ?_⟩
    · match L, hlen with
      | i :: L', _ =>
        have hi : i < ops.size := hlt i (by simp)
        have ho : ops[i]? = some ops[i] := Array.getElem?_eq_getElem hi
        have : i ∈ Region.ready .any ops listed := by
          refine mem_ready.2 ⟨?_, _, ho, fun e he hbd => ?_⟩
          · have := (hL i hi).2 (by simp)
            simp [hsz, hi] at this ⊢; exact this
          · have h1 := (qc hok ho).1 e he hbd
            cases hl : listed.getD e.on false with
            | true => rfl
            | false =>
              have := (hL e.on (by omega)).1 hl
              rcases List.mem_cons.1 this with h2 | h2
              · omega
              · have := (List.pairwise_cons.1 hp).1 _ h2; omega
        rw [hr] at this
        cases this
    · obtain ⟨h1, o, h2, h3⟩ := mem_ready.1 hi
      have hi' : i < ops.size := (Array.getElem?_eq_some_iff.1 h2).1
      have hun : listed.getD i false = false := by simp [hsz, hi'] at h1 ⊢; exact h1
      have hmem := (hL i hi').1 hun
      have hanc := anc_listed3 hok hc i o h2 h3
      have easy : ∀ j, j ∈ L → j < i → ¬ (j = c ∧ i = d) → ∀ oj oi, ops[j]? = some oj → ops[i]? = some oi → Easy ops fl j i oj oi := fun j hj hji hne oj oi hoj hoi => by
        rw [h2] at hoi; cases hoi
        have hjn : listed.getD j false = false := (hL j (hlt j hj)).2 hj
        rcases (qc hok h2).2.2.1 j oj hji hoj hne with h4 | ⟨h4, h5⟩
        · rw [hanc j h4] at hjn; cases hjn
        · obtain ⟨s1, s2, s3⟩ := xI h4
          exact ⟨s1, s2, s3, by rw [hfl, hfl]; exact yQ h5⟩
      -- what stands between the two and c
      have easyZ : ∀ m, c < m → m < d → ∀ om oc, ops[m]? = some om → ops[c]? = some oc → Easy ops fl m c om oc := fun m hm1 hm2 om oc hom hoc => by
        obtain ⟨h4, h5⟩ := (qc hok hom).2.2.2.2 hm1 hm2 oc hoc
        obtain ⟨s1, s2, s3⟩ := xI h4
        exact ⟨s1, s2, s3, by rw [hfl, hfl]; exact yQ h5⟩
      have go : ∀ L1 L2, L = L1 ++ i :: L2 → (∃ M' out, vn o.dst N = true ∧ StepK cx.P ops (fl i) o M F M' out ∧ ((¬ (c ∈ L1 ++ L2 ∧ d ∈ L1 ++ L2) ∧ RunF cx.P ops N fl K (L1 ++ L2) M' (upd F o.dst out)) ∨ ∃ A Z B, L1 ++ L2 = A ++ c :: (Z ++ d :: B) ∧ (∀ j ∈ A, j < c) ∧ (∀ j ∈ Z, c < j ∧ j < d) ∧ (∀ j ∈ B, d < j) ∧ RunF cx.P ops N fl (fun M F => RunF cx.P ops N fl K (c :: d :: B) M F ∧ RunF cx.P ops N fl K (d :: c :: B) M F) (A ++ Z) M' (upd F o.dst out))) →
          wpOpIn (Fen cx.L) 0 cx.P ops Q i (wpAnyIn (Fen cx.L) 0 cx.P .any ops Q fuel (listed.setIfInBounds i true)) a w := by
        rintro L1 L2 rfl ⟨M', out, k2, k3, k4⟩
        unfold wpOpIn
        rw [h2]
        refine StepG.sat hN k2 k3.g hs fun a' w' hs' => ?_
        refine ih (L1 ++ L2) _ _ _ a' w' (by simp at hlen ⊢; omega) (by simp [hsz]) ?_ (fun j hj => ?_) (fun j hj => hlt j (by simp at hj ⊢; rcases hj with h | h <;> simp [h])) ?_ k4 hs'
        · exact hp.sublist (by simp)
        · by_cases hji : i = j
          · subst hji
            have hno : i ∉ L1 ++ L2 := by
              have := List.pairwise_append.1 hp
              rw [List.mem_append]
              rintro (h4 | h4)
              · have := this.2.2 i h4 i (by simp); omega
              · have := (List.pairwise_cons.1 this.2.1).1 i h4; omega
            simp [hsz, hj, hno]
          · rw [getD_set_ne false hji, hL j hj]
            simp [Ne.symm hji]
        · intro j oj hoj hl e he hb
          by_cases hji : i = j
          · subst hji
            rw [h2] at hoj; cases hoj
            exact getD_set_true (h3 e he hb)
          · rw [getD_set_ne false hji] at hl
            exact getD_set_true (hc j oj hoj hl e he hb)
      have step : ∀ {K' : List AB → (Nat → AV) → Prop} {L1 : List Nat}, RunF cx.P ops N fl K' (i :: L1) M F → ∃ M' out, vn o.dst N = true ∧ StepK cx.P ops (fl i) o M F M' out ∧ RunF cx.P ops N fl K' L1 M' (upd F o.dst out) := fun ⟨o', M', out, k1, k2, k3, k4⟩ => by
        rw [h2] at k1; cases k1
        exact ⟨M', out, k2, k3, k4⟩
      rcases h with ⟨hno, h⟩ | ⟨A, Z, B, rfl, hA, hZ, hB, h⟩
      · obtain ⟨L1, L2, rfl⟩ := List.append_of_mem hmem
        have hfront := RunF.front (fun j hj oj oi hoj hoi => easy j (by simp [hj]) ((List.pairwise_append.1 hp).2.2 j hj i (by simp)) (fun ⟨e1, e2⟩ => hno ⟨by rw [← e1]; simp [hj], by rw [← e2]; simp⟩) oj oi hoj hoi) h
        obtain ⟨M', out, k2, k3, k4⟩ := step hfront
        exact go L1 L2 rfl ⟨M', out, k2, k3, .inl ⟨fun ⟨e1, e2⟩ => hno ⟨by simp at e1 ⊢; rcases e1 with e | e <;> simp [e], by simp at e2 ⊢; rcases e2 with e | e <;> simp [e]⟩, k4⟩⟩
      · rcases List.mem_append.1 hmem with hm | hm
        · -- one of those ahead of the two
          obtain ⟨A1, A2, rfl⟩ := List.append_of_mem hm
          have hic := hA i hm
          rw [List.append_assoc, List.cons_append] at h
          have hfront := RunF.front (fun j hj oj oi hoj hoi => easy j (by simp [hj]) (by
            have := List.pairwise_append.1 hp
            exact (List.pairwise_append.1 this.1).2.2 j hj i (by simp)) (fun ⟨_, e2⟩ => by omega) oj oi hoj hoi) h
          obtain ⟨M', out, k2, k3, k4⟩ := step hfront
          exact go A1 (A2 ++ c :: (Z ++ d :: B)) (by simp) ⟨M', out, k2, k3, .inr ⟨A1 ++ A2, Z, B, by simp, fun j hj => hA j (by simp at hj ⊢; rcases hj with h | h <;> simp [h]), hZ, hB, by rw [List.append_assoc]; exact k4⟩⟩
        · rcases List.mem_cons.1 hm with rfl | hm
          · -- the first of the two
            have h5 := RunF.append (RunF.imp (fun _ _ h => h.1) h)
            have hfront := RunF.front (i := i) (L1 := A ++ Z) (fun j hj oj oi hoj hoi => by
              rcases List.mem_append.1 hj with hj | hj
              · exact easy j (by simp [hj]) (hA j hj) (fun ⟨_, e2⟩ => by omega) oj oi hoj hoi
              · exact easyZ j (hZ j hj).1 (hZ j hj).2 oj oi hoj hoi) h5
            obtain ⟨M', out, k2, k3, k4⟩ := step hfront
            refine go A (Z ++ d :: B) rfl ⟨M', out, k2, k3, .inl ⟨fun ⟨e1, _⟩ => ?_, by rw [← List.append_assoc]; exact k4⟩⟩
            rcases List.mem_append.1 e1 with e | e
            · have := hA _ e; omega
            · rcases List.mem_append.1 e with e | e
              · have := hZ _ e; omega
              · rcases List.mem_cons.1 e with e | e
                · omega
                · have := hB _ e; omega
          · rcases List.mem_append.1 hm with hm | hm
            · -- one between the two
              obtain ⟨Z1, Z2, rfl⟩ := List.append_of_mem hm
              have hic := hZ i hm
              rw [show A ++ (Z1 ++ i :: Z2) = (A ++ Z1) ++ i :: Z2 by simp] at h
              have hpz := (List.pairwise_cons.1 (List.pairwise_append.1 hp).2.1).2
              have hfront := RunF.front (fun j hj oj oi hoj hoi => easy j (by
                rcases List.mem_append.1 hj with hj | hj <;> simp [hj]) (by
                rcases List.mem_append.1 hj with hj | hj
                · have := hA j hj; omega
                · exact (List.pairwise_append.1 (List.pairwise_append.1 hpz).1).2.2 j hj i (by simp)) (fun ⟨_, e2⟩ => by omega) oj oi hoj hoi) h
              obtain ⟨M', out, k2, k3, k4⟩ := step hfront
              exact go (A ++ c :: Z1) (Z2 ++ d :: B) (by simp) ⟨M', out, k2, k3, .inr ⟨A, Z1 ++ Z2, B, by simp, hA, fun j hj => hZ j (by simp at hj ⊢; rcases hj with h | h <;> simp [h]), hB, by rw [← List.append_assoc]; exact k4⟩⟩
            · rcases List.mem_cons.1 hm with rfl | hm
              · -- the second of the two
                have h5 := RunF.append (RunF.imp (fun _ _ h => h.2) h)
                have hfront := RunF.front (i := i) (L1 := A ++ Z) (fun j hj oj oi hoj hoi => easy j (by
                  rcases List.mem_append.1 hj with hj | hj <;> simp [hj]) (by
                  rcases List.mem_append.1 hj with hj | hj
                  · have := hA j hj; omega
                  · exact (hZ j hj).2) (fun ⟨e1, _⟩ => by
                  rcases List.mem_append.1 hj with hj | hj
                  · have := hA j hj; omega
                  · have := hZ j hj; omega) oj oi hoj hoi) h5
                obtain ⟨M', out, k2, k3, k4⟩ := step hfront
                rw [List.append_assoc] at k4
                have k5 := RunF.append (RunF.imp (fun _ _ h => RunF.front (i := c) (L1 := Z) (fun j hj oj oi hoj hoi => easyZ j (hZ j hj).1 (hZ j hj).2 oj oi hoj hoi) h) (RunF.split k4))
                refine go (A ++ c :: Z) B (by simp) ⟨M', out, k2, k3, .inl ⟨fun ⟨_, e2⟩ => ?_, by rw [List.append_assoc, List.cons_append]; exact k5⟩⟩
                rw [List.append_assoc, List.cons_append] at e2
                rcases List.mem_append.1 e2 with e | e
                · have := hA _ e; omega
                · rcases List.mem_cons.1 e with e | e
                  · omega
                  · rcases List.mem_append.1 e with e | e
                    · have := hZ _ e; omega
                    · have := hB _ e; omega
              · have hib := hB i hm
                have := hanc c ((qc hok h2).2.2.2.1 hib)
                have hcn : listed.getD c false = false := (hL c (hlt c (by simp))).2 (by simp)
                rw [hcn] at this; cases this
theorem wp_region_run3 {cx : Cx} {id : Nat} {Q : Exit → Act → World → Prop} {M : List AB} {F : Nat → AV} {a : Act} {w : World} {flags ms : List Nat} {c z : Nat} (hm : cx.P.follows .mixedOrders = true)
    (hok : ordOK3 ops flags ms c (c + 1 + z) = true) (hcl : c + z + 2 ≤ ops.size) (h : RunF P ops cx.N (fun i => flags.getD i 0) (fun M F => RunF P ops cx.N (fun i => flags.getD i 0) K (c :: (c + 1 + z) :: List.range' (c + z + 2) (ops.size - (c + z + 2))) M F ∧ RunF P ops cx.N (fun i => flags.getD i 0) K ((c + 1 + z) :: c :: List.range' (c + z + 2) (ops.size - (c + z + 2))) M F) (List.range' 0 c ++ List.range' (c + 1) z) M F) (hs : qN cx M F a w) (hP : cx.P = P)
    (hQ : ∀ M F a w, K M F → qN cx M F a w → Q .normal a w) : (Code.region id ops true).wpIn (Fen cx.L) 0 cx.P Q a w := by
  subst hP
  refine wpIn_region_any hm ?_
  obtain ⟨h1, h2, β, h3, h4, h5⟩ := hs
  have hb : Below w.heap.size w w.drew := (Below.refl _ _).drew
  have he : Ev M β w M β w.drew := Ev.of_below hb
  have hL : List.range ops.size = List.range' 0 c ++ c :: (List.range' (c + 1) z ++ (c + 1 + z) :: List.range' (c + z + 2) (ops.size - (c + z + 2))) := by
    rw [List.range_eq_range']
    have e1 : ops.size = c + (z + ((ops.size - (c + z + 2)) + 1) + 1) := by omega
    conv => lhs; rw [e1]
    rw [← List.range'_append_1, Nat.zero_add, List.range'_succ, ← List.range'_append_1, List.range'_succ, show c + 1 + z + 1 = c + z + 2 by omega]
  refine RunF.anyD rfl rfl (by omega) hok (fun _ => rfl) hQ ops.size (List.range ops.size) _ M F a _ (by simp) (by simp) List.pairwise_lt_range (fun j hj => ?_) (fun j hj => by simpa using hj) (fun j oj _ hl => ?_) (.inr ⟨_, _, _, hL, fun j hj => by simp [List.mem_range'_1] at hj; exact hj, fun j hj => by simp [List.mem_range'_1] at hj; omega, fun j hj => by simp [List.mem_range'_1] at hj; omega, h⟩)
    ⟨h1, h2.ev h3 he, β, h3.quiet hb, h4.trans he, fun d => (h5 d).ev he⟩
  · simp [hj]
  · rcases Nat.lt_or_ge j ops.size with hj | hj <;> simp [hj] at hl
theorem Ix.app {fn : Nat → Nat} : ∀ {I J : List Nat} {l m : List Oper} {k n : List Nat}, Ix ops fn I l k → Ix ops fn J m n → Ix ops fn (I ++ J) (l ++ m) (k ++ n)
  | [], _, [], _, [], _, _, h => h
  | _ :: _, _, _ :: _, _, _ :: _, _, ⟨h1, h2, h3⟩, h => ⟨h1, h2, Ix.app h3 h⟩
  | [], _, _ :: _, _, _, _, h, _ => h.elim
  | [], _, [], _, _ :: _, _, h, _ => h.elim
  | _ :: _, _, [], _, _, _, h, _ => h.elim
  | _ :: _, _, _ :: _, _, [], _, h, _ => h.elim
theorem a_draw3 {S : Nat → Prop} {w0 : World} {M0 M : List AB} {β0 : Env} {L : Option Nat} {F : List (Nat × AV)} {Q : Exit → AS → Prop} {id : Nat} {l : List Oper} (hm : P.follows .mixedOrders = true) (fl : List Nat) (A Z B : List Oper) (x y : Oper) (ka kz kb : List Nat) (kx ky : Nat)
    (el : l = A ++ x :: (Z ++ y :: B)) (ef : fl = ka ++ kx :: (kz ++ ky :: kb)) (la : ka.length = A.length) (lz : kz.length = Z.length) (lb : kb.length = B.length) (hok : ordOK3 l.toArray fl (ancs l []) A.length (A.length + 1 + Z.length) = true)
    (h : RunX P l.toArray N (fun s => RunX P l.toArray N (fun s' => Q .normal s') (x :: y :: B) (some (kx :: ky :: kb)) s.M s.F ∧ RunX P l.toArray N (fun s' => Q .normal s') (y :: x :: B) (some (ky :: kx :: kb)) s.M s.F) (A ++ Z) (some (ka ++ kz)) M F) : AWp ⟨P, N, S, w0, M0, β0, L⟩ (.region id l.toArray true) ⟨M, F⟩ Q := by
  intro a w hs
  subst el ef
  have iA := ix_of A [] (x :: (Z ++ y :: B)) ka [] (kx :: (kz ++ ky :: kb)) la rfl
  simp only [List.nil_append] at iA
  have iZ := ix_of Z (A ++ [x]) (y :: B) kz (ka ++ [kx]) (ky :: kb) lz (by simp [la])
  simp only [List.append_assoc, List.cons_append, List.nil_append, List.length_append, List.length_cons, List.length_nil] at iZ
  have iB := ix_of B (A ++ x :: (Z ++ [y])) [] kb (ka ++ kx :: (kz ++ [ky])) [] lb (by simp [la, lz])
  simp only [List.append_assoc, List.cons_append, List.nil_append, List.append_nil, List.length_append, List.length_cons, List.length_nil] at iB
  have e2 : A.length + (Z.length + (0 + 1) + 1) = A.length + Z.length + 2 := by omega
  rw [e2] at iB
  have ex : (A ++ x :: (Z ++ y :: B)).toArray[A.length]? = some x := by simp
  have ey : (A ++ x :: (Z ++ y :: B)).toArray[A.length + 1 + Z.length]? = some y := by
    have : A.length + 1 + Z.length = (A ++ x :: Z).length := by simp; omega
    rw [this, show A ++ x :: (Z ++ y :: B) = (A ++ x :: Z) ++ y :: B by simp]
    simp only [List.getElem?_toArray]
    simp
  have fx : (ka ++ kx :: (kz ++ ky :: kb)).getD A.length 0 = kx := by
    rw [← la, List.getD_eq_getElem?_getD]; simp
  have fy : (ka ++ kx :: (kz ++ ky :: kb)).getD (A.length + 1 + Z.length) 0 = ky := by
    have : A.length + 1 + Z.length = (ka ++ kx :: kz).length := by simp [la, lz]; omega
    rw [this, show ka ++ kx :: (kz ++ ky :: kb) = (ka ++ kx :: kz) ++ ky :: kb by simp, List.getD_eq_getElem?_getD]
    simp
  have hF := Run.toFI (ops := (A ++ x :: (Z ++ y :: B)).toArray) (P := P) (N := N) _ _ _ ⟨M, F⟩ (iA.app iZ) h
  refine wp_region_run3 (P := P) (cx := ⟨P, N, S, w0, M0, β0, L⟩) (c := A.length) (z := Z.length) (K := fun M F => ∃ G, F = uH G ∧ Q .normal ⟨M, G⟩) hm hok (by simp; omega) ?_ hs rfl (fun M F a w ⟨G, hG, hq⟩ hs => ⟨⟨M, G⟩, hq, by subst hG; exact hs⟩)
  refine RunF.imp ?_ hF
  rintro M1 F1 ⟨G, rfl, h1, h2⟩
  have hsz : (A ++ x :: (Z ++ y :: B)).toArray.size - (A.length + Z.length + 2) = B.length := by simp; omega
  rw [hsz]
  exact ⟨Run.toFI (ops := (A ++ x :: (Z ++ y :: B)).toArray) (P := P) (N := N) _ (x :: y :: B) (kx :: ky :: kb) ⟨M1, G⟩ ⟨ex, fx, ey, fy, iB⟩ h1, Run.toFI (ops := (A ++ x :: (Z ++ y :: B)).toArray) (P := P) (N := N) _ (y :: x :: B) (ky :: kx :: kb) ⟨M1, G⟩ ⟨ey, fy, ex, fx, iB⟩ h2⟩
end
end Go.Proofs.YtfmafehogfikmaaGreatDoor

/- define.Parse; walked. -/
namespace Go.Proofs.YtfmafehogfikmaaGreatDoor
open Go Go.RowKit
set_option maxRecDepth 20000

def zSd : Sd := ⟨⟨#[]⟩, ⟨#[]⟩, 0, [], [], ⟨#[]⟩, ⟨#[]⟩, ⟨#[]⟩, ⟨#[]⟩, false, [], 0, ⟨#[]⟩, ⟨#[]⟩, ⟨#[]⟩, 0, [], [], [], false, false⟩
def csS : ByteArray := ⟨#[99, 111, 117, 110, 116, 101, 114, 45, 115, 116, 121, 108, 101]⟩
def sd0 (n : ByteArray) : Sd := { zSd with name := n, system := yz, first := 1, neg1 := ⟨#[45]⟩, suf := ⟨#[46, 32]⟩, auto := true, fall := ⟨#[100, 101, 99, 105, 109, 97, 108]⟩ }
def v8 (S : Sd) (l : List Dc) : Sd := l.foldl (fun S d => (sayD S d).1) S
def xk (S : Sd) : Sd := if S.system = wE then { S with symbols := S.sums, weights := S.wts } else { S with symbols := S.syms }
def endP (S : Sd) : Sd × Int :=
  if S.system = vX ∧ (S.symbolic || S.additive) = true then (zSd, 2) else
  if yU (xk S) then (xk S, 0) else (zSd, 2)
def ki (r : Rl) : Sd × Int :=
  if r.at_ = csS ∧ r.blk = true then
    (if (nmF r.pre).2 && !xq fixN (vk (nmF r.pre).1) then endP (v8 (sd0 (nmF r.pre).1) r.decls) else (zSd, 2))
  else (zSd, 1)
theorem said_sys (S : Sd) (l : List Nd) : (zP S l).1.said = S.said := by
  unfold zP qG
  repeat' split
  all_goals rfl
theorem said64 (S : Sd) (d : Dc) (h : S.said < 64) : (sayD S d).1.said < 64 := by
  have ho : ∀ k, k < 64 → S.said ||| k < 64 := fun k hk => Nat.or_lt_two_pow (n := 6) h hk
  unfold sayD yx
  split
  · exact h
  split
  · rw [said_sys]; exact h
  all_goals unfold wW xh zy padF falF z7 zH
  repeat' split
  all_goals first | exact h | exact ho _ (by decide)
theorem said_all : ∀ (l : List Dc) (S : Sd), S.said < 64 → (v8 S l).said < 64
  | [], _, h => h
  | d :: r, S, h => said_all r _ (said64 S d h)
theorem sayAll_succ (S : Sd) (l : List Dc) {i : Nat} (h : i < l.length) : v8 S (l.take (i + 1)) = (sayD (v8 S (l.take i)) l[i]).1 := by
  rw [v8, List.take_add_one, List.getElem?_eq_getElem h, List.foldl_append]
  rfl
def zDf : AB := .box 30 [.val (.string ⟨#[]⟩), .val (.string ⟨#[]⟩), .val (.int .i64 0), .val (.slice none 0 0), .val (.slice none 0 0), .val (.string ⟨#[]⟩), .val (.string ⟨#[]⟩), .val (.string ⟨#[]⟩), .val (.string ⟨#[]⟩), .val (.bool false), .val (.slice none 0 0), .val (.int .i64 0), .val (.string ⟨#[]⟩), .val (.string ⟨#[]⟩), .val (.string ⟨#[]⟩), .val (.int .i64 0)]
/-- What a rule must be for the walk. -/
structure RlOk (r : Rl) : Prop where
  pz : u4 r.pre < 1099511627776
  pt : ∀ n ∈ r.pre, n.tok.text.size ≤ 1099511627776
  dl : r.decls.length ≤ 1099511627776
  dz : ∀ d ∈ r.decls, u4 d.value < 1099511627776
  dt : ∀ d ∈ r.decls, ∀ n ∈ d.value, n.tok.text.size ≤ 1099511627776
  nz : (nmF r.pre).1.size ≤ 1099511627776
  s1 : (v8 (sd0 (nmF r.pre).1) r.decls).syms.length ≤ 65536
  s2 : (v8 (sd0 (nmF r.pre).1) r.decls).sums.length ≤ 65536
  s3 : (v8 (sd0 (nmF r.pre).1) r.decls).wts.length ≤ 65536
  s4 : (v8 (sd0 (nmF r.pre).1) r.decls).range.length ≤ 65536
  s5 : (v8 (sd0 (nmF r.pre).1) r.decls).weights.length ≤ 65536
theorem r_eqs {P : Program} {ops : Array Oper} {N : Nat} {K : AS → Prop} {o : Oper} {r : List Oper} {fo fo' : Option (List Nat)} {M : List AB} {F : List (Nat × AV)} {dt : Tmp} {tab : List (Nat × TE)} {T U : TypeId} {x y : Operand} {s t : ByteArray} {b : Bool} (ht : TyTab P tab) (hg : o.guard = none) (ho : o.op = .binOp .eql T x y U) (hx : u0 (uH F) x = .val (.string s)) (hy : u0 (uH F) y = .val (.string t)) (hb : decide (s = t) = b)
    (hdd : o.dst = some dt) (hd : vn o.dst N = true) (hp : vF fo 0 = some fo') (k : RunX P ops N K r fo' M ((dt, .val (.bool b)) :: F)) : RunX P ops N K (o :: r) fo M F := by
  subst hb
  exact uh ht hg (by rw [ho]; simp only [ev, hx, hy, evBin]) hdd hd trivial hp k
set_option maxHeartbeats 8000000 in
theorem dparse_ok (r : Rl) (h : RlOk r) : uI Tryz.prog 6 [rlA r] (.tup [dfA (ki r).1, .val (.int .i64 (ki r).2)]) := by
  obtain ⟨pz, pt, dl, dz, dt, nz, s1, s2, s3, s4, s5⟩ := h
  have hdm : (r.decls.map dcD).length = r.decls.length := List.length_map _
  refine uP Tryz.func6 Tryz.ntmps6 rfl rfl rfl fun S w => ?_
  by_cases hat : r.at_ = csS
  · cases hbk : r.blk with
    | false =>
      rw [show ki r = (zSd, 1) from if_neg (by rw [hbk]; rintro ⟨_, h⟩; cases h)]
      repeat (first | refine ue ?_ | refine uc ?_ | refine ud ?_ | refine uf ?_ | (refine ug ?_; first | refine uh tab_ok rfl rfl rfl rfl byE rfl ?_ | refine uJ tab_ok rfl rfl rfl rfl rfl ?_ | refine vp tab_ok rfl rfl rfl rfl rfl ?_ | refine ux tab_ok rfl rfl rfl rfl rfl rfl byC (by first | exact fun _ => trivial | (intro h; simp at h; omega)) rfl ?_ | refine vd tab_ok rfl rfl rfl rfl rfl rfl byC rfl ?_ | refine vI rfl rfl rfl rfl rfl rfl rfl rfl ?_))
      refine uA rfl (fun _ => ?_) (fun hno => ?_)
      · repeat (first | refine ue ?_ | refine uc ?_ | refine ud ?_ | refine uk ?_ | refine un ?_ | refine uf ?_ | (refine ug ?_; first | refine uh tab_ok rfl rfl rfl rfl byE rfl ?_ | refine uM tab_ok rfl rfl rfl rfl ?_ | refine uU tab_ok rfl rfl rfl rfl rfl rfl ?_))
        all_goals exact vU tab_ok byO rfl rfl rfl rfl rfl rfl rfl (Sub.agg (by repeat' first | exact trivial | exact Sub.refl _ | exact Sub.nil _ | refine Sub.agg ?_ | apply And.intro)) (Sub.refl _)
      · exfalso
        simp [hbk] at hno
    | true =>
      rw [show ki r = (if (nmF r.pre).2 && !xq fixN (vk (nmF r.pre).1) then endP (v8 (sd0 (nmF r.pre).1) r.decls) else (zSd, 2)) from if_pos ⟨hat, hbk⟩]
      repeat (first | refine ue ?_ | refine uc ?_ | refine ud ?_ | refine uf ?_ | (refine ug ?_; first | refine uh tab_ok rfl rfl rfl rfl byE rfl ?_ | refine uJ tab_ok rfl rfl rfl rfl rfl ?_ | refine vp tab_ok rfl rfl rfl rfl rfl ?_ | refine ux tab_ok rfl rfl rfl rfl rfl rfl byC (by first | exact fun _ => trivial | (intro h; simp at h; omega)) rfl ?_ | refine vd tab_ok rfl rfl rfl rfl rfl rfl byC rfl ?_ | refine vI rfl rfl rfl rfl rfl rfl rfl rfl ?_))
      refine uA rfl (fun hyes => ?_) (fun _ => ?_)
      · exfalso
        rw [hbk] at hyes
        simp only [show r.at_ = ⟨#[99, 111, 117, 110, 116, 101, 114, 45, 115, 116, 121, 108, 101]⟩ from hat] at hyes
        simp at hyes
      repeat (first | refine ue ?_ | refine ud ?_ | refine uj ?_ | (refine ug ?_; first | refine uh tab_ok rfl rfl rfl rfl byE rfl ?_ | refine uJ tab_ok rfl rfl rfl rfl rfl ?_))
      refine uw (kh r.pre pz pt) call11 rfl rfl ⟨Sub.refl _, trivial⟩ rfl rfl rfl rfl ?_
      repeat (first | refine ue ?_ | refine ud ?_ | refine uf ?_ | (refine ug ?_; first | refine uh tab_ok rfl rfl rfl rfl byE rfl ?_ | refine ux tab_ok rfl rfl rfl rfl rfl rfl byC (by first | exact fun _ => trivial | (intro h; simp at h; omega)) rfl ?_))
      refine vt (fun _ => fixed_ok (nmF r.pre).1 nz) call18 rfl rfl rfl rfl byC ⟨Sub.refl _, trivial⟩ rfl rfl rfl rfl ?_
      repeat (first | refine uc ?_ | refine uf ?_ | (refine ug ?_; first | refine vI rfl rfl rfl rfl rfl rfl rfl rfl ?_))
      refine uA rfl (fun hyes => ?_) (fun hno => ?_)
      · have e : ((nmF r.pre).2 && !xq fixN (vk (nmF r.pre).1)) = false := by
          cases h1 : (nmF r.pre).2 <;> cases h2 : xq fixN (vk (nmF r.pre).1) <;> simp [h1, h2] at hyes ⊢
        rw [e, if_neg Bool.false_ne_true]
        repeat (first | refine ue ?_ | refine uc ?_ | refine ud ?_ | refine uk ?_ | refine un ?_ | refine uf ?_ | (refine ug ?_; first | refine uh tab_ok rfl rfl rfl rfl byE rfl ?_ | refine uM tab_ok rfl rfl rfl rfl ?_ | refine uU tab_ok rfl rfl rfl rfl rfl rfl ?_))
        all_goals exact vU tab_ok byO rfl rfl rfl rfl rfl rfl rfl (Sub.agg (by repeat' first | exact trivial | exact Sub.refl _ | exact Sub.nil _ | refine Sub.agg ?_ | apply And.intro)) (Sub.refl _)
      have e : ((nmF r.pre).2 && !xq fixN (vk (nmF r.pre).1)) = true := by
        cases h1 : (nmF r.pre).2 <;> cases h2 : xq fixN (vk (nmF r.pre).1) <;> simp [h1, h2] at hno ⊢
      rw [e, if_pos rfl]
      obtain ⟨nm, hnm⟩ : ∃ nm, nm = (nmF r.pre).1 := ⟨_, rfl⟩
      rw [← hnm] at s1 s2 s3 s4 s5 ⊢
      repeat (first | refine ue ?_ | refine uc ?_ | refine um ?_ | refine ud ?_ | refine uj ?_ | refine uf ?_ | (refine ug ?_; first | refine uG tab_ok rfl rfl rfl rfl rfl rfl rfl ?_ | refine uh tab_ok rfl rfl rfl rfl byE rfl ?_ | refine uJ tab_ok rfl rfl rfl rfl rfl ?_ | refine vp tab_ok rfl rfl rfl rfl rfl ?_ | refine uU tab_ok rfl rfl rfl rfl rfl rfl ?_))
      refine uV (σ := {i : Nat // i ≤ r.decls.length}) (fun x => [.box 37 (rlC r), zDf, sdB (v8 (sd0 nm) (r.decls.take x.1))]) (fun x => [(2, .ptr 1 0), (6, .ptr 2 0), (37, .sl 3 (r.decls.map dcD)), (38, .val (.int .i64 r.decls.length)), (39, .val (.int .i64 x.1))]) (fun x => r.decls.length - x.1) ⟨0, Nat.zero_le _⟩ (uy byV byV) ?_
      rintro ⟨i, hi⟩
      dsimp only
      repeat (first | refine ue ?_ | refine ud ?_ | refine uf ?_ | (refine ug ?_; first | refine uh tab_ok rfl rfl rfl rfl byE rfl ?_))
      refine uo rfl (fun hlt => ?_) (fun hge => ?_)
      · have hlt : i < r.decls.length := by omega
        have hmem : r.decls[i] ∈ r.decls := List.getElem_mem hlt
        have h64 := said_all (r.decls.take i) (sd0 nm) (by show 0 < 64; omega)
        have hsay := dsay_ok (v8 (sd0 nm) (r.decls.take i)) r.decls[i] (dz _ hmem) (dt _ hmem) (by omega)
        repeat (first | refine ue ?_ | refine uc ?_ | refine um ?_ | refine ud ?_ | refine uj ?_ | refine uf ?_ | (refine ug ?_; first | refine uh tab_ok rfl rfl rfl rfl byE rfl ?_ | refine uJ tab_ok rfl rfl rfl rfl rfl ?_ | refine vf tab_ok rfl rfl rfl rfl rfl rfl rfl (by first | exact ⟨by omega, by omega⟩ | (simp; omega)) rfl rfl ?_ | refine vp tab_ok rfl rfl rfl rfl rfl ?_ | refine uM tab_ok rfl rfl rfl rfl ?_))
        simp only [Int.toNat_natCast]
        refine vr [2] hsay call19 rfl rfl ⟨rfl, trivial⟩ (by decide) ⟨Sub.refl _, Sub.refl _, trivial⟩ rfl rfl rfl rfl rfl rfl rfl ?_
        repeat (first | refine uc ?_ | refine ud ?_ | refine uf ?_ | (refine ug ?_; first | refine uh tab_ok rfl rfl rfl rfl byE rfl ?_))
        refine ⟨⟨i + 1, hlt⟩, by dsimp only; omega, ?_⟩
        dsimp only
        rw [sayAll_succ _ _ hlt]
        exact u2 3 rfl rfl byK
      have : i = r.decls.length := by omega
      subst this
      rw [List.take_length]
      generalize v8 (sd0 nm) r.decls = S at s1 s2 s3 s4 s5 ⊢
      repeat (first | refine ue ?_ | refine um ?_ | refine uC ?_)
      by_cases hx : S.system = vX
      · obtain ⟨x1, x2, x3, x4, x5, x6, x7, x8, x9, x10, x11, x12, x13, x14, x15, x16, x17, x18, x19, x20, x21⟩ := S
        have hx2 : x2 = vX := hx
        subst hx2
        cases x20 with
        | true =>
          rw [show endP ⟨x1, vX, x3, x4, x5, x6, x7, x8, x9, x10, x11, x12, x13, x14, x15, x16, x17, x18, x19, true, x21⟩ = (zSd, 2) from if_pos ⟨rfl, rfl⟩]
          repeat (first | refine ue ?_ | refine uc ?_ | refine ud ?_ | refine uk ?_ | refine un ?_ | refine uu ?_ | refine uf ?_ | (refine ug ?_; first | refine uh tab_ok rfl rfl rfl rfl byE rfl ?_ | refine uJ tab_ok rfl rfl rfl rfl rfl ?_ | refine uM tab_ok rfl rfl rfl rfl ?_ | refine uN rfl rfl rfl rfl rfl rfl rfl ?_ | refine va rfl rfl rfl rfl rfl rfl ?_ | refine uY tab_ok rfl rfl rfl rfl rfl rfl (by first | exact trivial | omega) rfl ?_ | refine wm tab_ok rfl rfl rfl rfl rfl rfl rfl ?_ | refine uU tab_ok rfl rfl rfl rfl rfl rfl ?_ | refine uB rfl rfl rfl rfl rfl rfl rfl ?_) | refine uq rfl ?_ | refine r_g rfl rfl rfl ?_)
          repeat refine y8 rfl rfl rfl rfl rfl rfl ?_
          all_goals exact vU tab_ok byO rfl rfl rfl rfl rfl rfl rfl (Sub.agg (by repeat' first | exact trivial | exact Sub.refl _ | exact Sub.nil _ | refine Sub.agg ?_ | apply And.intro)) (Sub.refl _)
        | false =>
          cases x21 with
          | true =>
            rw [show endP ⟨x1, vX, x3, x4, x5, x6, x7, x8, x9, x10, x11, x12, x13, x14, x15, x16, x17, x18, x19, false, true⟩ = (zSd, 2) from if_pos ⟨rfl, rfl⟩]
            repeat (first | refine ue ?_ | refine uc ?_ | refine ud ?_ | refine uk ?_ | refine un ?_ | refine uu ?_ | refine uf ?_ | (refine ug ?_; first | refine uh tab_ok rfl rfl rfl rfl byE rfl ?_ | refine uJ tab_ok rfl rfl rfl rfl rfl ?_ | refine uM tab_ok rfl rfl rfl rfl ?_ | refine uN rfl rfl rfl rfl rfl rfl rfl ?_ | refine uD rfl rfl rfl rfl rfl rfl rfl ?_ | refine uY tab_ok rfl rfl rfl rfl rfl rfl (by first | exact trivial | omega) rfl ?_ | refine wm tab_ok rfl rfl rfl rfl rfl rfl rfl ?_ | refine uU tab_ok rfl rfl rfl rfl rfl rfl ?_ | refine uB rfl rfl rfl rfl rfl rfl rfl ?_) | refine uq rfl ?_ | refine r_g rfl rfl rfl ?_)
            all_goals exact vU tab_ok byO rfl rfl rfl rfl rfl rfl rfl (Sub.agg (by repeat' first | exact trivial | exact Sub.refl _ | exact Sub.nil _ | refine Sub.agg ?_ | apply And.intro)) (Sub.refl _)
          | false =>
            rw [show endP ⟨x1, vX, x3, x4, x5, x6, x7, x8, x9, x10, x11, x12, x13, x14, x15, x16, x17, x18, x19, false, false⟩ = (if yU ⟨x1, vX, x3, x17, x5, x6, x7, x8, x9, x10, x11, x12, x13, x14, x15, x16, x17, x18, x19, false, false⟩ then (⟨x1, vX, x3, x17, x5, x6, x7, x8, x9, x10, x11, x12, x13, x14, x15, x16, x17, x18, x19, false, false⟩, 0) else (zSd, 2) : Sd × Int) from if_neg (fun h => Bool.false_ne_true h.2)]
            repeat (first | refine ue ?_ | refine uc ?_ | refine ud ?_ | refine uf ?_ | (refine ug ?_; first | refine uh tab_ok rfl rfl rfl rfl byE rfl ?_ | refine uJ tab_ok rfl rfl rfl rfl rfl ?_ | refine uM tab_ok rfl rfl rfl rfl ?_ | refine uN rfl rfl rfl rfl rfl rfl rfl ?_ | refine uD rfl rfl rfl rfl rfl rfl rfl ?_ | refine uY tab_ok rfl rfl rfl rfl rfl rfl (by first | exact trivial | omega) rfl ?_ | refine wm tab_ok rfl rfl rfl rfl rfl rfl rfl ?_ | refine uB rfl rfl rfl rfl rfl rfl rfl ?_) | refine ur rfl ?_ | refine r_g rfl rfl rfl ?_)
            refine uw (smay_ok ⟨x1, vX, x3, x17, x5, x6, x7, x8, x9, x10, x11, x12, x13, x14, x15, x16, x17, x18, x19, false, false⟩ s1 s5 s4) call20 rfl rfl ⟨Sub.refl _, trivial⟩ rfl rfl rfl rfl ?_
            cases hm : yU ⟨x1, vX, x3, x17, x5, x6, x7, x8, x9, x10, x11, x12, x13, x14, x15, x16, x17, x18, x19, false, false⟩ with
            | true =>
              rw [if_pos rfl]
              repeat (first | refine ue ?_ | refine uc ?_ | refine ud ?_ | refine uk ?_ | refine uj ?_ | refine uf ?_ | (refine ug ?_; first | refine uh tab_ok rfl rfl rfl rfl byE rfl ?_ | refine uJ tab_ok rfl rfl rfl rfl rfl ?_ | refine uM tab_ok rfl rfl rfl rfl ?_ | refine uB rfl rfl rfl rfl rfl rfl rfl ?_) | refine ur rfl ?_)
              all_goals exact vU tab_ok byO rfl rfl rfl rfl rfl rfl rfl (Sub.refl _) (Sub.refl _)
            | false =>
              rw [if_neg Bool.false_ne_true]
              repeat (first | refine ue ?_ | refine uc ?_ | refine ud ?_ | refine uk ?_ | refine un ?_ | refine uf ?_ | (refine ug ?_; first | refine uh tab_ok rfl rfl rfl rfl byE rfl ?_ | refine uM tab_ok rfl rfl rfl rfl ?_ | refine uU tab_ok rfl rfl rfl rfl rfl rfl ?_) | refine uq rfl ?_)
              all_goals exact vU tab_ok byO rfl rfl rfl rfl rfl rfl rfl (Sub.agg (by repeat' first | exact trivial | exact Sub.refl _ | exact Sub.nil _ | refine Sub.agg ?_ | apply And.intro)) (Sub.refl _)
      · by_cases ha : S.system = wE
        · rw [show endP S = if yU (xk S) then (xk S, 0) else (zSd, 2) from if_neg (fun h => hx h.1), show xk S = { S with symbols := S.sums, weights := S.wts } from if_pos ha]
          refine ud ?_
          refine uh tab_ok rfl rfl rfl rfl trivial rfl ?_
          repeat (first | (refine ug ?_; first | refine uB rfl rfl rfl rfl rfl rfl rfl ?_))
          refine uh tab_ok rfl rfl rfl rfl trivial rfl ?_
          refine uh tab_ok rfl rfl rfl rfl trivial rfl ?_
          repeat (first | (refine ug ?_; first | refine uJ tab_ok rfl rfl rfl rfl rfl ?_))
          refine r_eqs tab_ok rfl rfl rfl rfl (decide_eq_false (show ¬ S.system = ⟨#[101, 120, 116, 101, 110, 100, 115]⟩ from hx)) rfl rfl rfl ?_
          repeat (first | (refine ug ?_; first | refine uh tab_ok rfl rfl rfl rfl byE rfl ?_ | refine va rfl rfl rfl rfl rfl rfl ?_))
          repeat refine y8 rfl rfl rfl rfl rfl rfl ?_
          repeat (first | refine ue ?_ | refine uc ?_ | refine ud ?_ | refine uf ?_ | (refine ug ?_; first | refine uh tab_ok rfl rfl rfl rfl byE rfl ?_ | refine uJ tab_ok rfl rfl rfl rfl rfl ?_ | refine uD rfl rfl rfl rfl rfl rfl rfl ?_ | refine va rfl rfl rfl rfl rfl rfl ?_ | refine uB rfl rfl rfl rfl rfl rfl rfl ?_) | refine ur rfl ?_)
          refine uo rfl (fun _ => ?_) (fun h => absurd ha h)
          refine a_draw3 vM _ [_, _, _, _, _, _, _, _, _] [_, _, _] [_, _, _, _] _ _ [0, 0, 0, 0, 0, 1, 0, 0, 0] [0, 0, 0] [0, 0, 0, 2] 1 2 rfl rfl rfl rfl rfl (by kernel_rfl) ?_
          repeat (first | refine vG ?_ | (refine ug ?_; first | refine uh tab_ok rfl rfl rfl rfl byE rfl ?_ | refine uJ tab_ok rfl rfl rfl rfl rfl ?_ | refine uB rfl rfl rfl rfl rfl rfl rfl ?_))
          refine ⟨?_, ?_⟩
          · repeat (first | refine ue ?_ | refine ud ?_ | refine vG ?_ | (refine ug ?_; first | refine uh tab_ok rfl rfl rfl rfl byE rfl ?_ | refine uJ tab_ok rfl rfl rfl rfl rfl ?_ | refine uM tab_ok rfl rfl rfl rfl ?_ | refine uB rfl rfl rfl rfl rfl rfl rfl ?_))
            refine uw (smay_ok { S with symbols := S.sums, weights := S.wts } s2 s3 s4) call20 rfl rfl ⟨Sub.refl _, trivial⟩ rfl rfl rfl rfl ?_
            cases hm : yU { S with symbols := S.sums, weights := S.wts } with
            | true =>
              rw [if_pos rfl]
              repeat (first | refine ue ?_ | refine uc ?_ | refine ud ?_ | refine uk ?_ | refine uj ?_ | refine uf ?_ | (refine ug ?_; first | refine uh tab_ok rfl rfl rfl rfl byE rfl ?_ | refine uJ tab_ok rfl rfl rfl rfl rfl ?_ | refine uM tab_ok rfl rfl rfl rfl ?_ | refine uB rfl rfl rfl rfl rfl rfl rfl ?_) | refine ur rfl ?_)
              all_goals exact vU tab_ok byO rfl rfl rfl rfl rfl rfl rfl (Sub.refl _) (Sub.refl _)
            | false =>
              rw [if_neg Bool.false_ne_true]
              repeat (first | refine ue ?_ | refine uc ?_ | refine ud ?_ | refine uk ?_ | refine un ?_ | refine uf ?_ | (refine ug ?_; first | refine uh tab_ok rfl rfl rfl rfl byE rfl ?_ | refine uM tab_ok rfl rfl rfl rfl ?_ | refine uU tab_ok rfl rfl rfl rfl rfl rfl ?_) | refine uq rfl ?_)
              all_goals exact vU tab_ok byO rfl rfl rfl rfl rfl rfl rfl (Sub.agg (by repeat' first | exact trivial | exact Sub.refl _ | exact Sub.nil _ | refine Sub.agg ?_ | apply And.intro)) (Sub.refl _)
          · repeat (first | refine ue ?_ | refine ud ?_ | refine vG ?_ | (refine ug ?_; first | refine uh tab_ok rfl rfl rfl rfl byE rfl ?_ | refine uJ tab_ok rfl rfl rfl rfl rfl ?_ | refine uM tab_ok rfl rfl rfl rfl ?_ | refine uB rfl rfl rfl rfl rfl rfl rfl ?_))
            refine uw (smay_ok { S with symbols := S.sums, weights := S.wts } s2 s3 s4) call20 rfl rfl ⟨Sub.refl _, trivial⟩ rfl rfl rfl rfl ?_
            cases hm : yU { S with symbols := S.sums, weights := S.wts } with
            | true =>
              rw [if_pos rfl]
              repeat (first | refine ue ?_ | refine uc ?_ | refine ud ?_ | refine uk ?_ | refine uj ?_ | refine uf ?_ | (refine ug ?_; first | refine uh tab_ok rfl rfl rfl rfl byE rfl ?_ | refine uJ tab_ok rfl rfl rfl rfl rfl ?_ | refine uM tab_ok rfl rfl rfl rfl ?_ | refine uB rfl rfl rfl rfl rfl rfl rfl ?_) | refine ur rfl ?_)
              all_goals exact vU tab_ok byO rfl rfl rfl rfl rfl rfl rfl (Sub.refl _) (Sub.refl _)
            | false =>
              rw [if_neg Bool.false_ne_true]
              repeat (first | refine ue ?_ | refine uc ?_ | refine ud ?_ | refine uk ?_ | refine un ?_ | refine uf ?_ | (refine ug ?_; first | refine uh tab_ok rfl rfl rfl rfl byE rfl ?_ | refine uM tab_ok rfl rfl rfl rfl ?_ | refine uU tab_ok rfl rfl rfl rfl rfl rfl ?_) | refine uq rfl ?_)
              all_goals exact vU tab_ok byO rfl rfl rfl rfl rfl rfl rfl (Sub.agg (by repeat' first | exact trivial | exact Sub.refl _ | exact Sub.nil _ | refine Sub.agg ?_ | apply And.intro)) (Sub.refl _)
        · rw [show endP S = if yU (xk S) then (xk S, 0) else (zSd, 2) from if_neg (fun h => hx h.1), show xk S = { S with symbols := S.syms } from if_neg ha]
          refine ud ?_
          refine uh tab_ok rfl rfl rfl rfl trivial rfl ?_
          repeat (first | (refine ug ?_; first | refine uB rfl rfl rfl rfl rfl rfl rfl ?_))
          refine uh tab_ok rfl rfl rfl rfl trivial rfl ?_
          refine uh tab_ok rfl rfl rfl rfl trivial rfl ?_
          repeat (first | (refine ug ?_; first | refine uJ tab_ok rfl rfl rfl rfl rfl ?_))
          refine r_eqs tab_ok rfl rfl rfl rfl (decide_eq_false (show ¬ S.system = ⟨#[101, 120, 116, 101, 110, 100, 115]⟩ from hx)) rfl rfl rfl ?_
          repeat (first | (refine ug ?_; first | refine uh tab_ok rfl rfl rfl rfl byE rfl ?_ | refine va rfl rfl rfl rfl rfl rfl ?_))
          repeat refine y8 rfl rfl rfl rfl rfl rfl ?_
          repeat (first | refine ue ?_ | refine uc ?_ | refine ud ?_ | refine uf ?_ | (refine ug ?_; first | refine uh tab_ok rfl rfl rfl rfl byE rfl ?_ | refine uJ tab_ok rfl rfl rfl rfl rfl ?_ | refine uD rfl rfl rfl rfl rfl rfl rfl ?_ | refine va rfl rfl rfl rfl rfl rfl ?_ | refine uB rfl rfl rfl rfl rfl rfl rfl ?_) | refine ur rfl ?_)
          refine uo rfl (fun h => absurd h ha) (fun _ => ?_)
          repeat (first | refine ue ?_ | refine ud ?_ | refine uf ?_ | (refine ug ?_; first | refine uh tab_ok rfl rfl rfl rfl byE rfl ?_ | refine uJ tab_ok rfl rfl rfl rfl rfl ?_ | refine uM tab_ok rfl rfl rfl rfl ?_ | refine uB rfl rfl rfl rfl rfl rfl rfl ?_))
          refine uw (smay_ok { S with symbols := S.syms } s1 s5 s4) call20 rfl rfl ⟨Sub.refl _, trivial⟩ rfl rfl rfl rfl ?_
          cases hm : yU { S with symbols := S.syms } with
          | true =>
            rw [if_pos rfl]
            repeat (first | refine ue ?_ | refine uc ?_ | refine ud ?_ | refine uk ?_ | refine uj ?_ | refine uf ?_ | (refine ug ?_; first | refine uh tab_ok rfl rfl rfl rfl byE rfl ?_ | refine uJ tab_ok rfl rfl rfl rfl rfl ?_ | refine uM tab_ok rfl rfl rfl rfl ?_ | refine uB rfl rfl rfl rfl rfl rfl rfl ?_) | refine ur rfl ?_)
            all_goals exact vU tab_ok byO rfl rfl rfl rfl rfl rfl rfl (Sub.refl _) (Sub.refl _)
          | false =>
            rw [if_neg Bool.false_ne_true]
            repeat (first | refine ue ?_ | refine uc ?_ | refine ud ?_ | refine uk ?_ | refine un ?_ | refine uf ?_ | (refine ug ?_; first | refine uh tab_ok rfl rfl rfl rfl byE rfl ?_ | refine uM tab_ok rfl rfl rfl rfl ?_ | refine uU tab_ok rfl rfl rfl rfl rfl rfl ?_) | refine uq rfl ?_)
            all_goals exact vU tab_ok byO rfl rfl rfl rfl rfl rfl rfl (Sub.agg (by repeat' first | exact trivial | exact Sub.refl _ | exact Sub.nil _ | refine Sub.agg ?_ | apply And.intro)) (Sub.refl _)
  · rw [show ki r = (zSd, 1) from if_neg (fun h => hat h.1)]
    have hat2 : ¬ r.at_ = ⟨#[99, 111, 117, 110, 116, 101, 114, 45, 115, 116, 121, 108, 101]⟩ := hat
    repeat (first | refine ue ?_ | refine uc ?_ | refine ud ?_ | refine uf ?_ | (refine ug ?_; first | refine uh tab_ok rfl rfl rfl rfl byE rfl ?_ | refine uJ tab_ok rfl rfl rfl rfl rfl ?_ | refine vp tab_ok rfl rfl rfl rfl rfl ?_ | refine ux tab_ok rfl rfl rfl rfl rfl rfl byC (by first | exact fun _ => trivial | (intro h; simp at h; omega)) rfl ?_ | refine vd tab_ok rfl rfl rfl rfl rfl rfl byC rfl ?_ | refine vI rfl rfl rfl rfl rfl rfl rfl rfl ?_))
    refine uA rfl (fun _ => ?_) (fun hno => ?_)
    · repeat (first | refine ue ?_ | refine uc ?_ | refine ud ?_ | refine uk ?_ | refine un ?_ | refine uf ?_ | (refine ug ?_; first | refine uh tab_ok rfl rfl rfl rfl byE rfl ?_ | refine uM tab_ok rfl rfl rfl rfl ?_ | refine uU tab_ok rfl rfl rfl rfl rfl rfl ?_))
      all_goals exact vU tab_ok byO rfl rfl rfl rfl rfl rfl rfl (Sub.agg (by repeat' first | exact trivial | exact Sub.refl _ | exact Sub.nil _ | refine Sub.agg ?_ | apply And.intro)) (Sub.refl _)
    · exfalso
      simp [hat2] at hno
end Go.Proofs.YtfmafehogfikmaaGreatDoor
