/- The reference's state.additive; walked. -/
import Derived.Test.YtfmafehogfikmaaGreatDoorp4
import Derived.Test.YtfmafehogfikmaaGreatDoorI7
namespace Go.Proofs.YtfmafehogfikmaaGreatDoor
open Go Go.RowKit
set_option maxRecDepth 20000

structure SuR (ps : List (List Nd)) where
  i : Nat
  ss : List ByteArray
  ws : List Int
  hi : i ≤ ps.length
  ha : ss.length ≤ i
  hb : ws.length = i
  eq : zv ((ps.drop i).map vc) ss ws = zv (ps.map vc) [] []
set_option maxHeartbeats 8000000 in
theorem radditive_ok (S0 : Sd) (v : List Nd) (hs : u4 v < 1099511627776) (ht : ∀ n ∈ v, n.tok.text.size ≤ 1099511627776) : u3 Tryz.prog 55 [rsB S0] [.ptr 0 0, .sl 7 (v.map nF)] [rsB (zH S0 (vc v)).1] (.tup []) := by
  have hl : v.length ≤ 1099511627776 := by have := u7 v; omega
  obtain ⟨hpb, hpt⟩ := parts_ok v hs ht
  refine vu Tryz.func55 Tryz.ntmps55 rfl rfl rfl fun S w β => ?_
  rw [zH, split_tig]
  repeat (first | refine ue ?_ | refine ud ?_ | refine uf ?_ | (refine ug ?_; first | refine uh tab_ok rfl rfl rfl rfl byE rfl ?_))
  refine uw (rsplit_ok v hl) call78 rfl rfl ⟨Sub.refl _, trivial⟩ rfl rfl rfl rfl ?_
  obtain ⟨ps, hps⟩ : ∃ ps, ps = vO v := ⟨_, rfl⟩
  rw [← hps] at hpb hpt ⊢
  have hpm : (ps.map nds).length = ps.length := List.length_map _
  clear hps
  repeat (first | refine ue ?_ | refine uc ?_ | refine um ?_ | refine ud ?_ | refine uf ?_ | (refine ug ?_; first | refine uh tab_ok rfl rfl rfl rfl byE rfl ?_))
  refine uV (σ := SuR ps) (fun x => [rsB S0, .row 0 9 1 (x.ss.map sF), .row 0 3 1 (x.ws.map wtD)]) (fun x => [(0, .ptr 0 0), (4, .row 1 0), (5, .row 2 0), (6, .sl 1 (ps.map nds)), (7, .val (.int .i64 x.i))]) (fun x => ps.length - x.i) ⟨0, [], [], Nat.zero_le _, Nat.le_refl _, rfl, rfl⟩ (ul byV byV ⟨trivial, trivial⟩) ?_
  rintro ⟨i, ss, ws, hi, ha, hb, heq⟩
  dsimp only
  rw [← heq]
  have hal : (ss.map sF).length = ss.length := List.length_map _
  have hbl : (ws.map wtD).length = ws.length := List.length_map _
  repeat (first | refine ue ?_ | refine uc ?_ | refine ud ?_ | refine uf ?_ | (refine ug ?_; first | refine uG tab_ok rfl rfl rfl rfl rfl rfl rfl ?_ | refine uh tab_ok rfl rfl rfl rfl byE rfl ?_))
  refine uo rfl (fun hlt => ?_) (fun hge => ?_)
  · have hi' : i < ps.length := by omega
    have hin : ((i : Nat) : Int).toNat < ps.length := by simp only [Int.toNat_natCast]; exact hi'
    have hdr : ps.drop i = ps[i] :: ps.drop (i + 1) := List.drop_eq_getElem_cons hi'
    have hpi := hpt ps[i] (List.getElem_mem hi')
    rw [hdr, List.map_cons] at heq ⊢
    repeat (first | refine ue ?_ | refine um ?_ | refine ud ?_ | refine uj ?_ | (refine ug ?_; first | refine uh tab_ok rfl rfl rfl rfl byE rfl ?_ | refine vf tab_ok rfl rfl rfl rfl rfl rfl rfl (by first | exact ⟨by omega, by omega⟩ | (simp; omega)) rfl rfl ?_))
    obtain ⟨p, hp⟩ : ∃ p, p = ps[((i : Nat) : Int).toNat]'hin := ⟨_, rfl⟩
    rw [← hp]
    have hp2 : ps[i] = p := by rw [hp]; simp only [Int.toNat_natCast]
    rw [hp2] at hpi heq ⊢
    clear hp hp2 hdr
    refine uw (wD p hpi.1) zc rfl rfl ⟨Sub.refl _, trivial⟩ rfl rfl rfl rfl ?_
    have hql : (vc p).length ≤ 1099511627776 := Nat.le_trans (wF p) hpi.1
    generalize vc p = q at hql heq ⊢
    rw [zv] at heq ⊢
    refine uw (rpair_ok q hql) call54 rfl rfl ⟨Sub.refl _, trivial⟩ rfl rfl rfl rfl ?_
    obtain ⟨hP1, hP2⟩ := parR_at q
    rw [hP1]
    cases hA : (wO q).2 with
    | false =>
      rw [Bool.false_and, if_neg Bool.false_ne_true]
      repeat (first | refine ue ?_ | refine uc ?_ | refine ud ?_ | refine uk ?_ | refine un ?_ | refine uu ?_ | refine uf ?_ | (refine ug ?_; first | refine uh tab_ok rfl rfl rfl rfl byE rfl ?_ | refine uN rfl rfl rfl rfl rfl rfl rfl ?_ | refine va rfl rfl rfl rfl rfl rfl ?_) | refine uq rfl ?_ | refine y8 rfl rfl rfl rfl rfl rfl ?_)
      exact vL [rsB S0, .gone, .gone] [] (ul byV byV ⟨trivial, trivial⟩) byO rfl rfl rfl
    | true =>
      rw [hP2 hA]
      rw [hA] at heq
      rw [Bool.true_and] at heq ⊢
      generalize (wO q).1.1 = x at heq ⊢
      generalize (wO q).1.2 = sg at heq ⊢
      rcases List.eq_nil_or_concat ws with hws | ⟨w1, y, hws⟩
      · have h00 : ¬ (0 : Int) < (i : Int) := by rw [← hb, hws]; decide
        have e : okW ws x = true := by rw [hws]; rfl
        rw [e, if_pos rfl] at heq ⊢
        repeat (first | refine ue ?_ | refine uc ?_ | refine ud ?_ | refine uj ?_ | refine uf ?_ | (refine ug ?_; first | refine uh tab_ok rfl rfl rfl rfl byE rfl ?_ | refine uD rfl rfl rfl rfl rfl rfl rfl ?_ | refine uY tab_ok rfl rfl rfl rfl rfl rfl (by first | exact trivial | omega) rfl ?_ | refine u9 tab_ok rfl rfl rfl rfl rfl rfl rfl rfl rfl ?_ | refine u6 tab_ok rfl rfl rfl rfl rfl rfl rfl rfl rfl (by first | omega | (simp; omega)) rfl ?_) | refine ur rfl ?_ | refine r_g rfl rfl rfl ?_ | refine uD rfl rfl (congrArg (fun b => AV.val (.bool b)) (decide_eq_false (by omega))) rfl rfl rfl rfl ?_ | refine va rfl rfl (congrArg (fun b => AV.val (.bool b)) (decide_eq_false (by omega))) rfl rfl rfl ?_)
        refine ⟨⟨i + 1, ss ++ [sg], ws ++ [x], hi', by simp; omega, by rw [List.length_append, List.length_singleton]; omega, heq⟩, by dsimp only; omega, ?_⟩
        dsimp only
        rw [show (ss ++ [sg]).map sF = ss.map sF ++ [sF sg] from List.map_append, show (ws ++ [x]).map wtD = ws.map wtD ++ [wtD x] from List.map_append]
        exact ul byV byV ⟨trivial, trivial⟩
      · rw [List.concat_eq_append] at hws
        subst hws
        have hlw : (w1 ++ [y]).length = w1.length + 1 := by simp
        have e : okW (w1 ++ [y]) x = decide (x < y) := by simp [okW]
        rw [e] at heq ⊢
        have hpos : (0 : Int) < (i : Int) := by omega
        have ei : (((i : Nat) : Int) - 1).toNat = w1.length := by omega
        have hv : ∀ h, (w1 ++ [y])[(((i : Nat) : Int) - 1).toNat]'h = y := fun h => by simp only [ei]; simp
        repeat (first | refine ue ?_ | refine uc ?_ | refine ud ?_ | refine uf ?_ | (refine ug ?_; first | refine uh tab_ok rfl rfl rfl rfl byE rfl ?_ | refine uD rfl rfl rfl rfl rfl rfl rfl ?_ | refine uY tab_ok rfl rfl rfl rfl rfl rfl (by first | exact trivial | omega) rfl ?_ | refine w5 tab_ok rfl rfl rfl rfl rfl rfl rfl rfl (by first | exact ⟨by omega, by omega⟩ | (simp; omega)) rfl ?_ | refine qb tab_ok rfl rfl rfl rfl rfl (by omega) rfl rfl rfl rfl ?_) | refine r_g rfl rfl rfl ?_ | refine r_g rfl rfl (congrArg (fun b => AV.val (.bool b)) (decide_eq_true (by omega))) ?_ | refine uN rfl rfl (congrArg (fun b => AV.val (.bool b)) (decide_eq_true (by omega))) rfl rfl rfl rfl ?_)
        simp only [hv]
        by_cases hxy : x < y
        · rw [decide_eq_true hxy, if_pos rfl] at heq ⊢
          refine uo rfl (fun h => absurd h (by omega)) (fun _ => ?_)
          repeat (first | refine uc ?_ | refine ud ?_ | refine uj ?_ | refine uf ?_ | (refine ug ?_; first | refine uh tab_ok rfl rfl rfl rfl byE rfl ?_ | refine u9 tab_ok rfl rfl rfl rfl rfl rfl rfl rfl rfl ?_ | refine u6 tab_ok rfl rfl rfl rfl rfl rfl rfl rfl rfl (by first | omega | (simp; omega)) rfl ?_))
          refine ⟨⟨i + 1, ss ++ [sg], (w1 ++ [y]) ++ [x], hi', by simp; omega, by rw [List.length_append, List.length_singleton]; omega, heq⟩, by dsimp only; omega, ?_⟩
          dsimp only
          rw [show (ss ++ [sg]).map sF = ss.map sF ++ [sF sg] from List.map_append, show ((w1 ++ [y]) ++ [x]).map wtD = (w1 ++ [y]).map wtD ++ [wtD x] from List.map_append]
          exact ul byV byV ⟨trivial, trivial⟩
        · rw [decide_eq_false hxy, if_neg Bool.false_ne_true]
          refine uo rfl (fun _ => ?_) (fun h => absurd (by omega) h)
          repeat (first | refine uk ?_ | refine un ?_ | refine uu ?_)
          exact vL [rsB S0, .gone, .gone] [] (ul byV byV ⟨trivial, trivial⟩) byO rfl rfl rfl
  · obtain rfl : i = ps.length := by omega
    rw [List.drop_length, List.map_nil, zv]
    repeat (first | refine uc ?_ | refine uC ?_ | refine vg ?_ | refine vi rfl ?_)
    refine ve (s' := ⟨[rsB S0, .gone, .gone], [(0, .ptr 0 0), (4, .sl 1 (ss.map sF)), (5, .sl 1 (ws.map wtD))]⟩) (ul byV ⟨wS rfl rfl rfl rfl, yL rfl rfl rfl, yL rfl rfl rfl, trivial⟩ ⟨trivial, trivial⟩) ?_
    repeat (first | refine ud ?_ | refine uf ?_ | (refine ug ?_; first | refine uh tab_ok rfl rfl rfl rfl byE rfl ?_ | refine uM tab_ok rfl rfl rfl rfl ?_ | refine uB rfl rfl rfl rfl rfl rfl rfl ?_))
    exact vL [rsB { S0 with sums := ss, wts := ws, additive := true }, .gone, .gone] [] (ul byV byV ⟨trivial, trivial⟩) byO rfl rfl rfl
end Go.Proofs.YtfmafehogfikmaaGreatDoor
