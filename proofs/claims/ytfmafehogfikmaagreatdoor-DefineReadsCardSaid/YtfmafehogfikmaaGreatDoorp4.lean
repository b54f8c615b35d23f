import Derived.Test.YtfmafehogfikmaaGreatDoorp6
import Derived.Test.YtfmafehogfikmaaGreatDoorI4
/- The reference's state.system; walked. -/
namespace Go.Proofs.YtfmafehogfikmaaGreatDoor
open Go Go.RowKit
set_option maxRecDepth 20000

theorem vL {cx : Cx} {P : Program} {fn : Func} {n : Nat} {e : Exit} {M M1 : List AB} {F : List (Nat × AV)} (M' : List AB) (F' : List (Nat × AV)) (hfits : Fits cx ⟨M, F⟩ ⟨M', F'⟩) (he : e = .normal ∨ e = .ret) (hr : fn.results.toList = [])
    (hM : M'.take n = M1) (hu : M1.all (AB.under n) = true) : retF cx P fn n M1 (.tup []) e ⟨M, F⟩ := ⟨_, hfits, retM0 he hr hM hu⟩
def rsB (S : Sd) : AB := .box 69 [.val (.string S.name), .val (.string S.system), .val (.int .i64 S.first), .sl 1 (S.symbols.map sF), .sl 1 (S.weights.map wtD), .val (.string S.neg1), .val (.string S.neg2), .val (.string S.pre), .val (.string S.suf), .val (.bool S.auto), .sl 2 (S.range.map rgD), .val (.int .i64 S.pad), .val (.string S.padSign), .val (.string S.fall), .val (.string S.ext), .val (.int .i64 (S.said : Nat)), .sl 1 (S.syms.map sF), .sl 1 (S.sums.map sF), .sl 1 (S.wts.map wtD)]
theorem pla_at (w : ByteArray) : xq plaN w = (decide (w = (⟨#[99, 121, 99, 108, 105, 99]⟩ : ByteArray)) || decide (w = (⟨#[110, 117, 109, 101, 114, 105, 99]⟩ : ByteArray)) || decide (w = (⟨#[97, 108, 112, 104, 97, 98, 101, 116, 105, 99]⟩ : ByteArray)) || decide (w = (⟨#[115, 121, 109, 98, 111, 108, 105, 99]⟩ : ByteArray)) || decide (w = (⟨#[97, 100, 100, 105, 116, 105, 118, 101]⟩ : ByteArray)) || decide (w = (⟨#[102, 105, 120, 101, 100]⟩ : ByteArray))) := by
  have h : yZ plaN = [⟨#[99, 121, 99, 108, 105, 99]⟩, ⟨#[110, 117, 109, 101, 114, 105, 99]⟩, ⟨#[97, 108, 112, 104, 97, 98, 101, 116, 105, 99]⟩, ⟨#[115, 121, 109, 98, 111, 108, 105, 99]⟩, ⟨#[97, 100, 100, 105, 116, 105, 118, 101]⟩, ⟨#[102, 105, 120, 101, 100]⟩] := by kernel_rfl
  rw [xq, h]
  simp only [List.any_cons, List.any_nil, Bool.or_false, Bool.or_assoc]
set_option maxHeartbeats 8000000 in
theorem rsystem_ok (S0 : Sd) (l : List Nd) (hl : u4 l < 1099511627776) (ht : ∀ n ∈ l, n.tok.text.size ≤ 1099511627776) : u3 Tryz.prog 52 [rsB S0] [.ptr 0 0, .sl 7 (l.map nF)] [rsB (zP S0 l).1] (.tup []) := by
  have hlm : (l.map nF).length = l.length := List.length_map _
  have hll := u7 l
  refine vu Tryz.func52 Tryz.ntmps52 rfl rfl rfl fun S w β => ?_
  match l, hl, ht, hlm, hll with
  | [], _, _, _, _ =>
    repeat (first | refine ue ?_ | refine uc ?_ | refine ud ?_ | refine uk ?_ | refine un ?_ | refine uf ?_ | (refine ug ?_; first | refine uG tab_ok rfl rfl rfl rfl rfl rfl rfl ?_ | refine uh tab_ok rfl rfl rfl rfl byE rfl ?_ | refine uN rfl rfl rfl rfl rfl rfl rfl ?_ | refine va rfl rfl rfl rfl rfl rfl ?_) | refine uq rfl ?_)
    all_goals exact vL [rsB S0] [] (ul byV byV ⟨trivial, trivial⟩) byO rfl rfl rfl
  | a :: b :: c :: r, hl, ht, hlm, hll =>
    have hne : (2 : Int) < (((a :: b :: c :: r).length : Nat) : Int) := by simp only [List.length_cons]; omega
    repeat (first | refine ue ?_ | refine uc ?_ | refine ud ?_ | refine uk ?_ | refine un ?_ | refine uf ?_ | (refine ug ?_; first | refine uG tab_ok rfl rfl rfl rfl rfl rfl rfl ?_ | refine uh tab_ok rfl rfl rfl rfl byE rfl ?_ | refine uD rfl rfl rfl rfl rfl rfl rfl ?_ | refine v6 tab_ok rfl rfl rfl rfl rfl rfl rfl rfl rfl ?_ | refine uY tab_ok rfl rfl rfl rfl rfl rfl (by first | exact trivial | omega) rfl ?_) | refine uq rfl ?_ | refine uN rfl rfl (congrArg (fun b => AV.val (.bool b)) (decide_eq_true (by omega))) rfl rfl rfl rfl ?_ | refine va rfl rfl (congrArg (fun b => AV.val (.bool b)) (decide_eq_true (by omega))) rfl rfl rfl ?_)
    all_goals exact vL [rsB S0] [] (ul byV byV ⟨trivial, trivial⟩) byO rfl rfl rfl
  | [n], hl, ht, hlm, hll =>
    have hp := wI n.tok.text (by have := ht n (by simp); omega)
    by_cases hk : n.tok.kind = 1
    · rw [show zP S0 [n] = (if xq plaN (vk n.tok.text) then ({ S0 with system := vk n.tok.text, first := 1, ext := ⟨#[]⟩ }, true) else (S0, false)) from if_pos hk, pla_at]
      have hk2 : ([n][Int.toNat 0]'(Nat.succ_pos _)).tok.kind = 1 := hk
      repeat (first | refine ue ?_ | refine uc ?_ | refine ud ?_ | refine uf ?_ | (refine ug ?_; first | refine uG tab_ok rfl rfl rfl rfl rfl rfl rfl ?_ | refine uh tab_ok rfl rfl rfl rfl byE rfl ?_ | refine vl tab_ok rfl rfl rfl rfl rfl rfl rfl (by decide) rfl rfl rfl ?_ | refine uD rfl rfl rfl rfl rfl rfl rfl ?_ | refine v6 tab_ok rfl rfl rfl rfl rfl rfl rfl rfl rfl ?_ | refine uY tab_ok rfl rfl rfl rfl rfl rfl (by first | exact trivial | omega) rfl ?_) | refine r_g rfl rfl rfl ?_)
      refine vz rfl (fun h => absurd hk2 h) (fun _ => ?_)
      repeat (first | refine ue ?_ | refine ud ?_ | refine uj ?_ | (refine ug ?_; first | refine uh tab_ok rfl rfl rfl rfl byE rfl ?_ | refine vl tab_ok rfl rfl rfl rfl rfl rfl rfl (by decide) rfl rfl rfl ?_))
      refine uw hp yq rfl rfl ⟨Sub.refl _, trivial⟩ rfl rfl rfl rfl ?_
      generalize vk n.tok.text = w
      repeat (first | refine ue ?_ | refine uc ?_ | refine um ?_ | refine ud ?_ | refine uf ?_ | (refine ug ?_; first | refine uG tab_ok rfl rfl rfl rfl rfl rfl rfl ?_ | refine uh tab_ok rfl rfl rfl rfl byE rfl ?_ | refine ux tab_ok rfl rfl rfl rfl rfl rfl byC (by first | exact fun _ => trivial | (intro h; simp at h; omega)) rfl ?_ | refine wJ rfl rfl rfl rfl rfl rfl rfl rfl rfl rfl ?_ | refine vm rfl rfl rfl rfl rfl rfl rfl rfl ?_))
      refine uA rfl (fun h => ?_) (fun h => ?_)
      · rw [if_pos (by simpa using h)]
        repeat (first | refine ud ?_ | refine ut ?_ | refine uf ?_ | (refine ug ?_; first | refine uh tab_ok rfl rfl rfl rfl byE rfl ?_ | refine uM tab_ok rfl rfl rfl rfl ?_ | refine uB rfl rfl rfl rfl rfl rfl rfl ?_))
        all_goals exact vL [rsB { S0 with system := w, first := 1, ext := ⟨#[]⟩ }] [] (ul byV byV ⟨trivial, trivial⟩) byO rfl rfl rfl
      · rw [if_neg (by simpa using h)]
        repeat (first | refine ue ?_ | refine uc ?_ | refine ud ?_ | refine ut ?_ | refine uj ?_ | refine uf ?_ | (refine ug ?_; first | refine uG tab_ok rfl rfl rfl rfl rfl rfl rfl ?_ | refine uh tab_ok rfl rfl rfl rfl byE rfl ?_ | refine uD rfl rfl rfl rfl rfl rfl rfl ?_ | refine va rfl rfl rfl rfl rfl rfl ?_) | refine ur rfl ?_)
        all_goals exact vL [rsB S0] [] (ul byV byV ⟨trivial, trivial⟩) byO rfl rfl rfl
    · rw [show zP S0 [n] = (S0, false) from if_neg hk]
      have hk2 : ¬ ([n][Int.toNat 0]'(Nat.succ_pos _)).tok.kind = 1 := hk
      repeat (first | refine ue ?_ | refine uc ?_ | refine ud ?_ | refine uf ?_ | (refine ug ?_; first | refine uG tab_ok rfl rfl rfl rfl rfl rfl rfl ?_ | refine uh tab_ok rfl rfl rfl rfl byE rfl ?_ | refine vl tab_ok rfl rfl rfl rfl rfl rfl rfl (by decide) rfl rfl rfl ?_ | refine uD rfl rfl rfl rfl rfl rfl rfl ?_ | refine v6 tab_ok rfl rfl rfl rfl rfl rfl rfl rfl rfl ?_ | refine uY tab_ok rfl rfl rfl rfl rfl rfl (by first | exact trivial | omega) rfl ?_) | refine r_g rfl rfl rfl ?_)
      refine vz rfl (fun _ => ?_) (fun h => absurd h hk2)
      repeat (first | refine uk ?_ | refine un ?_)
      all_goals exact vL [rsB S0] [] (ul byV byV ⟨trivial, trivial⟩) byO rfl rfl rfl
  | [n, m], hl, ht, hlm, hll =>
    have hp := wI n.tok.text (by have := ht n (by simp); omega)
    by_cases hk : n.tok.kind = 1
    · rw [show zP S0 [n, m] = qG (vk n.tok.text) m S0 from if_pos hk]
      have hk2 : ([n, m][Int.toNat 0]'(Nat.succ_pos _)).tok.kind = 1 := hk
      repeat (first | refine ue ?_ | refine uc ?_ | refine ud ?_ | refine uf ?_ | (refine ug ?_; first | refine uG tab_ok rfl rfl rfl rfl rfl rfl rfl ?_ | refine uh tab_ok rfl rfl rfl rfl byE rfl ?_ | refine vl tab_ok rfl rfl rfl rfl rfl rfl rfl (by decide) rfl rfl rfl ?_ | refine uD rfl rfl rfl rfl rfl rfl rfl ?_ | refine v6 tab_ok rfl rfl rfl rfl rfl rfl rfl rfl rfl ?_ | refine uY tab_ok rfl rfl rfl rfl rfl rfl (by first | exact trivial | omega) rfl ?_) | refine r_g rfl rfl rfl ?_)
      refine vz rfl (fun h => absurd hk2 h) (fun _ => ?_)
      repeat (first | refine ue ?_ | refine ud ?_ | refine uj ?_ | (refine ug ?_; first | refine uh tab_ok rfl rfl rfl rfl byE rfl ?_ | refine vl tab_ok rfl rfl rfl rfl rfl rfl rfl (by decide) rfl rfl rfl ?_))
      refine uw hp yq rfl rfl ⟨Sub.refl _, trivial⟩ rfl rfl rfl rfl ?_
      generalize vk n.tok.text = first
      by_cases hf : first = fxdS
      · rw [show qG first m S0 = (if (xe m).2 then ({ S0 with system := first, first := (xe m).1, ext := ⟨#[]⟩ }, true) else (S0, false)) from if_pos hf]
        subst hf
        repeat (first | refine ue ?_ | refine uc ?_ | refine um ?_ | refine ud ?_ | refine uf ?_ | (refine ug ?_; first | refine uG tab_ok rfl rfl rfl rfl rfl rfl rfl ?_ | refine uh tab_ok rfl rfl rfl rfl byE rfl ?_ | refine vl tab_ok rfl rfl rfl rfl rfl rfl rfl (by decide) rfl rfl rfl ?_ | refine uN rfl rfl rfl rfl rfl rfl rfl ?_ | refine uD rfl rfl rfl rfl rfl rfl rfl ?_ | refine va rfl rfl rfl rfl rfl rfl ?_ | refine uY tab_ok rfl rfl rfl rfl rfl rfl (by first | exact trivial | omega) rfl ?_) | refine uq rfl ?_ | refine ur rfl ?_ | refine y8 rfl rfl rfl rfl rfl rfl ?_)
        refine uw (kD m) call77 rfl rfl ⟨Sub.refl _, trivial⟩ rfl rfl rfl rfl ?_
        rw [whoR_2]
        cases hb : (xe m).2 with
        | true =>
          rw [if_pos rfl, whoR_1 hb]
          repeat (first | refine ue ?_ | refine uc ?_ | refine ud ?_ | refine ut ?_ | refine uf ?_ | (refine ug ?_; first | refine uh tab_ok rfl rfl rfl rfl byE rfl ?_ | refine uM tab_ok rfl rfl rfl rfl ?_ | refine uB rfl rfl rfl rfl rfl rfl rfl ?_) | refine uq rfl ?_)
          all_goals exact vL [rsB { S0 with system := fxdS, first := (xe m).1, ext := ⟨#[]⟩ }] [] (ul byV byV ⟨trivial, trivial⟩) byO rfl rfl rfl
        | false =>
          rw [if_neg Bool.false_ne_true]
          repeat (first | refine ue ?_ | refine uc ?_ | refine ud ?_ | refine ut ?_ | refine uj ?_ | refine uf ?_ | (refine ug ?_; first | refine uh tab_ok rfl rfl rfl rfl byE rfl ?_) | refine ur rfl ?_)
          all_goals exact vL [rsB S0] [] (ul byV byV ⟨trivial, trivial⟩) byO rfl rfl rfl
      by_cases hf2 : first = extS
      · rw [show qG first m S0 = (if (nmF [m]).2 then ({ S0 with system := first, first := 1, ext := (nmF [m]).1 }, true) else (S0, false)) from (if_neg hf).trans (if_pos hf2)]
        subst hf2
        repeat (first | refine ue ?_ | refine uc ?_ | refine um ?_ | refine ud ?_ | refine uf ?_ | (refine ug ?_; first | refine uG tab_ok rfl rfl rfl rfl rfl rfl rfl ?_ | refine uh tab_ok rfl rfl rfl rfl byE rfl ?_ | refine uN rfl rfl rfl rfl rfl rfl rfl ?_ | refine uD rfl rfl rfl rfl rfl rfl rfl ?_ | refine va rfl rfl rfl rfl rfl rfl ?_ | refine uY tab_ok rfl rfl rfl rfl rfl rfl (by first | exact trivial | omega) rfl ?_) | refine uq rfl ?_ | refine ur rfl ?_ | refine y8 rfl rfl rfl rfl rfl rfl ?_)
        refine xj tab_ok rfl rfl rfl rfl rfl rfl rfl rfl (by simp) rfl ?_
        refine uw (rname_ok [m] (by simp) (fun x hx => ht x (by simp at hx ⊢; exact .inr hx))) call12 rfl rfl ⟨Sub.refl _, trivial⟩ rfl rfl rfl rfl ?_
        cases hb : (nmF [m]).2 with
        | true =>
          rw [if_pos rfl]
          repeat (first | refine ue ?_ | refine uc ?_ | refine ud ?_ | refine ut ?_ | refine uf ?_ | (refine ug ?_; first | refine uh tab_ok rfl rfl rfl rfl byE rfl ?_ | refine uM tab_ok rfl rfl rfl rfl ?_ | refine uB rfl rfl rfl rfl rfl rfl rfl ?_) | refine uq rfl ?_)
          all_goals exact vL [rsB { S0 with system := extS, first := 1, ext := (nmF [m]).1 }] [] (ul byV byV ⟨trivial, trivial⟩) byO rfl rfl rfl
        | false =>
          rw [if_neg Bool.false_ne_true]
          repeat (first | refine ue ?_ | refine uc ?_ | refine ud ?_ | refine ut ?_ | refine uj ?_ | refine uf ?_ | (refine ug ?_; first | refine uh tab_ok rfl rfl rfl rfl byE rfl ?_) | refine ur rfl ?_)
          all_goals exact vL [rsB S0] [] (ul byV byV ⟨trivial, trivial⟩) byO rfl rfl rfl
      · rw [show qG first m S0 = (S0, false) from (if_neg hf).trans (if_neg hf2)]
        repeat (first | refine ue ?_ | refine uc ?_ | refine um ?_ | refine ud ?_ | refine uf ?_ | (refine ug ?_; first | refine uG tab_ok rfl rfl rfl rfl rfl rfl rfl ?_ | refine uh tab_ok rfl rfl rfl rfl byE rfl ?_ | refine uN rfl rfl rfl rfl rfl rfl rfl ?_ | refine uD rfl rfl rfl rfl rfl rfl rfl ?_ | refine va rfl rfl rfl rfl rfl rfl ?_ | refine uY tab_ok rfl rfl rfl rfl rfl rfl (by first | exact trivial | omega) rfl ?_) | refine ur rfl ?_ | refine y8 rfl rfl rfl rfl rfl rfl ?_)
        refine uo rfl (fun h => absurd h hf) (fun _ => ?_)
        repeat (first | refine ue ?_ | refine uc ?_ | refine ud ?_ | refine uf ?_ | (refine ug ?_; first | refine uG tab_ok rfl rfl rfl rfl rfl rfl rfl ?_ | refine uh tab_ok rfl rfl rfl rfl byE rfl ?_ | refine uN rfl rfl rfl rfl rfl rfl rfl ?_ | refine uY tab_ok rfl rfl rfl rfl rfl rfl (by first | exact trivial | omega) rfl ?_))
        refine uo rfl (fun h => absurd h hf2) (fun _ => ?_)
        repeat (first | refine ut ?_ | refine uj ?_)
        all_goals exact vL [rsB S0] [] (ul byV byV ⟨trivial, trivial⟩) byO rfl rfl rfl
    · rw [show zP S0 [n, m] = (S0, false) from if_neg hk]
      have hk2 : ¬ ([n, m][Int.toNat 0]'(Nat.succ_pos _)).tok.kind = 1 := hk
      repeat (first | refine ue ?_ | refine uc ?_ | refine ud ?_ | refine uf ?_ | (refine ug ?_; first | refine uG tab_ok rfl rfl rfl rfl rfl rfl rfl ?_ | refine uh tab_ok rfl rfl rfl rfl byE rfl ?_ | refine vl tab_ok rfl rfl rfl rfl rfl rfl rfl (by decide) rfl rfl rfl ?_ | refine uD rfl rfl rfl rfl rfl rfl rfl ?_ | refine v6 tab_ok rfl rfl rfl rfl rfl rfl rfl rfl rfl ?_ | refine uY tab_ok rfl rfl rfl rfl rfl rfl (by first | exact trivial | omega) rfl ?_) | refine r_g rfl rfl rfl ?_)
      refine vz rfl (fun _ => ?_) (fun h => absurd h hk2)
      repeat (first | refine uk ?_ | refine un ?_)
      all_goals exact vL [rsB S0] [] (ul byV byV ⟨trivial, trivial⟩) byO rfl rfl rfl
end Go.Proofs.YtfmafehogfikmaaGreatDoor

/- The reference's state.ranges and state.additive; walked. -/
namespace Go.Proofs.YtfmafehogfikmaaGreatDoor
open Go Go.RowKit
set_option maxRecDepth 20000

theorem z6 (n : Nd) (r : List Nd) : vc (n :: r) = if whN n then vc r else n :: vc r := by
  rw [vc, vc, List.filter_cons]
  cases whN n <;> rfl
theorem tig_app (l m : List Nd) : vc (l ++ m) = vc l ++ vc m := List.filter_append _ _
theorem cm_nw {n : Nd} (h : cmB n = true) : whN n = false := by
  have h1 : n.tok.kind = 18 := of_decide_eq_true h
  rw [whN, decide_eq_false (by omega)]
theorem split_tig1 : ∀ (l : List Nd) (pre : List (List Nd)) (cur : List Nd), wP (vc l) (pre.map vc) (vc cur) = (wP l pre cur).map vc
  | [], pre, cur => by rw [show vc [] = [] from rfl, wP, wP, List.map_append]; rfl
  | n :: r, pre, cur => by
    rw [z6, wP]
    by_cases hc : cmB n = true
    · rw [cm_nw hc, if_neg Bool.false_ne_true, wP, if_pos hc, if_pos hc, ← split_tig1 r (pre ++ [cur]) [], List.map_append]; rfl
    · rw [if_neg hc, ← split_tig1 r pre (cur ++ [n]), tig_app, z6]
      cases whN n with
      | true => rw [if_pos rfl, if_pos rfl, show vc [] = [] from rfl, List.append_nil]
      | false => rw [if_neg Bool.false_ne_true, if_neg Bool.false_ne_true, wP, if_neg hc]; rfl
theorem split_tig (l : List Nd) : vO (vc l) = (vO l).map vc := split_tig1 l [] []
theorem awp_cutr {cx : Cx} {s : AS} {Q : Exit → AS → Prop} (s' : AS) {c b : Code} (h1 : AWp cx c s (fun e s'' => (e = .normal ∧ Fits cx s'' s') ∨ (e = .ret ∧ Q .ret s''))) (h2 : AWp cx b s' Q) : AWp cx c s (qQ (fun s'' => AWp cx b s'' Q) Q) :=
  ks h1 fun e s'' h => by
    rcases h with ⟨rfl, h⟩ | ⟨rfl, h⟩
    · exact uc (ve h h2)
    · exact h
structure RgR (ps : List (List Nd)) where
  i : Nat
  acc : List (Int × Int)
  hi : i ≤ ps.length
  ha : acc.length ≤ i
  eq : xN ((ps.drop i).map vc) acc = xN (ps.map vc) []
theorem parts_ok (v : List Nd) (hs : u4 v < 1099511627776) (ht : ∀ n ∈ v, n.tok.text.size ≤ 1099511627776) : (vO v).length ≤ 1099511627776 ∧ ∀ p ∈ vO v, p.length ≤ 1099511627776 ∧ ∀ n ∈ p, n.tok.text.size ≤ 1099511627776 := by
  have hll := u7 v
  refine ⟨?_, fun p hp => ⟨?_, fun n hn => ht n ((zo hp).2 n hn)⟩⟩
  · rw [vO, w4]
    have := List.countP_le_length (p := cmB) (l := v)
    simp only [List.length_nil]
    omega
  · have := (zo hp).1
    have := u7 p
    omega
set_option maxHeartbeats 8000000 in
theorem rranges_ok (S0 : Sd) (v : List Nd) (hs : u4 v < 1099511627776) (ht : ∀ n ∈ v, n.tok.text.size ≤ 1099511627776) (hS : S0.said < 1000) : u3 Tryz.prog 53 [rsB S0] [.ptr 0 0, .sl 7 (v.map nF), .sl 7 ((vc v).map nF)] [rsB (zy S0 (vc v)).1] (.tup []) := by
  have hl : v.length ≤ 1099511627776 := by have := u7 v; omega
  obtain ⟨hpb, hpt⟩ := parts_ok v hs ht
  have htt : ∀ n ∈ vc v, n.tok.text.size ≤ 1099511627776 := fun n hn => ht n (w9 hn)
  have htl : (vc v).length ≤ 1099511627776 := Nat.le_trans (wF v) hl
  refine vu Tryz.func53 Tryz.ntmps53 rfl rfl rfl fun S w β => ?_
  cases hA : isAut (vc v) with
  | true =>
    rw [zy, hA, if_pos rfl]
    obtain ⟨q, hq⟩ : ∃ q, q = vc v := ⟨_, rfl⟩
    have hqm : (q.map nF).length = q.length := List.length_map _
    rw [← hq] at htt htl hA ⊢
    clear hq
    match q, htt, htl, hqm, hA with
    | [n], htt, _, _, hA =>
      have h1 := htt n (by simp)
      have hl1 : ((([n] : List Nd).length : Nat) : Int) = 1 := rfl
      rw [isAut, isWd, Bool.and_eq_true, decide_eq_true_eq, decide_eq_true_eq] at hA
      obtain ⟨hk, hA⟩ := hA
      have hk2 : ([n][Int.toNat 0]'(Nat.succ_pos _)).tok.kind = 1 := hk
      repeat (first | refine ue ?_ | refine ud ?_ | (refine ug ?_; first | refine uG tab_ok rfl rfl rfl rfl rfl rfl rfl ?_ | refine uh tab_ok rfl rfl rfl rfl byE rfl ?_ | refine vf tab_ok rfl rfl rfl rfl rfl rfl rfl (by first | exact ⟨by omega, by omega⟩ | (simp; omega)) rfl rfl ?_ | refine uN rfl rfl rfl rfl rfl rfl rfl ?_ | refine uY tab_ok rfl rfl rfl rfl rfl rfl (by first | exact trivial | omega) rfl ?_) | refine r_g rfl rfl rfl ?_ | refine r_g rfl rfl (congrArg (fun b => AV.val (.bool b)) (decide_eq_true (by omega))) ?_)
      refine uw (wI n.tok.text (by omega)) yq rfl rfl ⟨Sub.refl _, trivial⟩ rfl rfl rfl rfl ?_
      rw [hA]
      repeat (first | refine ue ?_ | refine uc ?_ | refine ud ?_ | refine uf ?_ | (refine ug ?_; first | refine uh tab_ok rfl rfl rfl rfl byE rfl ?_ | refine uJ tab_ok rfl rfl rfl rfl rfl ?_ | refine uM tab_ok rfl rfl rfl rfl ?_ | refine uB rfl rfl rfl rfl rfl rfl rfl ?_) | refine uq rfl ?_ | refine r_g rfl rfl (congrArg (fun b => AV.val (.bool b)) (decide_eq_true (by omega))) ?_ | refine uN rfl rfl (congrArg (fun b => AV.val (.bool b)) (decide_eq_true (by omega))) rfl rfl rfl rfl ?_)
      refine yl rfl rfl rfl rfl (by omega) (by decide) rfl rfl rfl ?_
      repeat (first | refine uc ?_ | refine uk ?_ | refine un ?_ | refine uf ?_ | (refine ug ?_; first | refine uh tab_ok rfl rfl rfl rfl byE rfl ?_ | refine uM tab_ok rfl rfl rfl rfl ?_ | refine uB rfl rfl rfl rfl rfl rfl rfl ?_))
      exact vL [rsB { S0 with auto := true, range := [], said := S0.said ||| 8 }] [] (ul byV byV ⟨trivial, trivial⟩) byO rfl rfl rfl
  | false =>
    rw [zy, hA, if_neg Bool.false_ne_true, split_tig]
    refine ue ?_
    refine awp_cutr ⟨[rsB S0], [(0, .ptr 0 0), (1, .sl 7 (v.map nF))]⟩ ?_ ?_
    · obtain ⟨q, hq⟩ : ∃ q, q = vc v := ⟨_, rfl⟩
      have hqm : (q.map nF).length = q.length := List.length_map _
      rw [← hq] at htt htl hA ⊢
      clear hq
      match q, htt, htl, hqm, hA with
      | [], _, _, _, _ =>
        repeat (first | refine ue ?_ | refine uc ?_ | refine ud ?_ | refine uj ?_ | refine uf ?_ | (refine ug ?_; first | refine uG tab_ok rfl rfl rfl rfl rfl rfl rfl ?_ | refine uh tab_ok rfl rfl rfl rfl byE rfl ?_ | refine uD rfl rfl rfl rfl rfl rfl rfl ?_ | refine va rfl rfl rfl rfl rfl rfl ?_) | refine ur rfl ?_)
        exact .inl ⟨rfl, ul byV byV ⟨trivial, trivial⟩⟩
      | a :: b :: r, _, htl, hqm, _ =>
        have hne : ¬ (((a :: b :: r).length : Nat) : Int) = 1 := by simp only [List.length_cons]; omega
        repeat (first | refine ue ?_ | refine uc ?_ | refine ud ?_ | refine uj ?_ | refine uf ?_ | (refine ug ?_; first | refine uG tab_ok rfl rfl rfl rfl rfl rfl rfl ?_ | refine uh tab_ok rfl rfl rfl rfl byE rfl ?_ | refine uD rfl rfl rfl rfl rfl rfl rfl ?_ | refine va rfl rfl rfl rfl rfl rfl ?_) | refine ur rfl ?_)
        exact .inl ⟨rfl, ul byV byV ⟨trivial, trivial⟩⟩
      | [n], htt, _, _, hA =>
        have h1 := htt n (by simp)
        have hl1 : ((([n] : List Nd).length : Nat) : Int) = 1 := rfl
        by_cases hk : n.tok.kind = 1
        · have hk2 : ([n][Int.toNat 0]'(Nat.succ_pos _)).tok.kind = 1 := hk
          rw [isAut, isWd, decide_eq_true hk, Bool.true_and] at hA
          have hA2 : ¬ vk n.tok.text = autS1 := of_decide_eq_false hA
          repeat (first | refine ue ?_ | refine ud ?_ | (refine ug ?_; first | refine uG tab_ok rfl rfl rfl rfl rfl rfl rfl ?_ | refine uh tab_ok rfl rfl rfl rfl byE rfl ?_ | refine vf tab_ok rfl rfl rfl rfl rfl rfl rfl (by first | exact ⟨by omega, by omega⟩ | (simp; omega)) rfl rfl ?_ | refine uN rfl rfl rfl rfl rfl rfl rfl ?_ | refine uY tab_ok rfl rfl rfl rfl rfl rfl (by first | exact trivial | omega) rfl ?_) | refine r_g rfl rfl rfl ?_ | refine r_g rfl rfl (congrArg (fun b => AV.val (.bool b)) (decide_eq_true (by omega))) ?_)
          refine uw (wI n.tok.text (by omega)) yq rfl rfl ⟨Sub.refl _, trivial⟩ rfl rfl rfl rfl ?_
          repeat (first | refine uc ?_ | refine uf ?_ | (refine ug ?_; first | refine uh tab_ok rfl rfl rfl rfl byE rfl ?_) | refine r_g rfl rfl (congrArg (fun b => AV.val (.bool b)) (decide_eq_true (by omega))) ?_ | refine uN rfl rfl (congrArg (fun b => AV.val (.bool b)) (decide_eq_true (by omega))) rfl rfl rfl rfl ?_)
          refine uA rfl (fun h => absurd (show decide (vk n.tok.text = autS1) = true from h) (by rw [hA]; decide)) (fun _ => ?_)
          repeat (first | refine uj ?_)
          exact .inl ⟨rfl, ul byV byV ⟨trivial, trivial⟩⟩
        · have hk2 : ¬ ([n][Int.toNat 0]'(Nat.succ_pos _)).tok.kind = 1 := hk
          repeat (first | refine ue ?_ | refine uc ?_ | refine ud ?_ | refine uj ?_ | refine uf ?_ | (refine ug ?_; first | refine uG tab_ok rfl rfl rfl rfl rfl rfl rfl ?_ | refine uh tab_ok rfl rfl rfl rfl byE rfl ?_ | refine vf tab_ok rfl rfl rfl rfl rfl rfl rfl (by first | exact ⟨by omega, by omega⟩ | (simp; omega)) rfl rfl ?_ | refine uN rfl rfl rfl rfl rfl rfl rfl ?_ | refine uY tab_ok rfl rfl rfl rfl rfl rfl (by first | exact trivial | omega) rfl ?_) | refine ur rfl ?_ | refine r_g rfl rfl rfl ?_ | refine uD rfl rfl (congrArg (fun b => AV.val (.bool b)) (decide_eq_false (by omega))) rfl rfl rfl rfl ?_ | refine va rfl rfl (congrArg (fun b => AV.val (.bool b)) (decide_eq_false (by omega))) rfl rfl rfl ?_)
          trace_state
          exact .inl ⟨rfl, ul byV byV ⟨trivial, trivial⟩⟩
    repeat (first | refine ue ?_ | refine ud ?_ | refine uf ?_ | (refine ug ?_; first | refine uh tab_ok rfl rfl rfl rfl byE rfl ?_))
    refine uw (rsplit_ok v hl) call78 rfl rfl ⟨Sub.refl _, trivial⟩ rfl rfl rfl rfl ?_
    obtain ⟨ps, hps⟩ : ∃ ps, ps = vO v := ⟨_, rfl⟩
    rw [← hps] at hpb hpt ⊢
    have hpm : (ps.map nds).length = ps.length := List.length_map _
    clear hps
    repeat (first | refine ue ?_ | refine uc ?_ | refine um ?_ | refine ud ?_ | refine uf ?_ | (refine ug ?_; first | refine uh tab_ok rfl rfl rfl rfl byE rfl ?_))
    refine uV (σ := RgR ps) (fun x => [rsB S0, .row 0 54 2 (x.acc.map rgD)]) (fun x => [(0, .ptr 0 0), (6, .row 1 0), (7, .sl 1 (ps.map nds)), (8, .val (.int .i64 x.i))]) (fun x => ps.length - x.i) ⟨0, [], Nat.zero_le _, Nat.le_refl _, rfl⟩ (ul byV byV ⟨trivial, trivial⟩) ?_
    rintro ⟨i, acc, hi, ha, heq⟩
    dsimp only
    rw [← heq]
    have hal : (acc.map rgD).length = acc.length := List.length_map _
    repeat (first | refine ue ?_ | refine uc ?_ | refine ud ?_ | refine uf ?_ | (refine ug ?_; first | refine uG tab_ok rfl rfl rfl rfl rfl rfl rfl ?_ | refine uh tab_ok rfl rfl rfl rfl byE rfl ?_))
    refine uo rfl (fun hlt => ?_) (fun hge => ?_)
    · have hi' : i < ps.length := by omega
      have hin : ((i : Nat) : Int).toNat < ps.length := by simp only [Int.toNat_natCast]; exact hi'
      have hdr : ps.drop i = ps[i] :: ps.drop (i + 1) := List.drop_eq_getElem_cons hi'
      have hpi := hpt ps[i] (List.getElem_mem hi')
      rw [hdr, List.map_cons] at heq ⊢
      repeat (first | refine ue ?_ | refine um ?_ | refine ud ?_ | refine uj ?_ | (refine ug ?_; first | refine uh tab_ok rfl rfl rfl rfl byE rfl ?_ | refine vf tab_ok rfl rfl rfl rfl rfl rfl rfl (by first | exact ⟨by omega, by omega⟩ | (simp; omega)) rfl rfl ?_))
      obtain ⟨p, hp⟩ : ∃ p, p = ps[((i : Nat) : Int).toNat]'hin := ⟨_, rfl⟩
      rw [← hp]
      have hp2 : ps[i] = p := by rw [hp]; simp only [Int.toNat_natCast]
      rw [hp2] at hpi heq ⊢
      clear hp hp2 hdr
      refine uw (wD p hpi.1) zc rfl rfl ⟨Sub.refl _, trivial⟩ rfl rfl rfl rfl ?_
      have hq : ∀ n ∈ vc p, n.tok.text.size ≤ 1099511627776 := fun n hn => hpi.2 n (w9 hn)
      have hql : (vc p).length ≤ 1099511627776 := Nat.le_trans (wF p) hpi.1
      generalize vc p = q at hq hql heq ⊢
      have hqm : (q.map nF).length = q.length := List.length_map _
      match q, hq, hql, heq, hqm with
      | [], _, _, _, _ =>
        repeat (first | refine ue ?_ | refine uc ?_ | refine ud ?_ | refine uk ?_ | refine un ?_ | refine uu ?_ | refine uf ?_ | (refine ug ?_; first | refine uG tab_ok rfl rfl rfl rfl rfl rfl rfl ?_ | refine uh tab_ok rfl rfl rfl rfl byE rfl ?_) | refine uq rfl ?_)
        exact vL [rsB S0, .gone] [] (ul byV byV ⟨trivial, trivial⟩) byO rfl rfl rfl
      | [_], _, _, _, _ =>
        repeat (first | refine ue ?_ | refine uc ?_ | refine ud ?_ | refine uk ?_ | refine un ?_ | refine uu ?_ | refine uf ?_ | (refine ug ?_; first | refine uG tab_ok rfl rfl rfl rfl rfl rfl rfl ?_ | refine uh tab_ok rfl rfl rfl rfl byE rfl ?_) | refine uq rfl ?_)
        exact vL [rsB S0, .gone] [] (ul byV byV ⟨trivial, trivial⟩) byO rfl rfl rfl
      | a :: b :: c :: r, _, hql, _, hqm =>
        have hne : ¬ (((a :: b :: c :: r).length : Nat) : Int) = 2 := by simp only [List.length_cons]; omega
        repeat (first | refine ue ?_ | refine uc ?_ | refine ud ?_ | refine uk ?_ | refine un ?_ | refine uu ?_ | refine uf ?_ | (refine ug ?_; first | refine uG tab_ok rfl rfl rfl rfl rfl rfl rfl ?_ | refine uh tab_ok rfl rfl rfl rfl byE rfl ?_) | refine uq rfl ?_)
        exact vL [rsB S0, .gone] [] (ul byV byV ⟨trivial, trivial⟩) byO rfl rfl rfl
      | [a, b], hq, _, heq, _ =>
        rw [xN] at heq ⊢
        repeat (first | refine ue ?_ | refine uc ?_ | refine ud ?_ | refine uj ?_ | refine uf ?_ | (refine ug ?_; first | refine uG tab_ok rfl rfl rfl rfl rfl rfl rfl ?_ | refine uh tab_ok rfl rfl rfl rfl byE rfl ?_ | refine vl tab_ok rfl rfl rfl rfl rfl rfl rfl (by decide) rfl rfl rfl ?_) | refine ur rfl ?_)
        refine uw (rbnd_ok a (-2147483648) (hq a (by simp))) call79 rfl rfl ⟨Sub.refl _, Sub.refl _, trivial⟩ rfl rfl rfl rfl ?_
        repeat (first | refine ue ?_ | refine ud ?_ | refine uf ?_ | (refine ug ?_; first | refine uh tab_ok rfl rfl rfl rfl byE rfl ?_ | refine vl tab_ok rfl rfl rfl rfl rfl rfl rfl (by decide) rfl rfl rfl ?_))
        refine uw (rbnd_ok b 2147483647 (hq b (by simp))) call79 rfl rfl ⟨Sub.refl _, Sub.refl _, trivial⟩ rfl rfl rfl rfl ?_
        rw [bndR_2, bndR_2]
        cases hA : (vJ a (-2147483648)).2 with
        | false =>
          rw [Bool.false_and, Bool.false_and, if_neg Bool.false_ne_true]
          repeat (first | refine ue ?_ | refine uc ?_ | refine ud ?_ | refine uk ?_ | refine un ?_ | refine uu ?_ | refine uf ?_ | (refine ug ?_; first | refine uh tab_ok rfl rfl rfl rfl byE rfl ?_ | refine uN rfl rfl rfl rfl rfl rfl rfl ?_ | refine va rfl rfl rfl rfl rfl rfl ?_) | refine uq rfl ?_)
          repeat refine r_offv rfl rfl rfl rfl rfl rfl ?_
          exact vL [rsB S0, .gone] [] (ul byV byV ⟨trivial, trivial⟩) byO rfl rfl rfl
        | true =>
          cases hB : (vJ b 2147483647).2 with
          | false =>
            rw [Bool.and_false, Bool.false_and, if_neg Bool.false_ne_true]
            repeat (first | refine ue ?_ | refine uc ?_ | refine ud ?_ | refine uk ?_ | refine un ?_ | refine uu ?_ | refine uf ?_ | (refine ug ?_; first | refine uh tab_ok rfl rfl rfl rfl byE rfl ?_ | refine uN rfl rfl rfl rfl rfl rfl rfl ?_ | refine uD rfl rfl rfl rfl rfl rfl rfl ?_ | refine va rfl rfl rfl rfl rfl rfl ?_ | refine uY tab_ok rfl rfl rfl rfl rfl rfl (by first | exact trivial | omega) rfl ?_) | refine uq rfl ?_)
            repeat refine r_offv rfl rfl rfl rfl rfl rfl ?_
            exact vL [rsB S0, .gone] [] (ul byV byV ⟨trivial, trivial⟩) byO rfl rfl rfl
          | true =>
            rw [hA, hB] at heq
            rw [Bool.true_and, Bool.true_and] at heq ⊢
            rw [bndR_1 hA, bndR_1 hB]
            generalize (vJ a (-2147483648)).1 = x at heq ⊢
            generalize (vJ b 2147483647).1 = y at heq ⊢
            by_cases hxy : x ≤ y
            · rw [decide_eq_true hxy, if_pos rfl] at heq ⊢
              repeat (first | refine ue ?_ | refine uc ?_ | refine ud ?_ | refine uf ?_ | (refine ug ?_; first | refine uh tab_ok rfl rfl rfl rfl byE rfl ?_ | refine uD rfl rfl rfl rfl rfl rfl rfl ?_ | refine uY tab_ok rfl rfl rfl rfl rfl rfl (by first | exact trivial | omega) rfl ?_))
              refine uo rfl (fun h => absurd h (by omega)) (fun _ => ?_)
              repeat (first | refine uc ?_ | refine ud ?_ | refine uj ?_ | refine uf ?_ | (refine ug ?_; first | refine uh tab_ok rfl rfl rfl rfl byE rfl ?_ | refine uU tab_ok rfl rfl rfl rfl rfl rfl ?_ | refine u9 tab_ok rfl rfl rfl rfl rfl rfl rfl rfl rfl ?_ | refine u6 tab_ok rfl rfl rfl rfl rfl rfl rfl rfl rfl (by first | omega | (simp; omega)) rfl ?_))
              refine ⟨⟨i + 1, acc ++ [(x, y)], hi', by simp; omega, heq⟩, by dsimp only; omega, ?_⟩
              dsimp only
              rw [show (acc ++ [(x, y)]).map rgD = acc.map rgD ++ [rgD (x, y)] from List.map_append]
              exact ul byV byV ⟨trivial, trivial⟩
            · rw [decide_eq_false hxy, if_neg Bool.false_ne_true]
              repeat (first | refine ue ?_ | refine uc ?_ | refine ud ?_ | refine uf ?_ | (refine ug ?_; first | refine uh tab_ok rfl rfl rfl rfl byE rfl ?_ | refine uD rfl rfl rfl rfl rfl rfl rfl ?_ | refine uY tab_ok rfl rfl rfl rfl rfl rfl (by first | exact trivial | omega) rfl ?_))
              refine uo rfl (fun _ => ?_) (fun h => absurd (by omega) h)
              repeat (first | refine uk ?_ | refine un ?_ | refine uu ?_)
              exact vL [rsB S0, .gone] [] (ul byV byV ⟨trivial, trivial⟩) byO rfl rfl rfl
    · obtain rfl : i = ps.length := by omega
      rw [List.drop_length, List.map_nil, xN]
      repeat (first | refine ue ?_ | refine uC ?_)
      refine ve (s' := ⟨[rsB S0, .gone], [(0, .ptr 0 0), (6, .sl 2 (acc.map rgD))]⟩) (ul byV ⟨wS rfl rfl rfl rfl, yL rfl rfl rfl, trivial⟩ ⟨trivial, trivial⟩) ?_
      repeat (first | refine uc ?_ | refine ud ?_ | refine uf ?_ | (refine ug ?_; first | refine uh tab_ok rfl rfl rfl rfl byE rfl ?_ | refine uJ tab_ok rfl rfl rfl rfl rfl ?_ | refine uM tab_ok rfl rfl rfl rfl ?_ | refine uB rfl rfl rfl rfl rfl rfl rfl ?_))
      refine yl rfl rfl rfl rfl (by omega) (by decide) rfl rfl rfl ?_
      repeat (first | refine uf ?_ | (refine ug ?_; first | refine uh tab_ok rfl rfl rfl rfl byE rfl ?_ | refine uM tab_ok rfl rfl rfl rfl ?_ | refine uB rfl rfl rfl rfl rfl rfl rfl ?_))
      exact vL [rsB { S0 with auto := false, range := acc, said := S0.said ||| 8 }, .gone] [] (ul byV byV ⟨trivial, trivial⟩) byO rfl rfl rfl
end Go.Proofs.YtfmafehogfikmaaGreatDoor
