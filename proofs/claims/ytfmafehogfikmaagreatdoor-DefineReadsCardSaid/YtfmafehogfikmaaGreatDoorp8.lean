/- The reference's state.says; walked. -/
import Derived.Test.YtfmafehogfikmaaGreatDoorp7
import Derived.Test.YtfmafehogfikmaaGreatDoorP8
import Derived.Test.YtfmafehogfikmaaGreatDoorI7
namespace Go.Proofs.YtfmafehogfikmaaGreatDoor
open Go Go.RowKit
set_option maxRecDepth 20000

theorem dw_form : ∀ l : List Nd, l.dropWhile whN = [] ∨ ∃ a m, l.dropWhile whN = a :: m ∧ whN a = false
  | [] => .inl rfl
  | a :: r => by
    rw [List.dropWhile_cons]
    cases h : whN a with
    | true => rw [if_pos rfl]; exact dw_form r
    | false => rw [if_neg Bool.false_ne_true]; exact .inr ⟨a, r, rfl, h⟩
theorem dw_app {a : Nd} (h : whN a = false) : ∀ x : List Nd, (x ++ [a]).dropWhile whN = x.dropWhile whN ++ [a]
  | [] => by rw [List.nil_append, List.dropWhile_cons, h, if_neg Bool.false_ne_true]; rfl
  | b :: r => by
    rw [List.cons_append, List.dropWhile_cons, List.dropWhile_cons, dw_app h r]
    cases whN b
    · rw [if_neg Bool.false_ne_true, if_neg Bool.false_ne_true]; rfl
    · rw [if_pos rfl, if_pos rfl]
theorem trimB_cons {a : Nd} (h : whN a = false) (m : List Nd) : w8 (a :: m) = a :: w8 m := by
  rw [w8, w8, List.reverse_cons, dw_app h, List.reverse_append]; rfl
theorem trimB_form (m : List Nd) : w8 m = [] ∨ ∃ x z, w8 m = x ++ [z] ∧ whN z = false := by
  rw [w8]
  rcases dw_form m.reverse with h | ⟨z, x, h, hz⟩
  · rw [h]; exact .inl rfl
  · rw [h]; exact .inr ⟨x.reverse, z, List.reverse_cons, hz⟩
theorem tig_dw : ∀ l : List Nd, vc (l.dropWhile whN) = vc l
  | [] => rfl
  | a :: r => by
    rw [List.dropWhile_cons, z6]
    cases h : whN a with
    | true => rw [if_pos rfl, if_pos rfl]; exact tig_dw r
    | false => rw [if_neg Bool.false_ne_true, if_neg Bool.false_ne_true, z6, h, if_neg Bool.false_ne_true]
theorem tig_rev (l : List Nd) : vc l.reverse = (vc l).reverse := List.filter_reverse
theorem tig_trimB (l : List Nd) : vc (w8 l) = vc l := by rw [w8, tig_rev, tig_dw, tig_rev, List.reverse_reverse]
theorem tig_trim (l : List Nd) : vc (uW l) = vc l := by rw [uW, tig_trimB, tig_dw]
theorem nm1_tig (l : List Nd) : nmF1 (uW l) = nmF1 (vc l) := by
  rw [← tig_trim l, uW]
  rcases dw_form l with h | ⟨a, m, h, ha⟩
  · rw [h]; rfl
  · rw [h, trimB_cons ha, z6, ha, if_neg Bool.false_ne_true]
    rcases trimB_form m with h2 | ⟨x, z, h2, hz⟩
    · rw [h2]; rfl
    · rw [h2, tig_app, z6, hz, if_neg Bool.false_ne_true]
      obtain ⟨b, r, e⟩ : ∃ b r, x ++ [z] = b :: r := by cases x with
        | nil => exact ⟨z, [], rfl⟩
        | cons b r => exact ⟨b, r ++ [z], rfl⟩
      obtain ⟨c, q, e2⟩ : ∃ c q, vc x ++ z :: vc [] = c :: q := by cases h3 : vc x with
        | nil => exact ⟨z, [], rfl⟩
        | cons b r => exact ⟨b, r ++ z :: vc [], rfl⟩
      rw [e, e2]; rfl
theorem tig_tig (l : List Nd) : vc (vc l) = vc l := by rw [vc, vc, List.filter_filter]; simp
theorem nm_tig (v : List Nd) : nmF (vc v) = nmF v := by rw [nmF, nmF, nm1_tig, nm1_tig, tig_tig]
def syF (S : Sd) : List Nd → Sd × Bool
  | [] => (S, false)
  | l => z7 S l
def ngF (S : Sd) : List Nd → Sd × Bool
  | [] => (S, false)
  | l => wW S l
structure SyR (l : List Nd) where
  i : Nat
  acc : List ByteArray
  hi : i ≤ l.length
  ha : acc.length ≤ i
  eq : yw (l.drop i) acc = yw l []
def zw (S : Sd) (nm : ByteArray) (v : List Nd) : Sd := (yx S nm (vc v)).1
section
variable (S0 : Sd) (v : List Nd) (hs : u4 v < 1099511627776) (ht : ∀ n ∈ v, n.tok.text.size ≤ 1099511627776) (hS : S0.said < 1000)
theorem zj (nm : ByteArray) (f : Sd → List Nd → Sd × Bool) (h0 : (f S0 []).1 = S0) (h1 : ∀ a r, yx S0 nm (a :: r) = f S0 (a :: r)) : zw S0 nm v = (f S0 (vc v)).1 := by
  rw [zw]
  cases vc v with
  | nil => exact h0.symm
  | cons a r => rw [h1]
include hs ht
set_option maxHeartbeats 8000000 in
theorem says_sys : u3 Tryz.prog 22 [rsB S0] [.ptr 0 0, .val (.string sysS), .sl 7 (v.map nF)] [rsB (zw S0 sysS v)] (.tup []) := by
  have hl : v.length ≤ 1099511627776 := by have := u7 v; omega
  have hsz : u4 (vc v) < 1099511627776 := Nat.lt_of_le_of_lt (yi v) hs
  have htt : ∀ n ∈ vc v, n.tok.text.size ≤ 1099511627776 := fun n hn => ht n (w9 hn)
  have htl : (vc v).length ≤ 1099511627776 := Nat.le_trans (wF v) hl
  refine vu Tryz.func22 Tryz.ntmps22 rfl rfl rfl fun S w β => ?_
  rw [zj S0 v sysS zP rfl (fun _ _ => rfl)]
  repeat (first | refine ue ?_ | refine ud ?_ | (refine ug ?_; first | refine uh tab_ok rfl rfl rfl rfl byE rfl ?_))
  refine uw (wD v hl) zc rfl rfl ⟨Sub.refl _, trivial⟩ rfl rfl rfl rfl ?_
  repeat (first | refine ue ?_ | refine uc ?_ | refine um ?_ | refine ud ?_ | refine uf ?_ | (refine ug ?_; first | refine uh tab_ok rfl rfl rfl rfl byE rfl ?_) | refine uq rfl ?_)
  refine vr [0] (rsystem_ok S0 (vc v) hsz htt) call52 rfl rfl ⟨rfl, trivial⟩ (by decide) ⟨Sub.refl _, Sub.refl _, trivial⟩ rfl rfl rfl rfl rfl rfl rfl ?_
  repeat (first | refine ut ?_ | refine uf ?_)
  all_goals exact vL [rsB (zP S0 (vc v)).1] [] (ul byV byV ⟨trivial, trivial⟩) byO rfl rfl rfl
set_option maxHeartbeats 8000000 in
theorem says_ran (hS : S0.said < 1000) : u3 Tryz.prog 22 [rsB S0] [.ptr 0 0, .val (.string ranS), .sl 7 (v.map nF)] [rsB (zw S0 ranS v)] (.tup []) := by
  have hl : v.length ≤ 1099511627776 := by have := u7 v; omega
  have hsz : u4 (vc v) < 1099511627776 := Nat.lt_of_le_of_lt (yi v) hs
  have htt : ∀ n ∈ vc v, n.tok.text.size ≤ 1099511627776 := fun n hn => ht n (w9 hn)
  have htl : (vc v).length ≤ 1099511627776 := Nat.le_trans (wF v) hl
  refine vu Tryz.func22 Tryz.ntmps22 rfl rfl rfl fun S w β => ?_
  rw [zj S0 v ranS zy rfl (fun _ _ => rfl)]
  repeat (first | refine ue ?_ | refine ud ?_ | (refine ug ?_; first | refine uh tab_ok rfl rfl rfl rfl byE rfl ?_))
  refine uw (wD v hl) zc rfl rfl ⟨Sub.refl _, trivial⟩ rfl rfl rfl rfl ?_
  repeat (first | refine ue ?_ | refine uc ?_ | refine um ?_ | refine ud ?_ | refine uf ?_ | (refine ug ?_; first | refine uh tab_ok rfl rfl rfl rfl byE rfl ?_) | refine uq rfl ?_ | refine ur rfl ?_)
  refine vr [0] (rranges_ok S0 v hs ht hS) call53 rfl rfl ⟨rfl, trivial⟩ (by decide) ⟨Sub.refl _, Sub.refl _, Sub.refl _, trivial⟩ rfl rfl rfl rfl rfl rfl rfl ?_
  repeat (first | refine ut ?_ | refine uf ?_)
  all_goals exact vL [rsB (zy S0 (vc v)).1] [] (ul byV byV ⟨trivial, trivial⟩) byO rfl rfl rfl
set_option maxHeartbeats 8000000 in
theorem says_add : u3 Tryz.prog 22 [rsB S0] [.ptr 0 0, .val (.string addS), .sl 7 (v.map nF)] [rsB (zw S0 addS v)] (.tup []) := by
  have hl : v.length ≤ 1099511627776 := by have := u7 v; omega
  have hsz : u4 (vc v) < 1099511627776 := Nat.lt_of_le_of_lt (yi v) hs
  have htt : ∀ n ∈ vc v, n.tok.text.size ≤ 1099511627776 := fun n hn => ht n (w9 hn)
  have htl : (vc v).length ≤ 1099511627776 := Nat.le_trans (wF v) hl
  refine vu Tryz.func22 Tryz.ntmps22 rfl rfl rfl fun S w β => ?_
  rw [zj S0 v addS zH rfl (fun _ _ => rfl)]
  repeat (first | refine ue ?_ | refine ud ?_ | (refine ug ?_; first | refine uh tab_ok rfl rfl rfl rfl byE rfl ?_))
  refine uw (wD v hl) zc rfl rfl ⟨Sub.refl _, trivial⟩ rfl rfl rfl rfl ?_
  repeat (first | refine ue ?_ | refine uc ?_ | refine um ?_ | refine ud ?_ | refine uf ?_ | (refine ug ?_; first | refine uh tab_ok rfl rfl rfl rfl byE rfl ?_) | refine uq rfl ?_ | refine ur rfl ?_)
  refine vr [0] (radditive_ok S0 v hs ht) call55 rfl rfl ⟨rfl, trivial⟩ (by decide) ⟨Sub.refl _, Sub.refl _, trivial⟩ rfl rfl rfl rfl rfl rfl rfl ?_
  repeat (first | refine ut ?_ | refine uf ?_)
  all_goals exact vL [rsB (zH S0 (vc v)).1] [] (ul byV byV ⟨trivial, trivial⟩) byO rfl rfl rfl
set_option maxHeartbeats 8000000 in
theorem says_pad (hS : S0.said < 1000) : u3 Tryz.prog 22 [rsB S0] [.ptr 0 0, .val (.string qt), .sl 7 (v.map nF)] [rsB (zw S0 qt v)] (.tup []) := by
  have hl : v.length ≤ 1099511627776 := by have := u7 v; omega
  have hsz : u4 (vc v) < 1099511627776 := Nat.lt_of_le_of_lt (yi v) hs
  have htt : ∀ n ∈ vc v, n.tok.text.size ≤ 1099511627776 := fun n hn => ht n (w9 hn)
  have htl : (vc v).length ≤ 1099511627776 := Nat.le_trans (wF v) hl
  refine vu Tryz.func22 Tryz.ntmps22 rfl rfl rfl fun S w β => ?_
  rw [zj S0 v qt padF rfl (fun _ _ => rfl)]
  repeat (first | refine ue ?_ | refine ud ?_ | (refine ug ?_; first | refine uh tab_ok rfl rfl rfl rfl byE rfl ?_))
  refine uw (wD v hl) zc rfl rfl ⟨Sub.refl _, trivial⟩ rfl rfl rfl rfl ?_
  repeat (first | refine ue ?_ | refine uc ?_ | refine um ?_ | refine ud ?_ | refine uf ?_ | (refine ug ?_; first | refine uh tab_ok rfl rfl rfl rfl byE rfl ?_) | refine uq rfl ?_ | refine ur rfl ?_)
  refine uw (rpair_ok (vc v) htl) call54 rfl rfl ⟨Sub.refl _, trivial⟩ rfl rfl rfl rfl ?_
  obtain ⟨hP1, hP2⟩ := parR_at (vc v)
  rw [hP1, padF]
  cases hA : (wO (vc v)).2 with
  | true =>
    rw [if_pos rfl, hP2 hA]
    repeat (first | refine ue ?_ | refine uc ?_ | refine ud ?_ | refine uf ?_ | (refine ug ?_; first | refine uh tab_ok rfl rfl rfl rfl byE rfl ?_ | refine uJ tab_ok rfl rfl rfl rfl rfl ?_ | refine uM tab_ok rfl rfl rfl rfl ?_ | refine uB rfl rfl rfl rfl rfl rfl rfl ?_) | refine uq rfl ?_)
    refine yl rfl rfl rfl rfl (by omega) (by decide) rfl rfl rfl ?_
    repeat (first | refine ut ?_ | refine uf ?_ | (refine ug ?_; first | refine uh tab_ok rfl rfl rfl rfl byE rfl ?_ | refine uM tab_ok rfl rfl rfl rfl ?_ | refine uB rfl rfl rfl rfl rfl rfl rfl ?_))
    all_goals exact vL [rsB { S0 with pad := (wO (vc v)).1.1, padSign := (wO (vc v)).1.2, said := S0.said ||| 16 }] [] (ul byV byV ⟨trivial, trivial⟩) byO rfl rfl rfl
  | false =>
    rw [if_neg Bool.false_ne_true]
    repeat (first | refine ue ?_ | refine uc ?_ | refine ud ?_ | refine ut ?_ | refine uj ?_ | refine uf ?_ | (refine ug ?_; first | refine uh tab_ok rfl rfl rfl rfl byE rfl ?_) | refine ur rfl ?_)
    all_goals exact vL [rsB S0] [] (ul byV byV ⟨trivial, trivial⟩) byO rfl rfl rfl
set_option maxHeartbeats 8000000 in
theorem says_fal (hS : S0.said < 1000) : u3 Tryz.prog 22 [rsB S0] [.ptr 0 0, .val (.string falS), .sl 7 (v.map nF)] [rsB (zw S0 falS v)] (.tup []) := by
  have hl : v.length ≤ 1099511627776 := by have := u7 v; omega
  have hsz : u4 (vc v) < 1099511627776 := Nat.lt_of_le_of_lt (yi v) hs
  have htt : ∀ n ∈ vc v, n.tok.text.size ≤ 1099511627776 := fun n hn => ht n (w9 hn)
  have htl : (vc v).length ≤ 1099511627776 := Nat.le_trans (wF v) hl
  refine vu Tryz.func22 Tryz.ntmps22 rfl rfl rfl fun S w β => ?_
  rw [zj S0 v falS falF rfl (fun _ _ => rfl)]
  repeat (first | refine ue ?_ | refine ud ?_ | (refine ug ?_; first | refine uh tab_ok rfl rfl rfl rfl byE rfl ?_))
  refine uw (wD v hl) zc rfl rfl ⟨Sub.refl _, trivial⟩ rfl rfl rfl rfl ?_
  repeat (first | refine ue ?_ | refine uc ?_ | refine um ?_ | refine ud ?_ | refine uf ?_ | (refine ug ?_; first | refine uh tab_ok rfl rfl rfl rfl byE rfl ?_) | refine uq rfl ?_ | refine ur rfl ?_)
  refine uw (rname_ok v hl ht) call12 rfl rfl ⟨Sub.refl _, trivial⟩ rfl rfl rfl rfl ?_
  rw [falF, nm_tig]
  cases hA : (nmF v).2 with
  | true =>
    rw [if_pos rfl]
    repeat (first | refine ue ?_ | refine uc ?_ | refine ud ?_ | refine uf ?_ | (refine ug ?_; first | refine uh tab_ok rfl rfl rfl rfl byE rfl ?_ | refine uJ tab_ok rfl rfl rfl rfl rfl ?_ | refine uM tab_ok rfl rfl rfl rfl ?_ | refine uB rfl rfl rfl rfl rfl rfl rfl ?_) | refine uq rfl ?_)
    refine yl rfl rfl rfl rfl (by omega) (by decide) rfl rfl rfl ?_
    repeat (first | refine ut ?_ | refine uf ?_ | (refine ug ?_; first | refine uh tab_ok rfl rfl rfl rfl byE rfl ?_ | refine uM tab_ok rfl rfl rfl rfl ?_ | refine uB rfl rfl rfl rfl rfl rfl rfl ?_))
    all_goals exact vL [rsB { S0 with fall := (nmF v).1, said := S0.said ||| 32 }] [] (ul byV byV ⟨trivial, trivial⟩) byO rfl rfl rfl
  | false =>
    rw [if_neg Bool.false_ne_true]
    repeat (first | refine ue ?_ | refine uc ?_ | refine ud ?_ | refine ut ?_ | refine uj ?_ | refine uf ?_ | (refine ug ?_; first | refine uh tab_ok rfl rfl rfl rfl byE rfl ?_) | refine ur rfl ?_)
    all_goals exact vL [rsB S0] [] (ul byV byV ⟨trivial, trivial⟩) byO rfl rfl rfl
set_option maxHeartbeats 8000000 in
theorem says_pre (hS : S0.said < 1000) : u3 Tryz.prog 22 [rsB S0] [.ptr 0 0, .val (.string preS), .sl 7 (v.map nF)] [rsB (zw S0 preS v)] (.tup []) := by
  have hl : v.length ≤ 1099511627776 := by have := u7 v; omega
  have hsz : u4 (vc v) < 1099511627776 := Nat.lt_of_le_of_lt (yi v) hs
  have htt : ∀ n ∈ vc v, n.tok.text.size ≤ 1099511627776 := fun n hn => ht n (w9 hn)
  have htl : (vc v).length ≤ 1099511627776 := Nat.le_trans (wF v) hl
  refine vu Tryz.func22 Tryz.ntmps22 rfl rfl rfl fun S w β => ?_
  rw [zj S0 v preS (fun S l => xh S false l) rfl (fun _ _ => rfl)]
  repeat (first | refine ue ?_ | refine ud ?_ | (refine ug ?_; first | refine uh tab_ok rfl rfl rfl rfl byE rfl ?_))
  refine uw (wD v hl) zc rfl rfl ⟨Sub.refl _, trivial⟩ rfl rfl rfl rfl ?_
  obtain ⟨q, hq⟩ : ∃ q, q = vc v := ⟨_, rfl⟩
  have hqm : (q.map nF).length = q.length := List.length_map _
  rw [← hq] at hsz htt htl ⊢
  match q, htt, htl, hqm with
  | [], _, _, _ =>
    repeat (first | refine ue ?_ | refine uc ?_ | refine um ?_ | refine ud ?_ | refine uk ?_ | refine un ?_ | refine uu ?_ | refine uj ?_ | refine uf ?_ | (refine ug ?_; first | refine uG tab_ok rfl rfl rfl rfl rfl rfl rfl ?_ | refine uh tab_ok rfl rfl rfl rfl byE rfl ?_) | refine uq rfl ?_ | refine ur rfl ?_)
    all_goals exact vL [rsB S0] [] (ul byV byV ⟨trivial, trivial⟩) byO rfl rfl rfl
  | a :: b :: r, _, htl, hqm =>
    have hne : ¬ (((a :: b :: r).length : Nat) : Int) = 1 := by simp only [List.length_cons]; omega
    repeat (first | refine ue ?_ | refine uc ?_ | refine um ?_ | refine ud ?_ | refine uk ?_ | refine un ?_ | refine uu ?_ | refine uj ?_ | refine uf ?_ | (refine ug ?_; first | refine uG tab_ok rfl rfl rfl rfl rfl rfl rfl ?_ | refine uh tab_ok rfl rfl rfl rfl byE rfl ?_) | refine uq rfl ?_ | refine ur rfl ?_)
    all_goals exact vL [rsB S0] [] (ul byV byV ⟨trivial, trivial⟩) byO rfl rfl rfl
  | [n], _, _, _ =>
    have hl1 : ((([n] : List Nd).length : Nat) : Int) = 1 := rfl
    repeat (first | refine ue ?_ | refine uc ?_ | refine um ?_ | refine ud ?_ | refine uj ?_ | refine uf ?_ | (refine ug ?_; first | refine uG tab_ok rfl rfl rfl rfl rfl rfl rfl ?_ | refine uh tab_ok rfl rfl rfl rfl byE rfl ?_ | refine vf tab_ok rfl rfl rfl rfl rfl rfl rfl (by first | exact ⟨by omega, by omega⟩ | (simp; omega)) rfl rfl ?_) | refine uq rfl ?_ | refine ur rfl ?_)
    refine uw (xB n) zX rfl rfl ⟨Sub.refl _, trivial⟩ rfl rfl rfl rfl ?_
    cases hA : (vE n).2 with
    | true =>
      rw [show (xh S0 false [n]).1 = { S0 with pre := (vE n).1, said := S0.said ||| 2 } by rw [xh, hA]; rfl]
      repeat (first | refine ue ?_ | refine uc ?_ | refine ud ?_ | refine uf ?_ | (refine ug ?_; first | refine uh tab_ok rfl rfl rfl rfl byE rfl ?_ | refine uJ tab_ok rfl rfl rfl rfl rfl ?_ | refine uM tab_ok rfl rfl rfl rfl ?_ | refine uN rfl rfl rfl rfl rfl rfl rfl ?_ | refine uY tab_ok rfl rfl rfl rfl rfl rfl (by first | exact trivial | omega) rfl ?_ | refine uB rfl rfl rfl rfl rfl rfl rfl ?_) | refine uq rfl ?_)
      refine yl rfl rfl rfl rfl (by omega) (by decide) rfl rfl rfl ?_
      repeat (first | refine ut ?_ | refine uf ?_ | (refine ug ?_; first | refine uh tab_ok rfl rfl rfl rfl byE rfl ?_ | refine uM tab_ok rfl rfl rfl rfl ?_ | refine uB rfl rfl rfl rfl rfl rfl rfl ?_))
      all_goals exact vL [rsB { S0 with pre := (vE n).1, said := S0.said ||| 2 }] [] (ul byV byV ⟨trivial, trivial⟩) byO rfl rfl rfl
    | false =>
      rw [show (xh S0 false [n]).1 = S0 by rw [xh, hA]; rfl]
      repeat (first | refine ue ?_ | refine uc ?_ | refine ud ?_ | refine ut ?_ | refine uj ?_ | refine uf ?_ | (refine ug ?_; first | refine uh tab_ok rfl rfl rfl rfl byE rfl ?_ | refine uD rfl rfl rfl rfl rfl rfl rfl ?_ | refine va rfl rfl rfl rfl rfl rfl ?_) | refine ur rfl ?_)
      all_goals exact vL [rsB S0] [] (ul byV byV ⟨trivial, trivial⟩) byO rfl rfl rfl
set_option maxHeartbeats 8000000 in
theorem says_suf (hS : S0.said < 1000) : u3 Tryz.prog 22 [rsB S0] [.ptr 0 0, .val (.string sufS), .sl 7 (v.map nF)] [rsB (zw S0 sufS v)] (.tup []) := by
  have hl : v.length ≤ 1099511627776 := by have := u7 v; omega
  have hsz : u4 (vc v) < 1099511627776 := Nat.lt_of_le_of_lt (yi v) hs
  have htt : ∀ n ∈ vc v, n.tok.text.size ≤ 1099511627776 := fun n hn => ht n (w9 hn)
  have htl : (vc v).length ≤ 1099511627776 := Nat.le_trans (wF v) hl
  refine vu Tryz.func22 Tryz.ntmps22 rfl rfl rfl fun S w β => ?_
  rw [zj S0 v sufS (fun S l => xh S true l) rfl (fun _ _ => rfl)]
  repeat (first | refine ue ?_ | refine ud ?_ | (refine ug ?_; first | refine uh tab_ok rfl rfl rfl rfl byE rfl ?_))
  refine uw (wD v hl) zc rfl rfl ⟨Sub.refl _, trivial⟩ rfl rfl rfl rfl ?_
  obtain ⟨q, hq⟩ : ∃ q, q = vc v := ⟨_, rfl⟩
  have hqm : (q.map nF).length = q.length := List.length_map _
  rw [← hq] at hsz htt htl ⊢
  match q, htt, htl, hqm with
  | [], _, _, _ =>
    repeat (first | refine ue ?_ | refine uc ?_ | refine um ?_ | refine ud ?_ | refine uk ?_ | refine un ?_ | refine uu ?_ | refine uf ?_ | (refine ug ?_; first | refine uG tab_ok rfl rfl rfl rfl rfl rfl rfl ?_ | refine uh tab_ok rfl rfl rfl rfl byE rfl ?_) | refine uq rfl ?_ | refine ur rfl ?_)
    all_goals exact vL [rsB S0] [] (ul byV byV ⟨trivial, trivial⟩) byO rfl rfl rfl
  | a :: b :: r, _, htl, hqm =>
    have hne : ¬ (((a :: b :: r).length : Nat) : Int) = 1 := by simp only [List.length_cons]; omega
    repeat (first | refine ue ?_ | refine uc ?_ | refine um ?_ | refine ud ?_ | refine uk ?_ | refine un ?_ | refine uu ?_ | refine uf ?_ | (refine ug ?_; first | refine uG tab_ok rfl rfl rfl rfl rfl rfl rfl ?_ | refine uh tab_ok rfl rfl rfl rfl byE rfl ?_) | refine uq rfl ?_ | refine ur rfl ?_)
    all_goals exact vL [rsB S0] [] (ul byV byV ⟨trivial, trivial⟩) byO rfl rfl rfl
  | [n], _, _, _ =>
    have hl1 : ((([n] : List Nd).length : Nat) : Int) = 1 := rfl
    repeat (first | refine ue ?_ | refine uc ?_ | refine um ?_ | refine ud ?_ | refine uj ?_ | refine uf ?_ | (refine ug ?_; first | refine uG tab_ok rfl rfl rfl rfl rfl rfl rfl ?_ | refine uh tab_ok rfl rfl rfl rfl byE rfl ?_ | refine vf tab_ok rfl rfl rfl rfl rfl rfl rfl (by first | exact ⟨by omega, by omega⟩ | (simp; omega)) rfl rfl ?_) | refine uq rfl ?_ | refine ur rfl ?_)
    refine uw (xB n) zX rfl rfl ⟨Sub.refl _, trivial⟩ rfl rfl rfl rfl ?_
    cases hA : (vE n).2 with
    | true =>
      rw [show (xh S0 true [n]).1 = { S0 with suf := (vE n).1, said := S0.said ||| 4 } by rw [xh, hA]; rfl]
      repeat (first | refine ue ?_ | refine uc ?_ | refine ud ?_ | refine uf ?_ | (refine ug ?_; first | refine uh tab_ok rfl rfl rfl rfl byE rfl ?_ | refine uJ tab_ok rfl rfl rfl rfl rfl ?_ | refine uM tab_ok rfl rfl rfl rfl ?_ | refine uN rfl rfl rfl rfl rfl rfl rfl ?_ | refine uY tab_ok rfl rfl rfl rfl rfl rfl (by first | exact trivial | omega) rfl ?_ | refine uB rfl rfl rfl rfl rfl rfl rfl ?_) | refine uq rfl ?_ | refine ur rfl ?_)
      refine yl rfl rfl rfl rfl (by omega) (by decide) rfl rfl rfl ?_
      repeat (first | refine ut ?_ | refine uf ?_ | (refine ug ?_; first | refine uh tab_ok rfl rfl rfl rfl byE rfl ?_ | refine uM tab_ok rfl rfl rfl rfl ?_ | refine uB rfl rfl rfl rfl rfl rfl rfl ?_))
      all_goals exact vL [rsB { S0 with suf := (vE n).1, said := S0.said ||| 4 }] [] (ul byV byV ⟨trivial, trivial⟩) byO rfl rfl rfl
    | false =>
      rw [show (xh S0 true [n]).1 = S0 by rw [xh, hA]; rfl]
      repeat (first | refine ue ?_ | refine uc ?_ | refine ud ?_ | refine ut ?_ | refine uj ?_ | refine uf ?_ | (refine ug ?_; first | refine uh tab_ok rfl rfl rfl rfl byE rfl ?_ | refine uD rfl rfl rfl rfl rfl rfl rfl ?_ | refine va rfl rfl rfl rfl rfl rfl ?_) | refine ur rfl ?_)
      all_goals exact vL [rsB S0] [] (ul byV byV ⟨trivial, trivial⟩) byO rfl rfl rfl
set_option maxHeartbeats 8000000 in
theorem says_neg (hS : S0.said < 1000) : u3 Tryz.prog 22 [rsB S0] [.ptr 0 0, .val (.string negS), .sl 7 (v.map nF)] [rsB (zw S0 negS v)] (.tup []) := by
  have hl : v.length ≤ 1099511627776 := by have := u7 v; omega
  have hsz : u4 (vc v) < 1099511627776 := Nat.lt_of_le_of_lt (yi v) hs
  have htt : ∀ n ∈ vc v, n.tok.text.size ≤ 1099511627776 := fun n hn => ht n (w9 hn)
  have htl : (vc v).length ≤ 1099511627776 := Nat.le_trans (wF v) hl
  refine vu Tryz.func22 Tryz.ntmps22 rfl rfl rfl fun S w β => ?_
  rw [zj S0 v negS ngF rfl (fun _ _ => rfl)]
  repeat (first | refine ue ?_ | refine ud ?_ | (refine ug ?_; first | refine uh tab_ok rfl rfl rfl rfl byE rfl ?_))
  refine uw (wD v hl) zc rfl rfl ⟨Sub.refl _, trivial⟩ rfl rfl rfl rfl ?_
  obtain ⟨q, hq⟩ : ∃ q, q = vc v := ⟨_, rfl⟩
  have hqm : (q.map nF).length = q.length := List.length_map _
  rw [← hq] at hsz htt htl ⊢
  match q, htt, htl, hqm with
  | [], _, _, _ =>
    repeat (first | refine ue ?_ | refine uc ?_ | refine um ?_ | refine ud ?_ | refine uk ?_ | refine un ?_ | refine uu ?_ | refine uf ?_ | (refine ug ?_; first | refine uG tab_ok rfl rfl rfl rfl rfl rfl rfl ?_ | refine uh tab_ok rfl rfl rfl rfl byE rfl ?_ | refine uN rfl rfl rfl rfl rfl rfl rfl ?_ | refine v6 tab_ok rfl rfl rfl rfl rfl rfl rfl rfl rfl ?_ | refine uY tab_ok rfl rfl rfl rfl rfl rfl (by first | exact trivial | omega) rfl ?_) | refine uq rfl ?_ | refine ur rfl ?_)
    all_goals exact vL [rsB S0] [] (ul byV byV ⟨trivial, trivial⟩) byO rfl rfl rfl
  | a :: b :: c :: r, _, htl, hqm =>
    have hne : ¬ (((a :: b :: c :: r).length : Nat) : Int) = 1 := by simp only [List.length_cons]; omega
    have hne2 : ¬ (((a :: b :: c :: r).length : Nat) : Int) = 2 := by simp only [List.length_cons]; omega
    repeat (first | refine ue ?_ | refine uc ?_ | refine um ?_ | refine ud ?_ | refine uk ?_ | refine un ?_ | refine uu ?_ | refine uf ?_ | (refine ug ?_; first | refine uG tab_ok rfl rfl rfl rfl rfl rfl rfl ?_ | refine uh tab_ok rfl rfl rfl rfl byE rfl ?_ | refine uN rfl rfl rfl rfl rfl rfl rfl ?_ | refine v6 tab_ok rfl rfl rfl rfl rfl rfl rfl rfl rfl ?_ | refine uY tab_ok rfl rfl rfl rfl rfl rfl (by first | exact trivial | omega) rfl ?_) | refine uq rfl ?_ | refine ur rfl ?_)
    all_goals exact vL [rsB S0] [] (ul byV byV ⟨trivial, trivial⟩) byO rfl rfl rfl
  | [n], _, _, _ =>
    have hl1 : ((([n] : List Nd).length : Nat) : Int) = 1 := rfl
    repeat (first | refine ue ?_ | refine uc ?_ | refine um ?_ | refine ud ?_ | refine uj ?_ | refine uf ?_ | (refine ug ?_; first | refine uG tab_ok rfl rfl rfl rfl rfl rfl rfl ?_ | refine uh tab_ok rfl rfl rfl rfl byE rfl ?_ | refine vf tab_ok rfl rfl rfl rfl rfl rfl rfl (by first | exact ⟨by omega, by omega⟩ | (simp; omega)) rfl rfl ?_ | refine uD rfl rfl rfl rfl rfl rfl rfl ?_ | refine va rfl rfl rfl rfl rfl rfl ?_) | refine uq rfl ?_ | refine ur rfl ?_)
    refine uw (xB n) zX rfl rfl ⟨Sub.refl _, trivial⟩ rfl rfl rfl rfl ?_
    cases hA : (vE n).2 with
    | true =>
      rw [show (ngF S0 [n]).1 = { S0 with neg1 := (vE n).1, neg2 := ⟨#[]⟩, said := S0.said ||| 1 } by show (wW S0 [n]).1 = _; rw [wW, hA]; rfl]
      repeat (first | refine ue ?_ | refine uc ?_ | refine ud ?_ | refine uj ?_ | refine uf ?_ | (refine ug ?_; first | refine uG tab_ok rfl rfl rfl rfl rfl rfl rfl ?_ | refine uh tab_ok rfl rfl rfl rfl byE rfl ?_ | refine uJ tab_ok rfl rfl rfl rfl rfl ?_ | refine uM tab_ok rfl rfl rfl rfl ?_ | refine uN rfl rfl rfl rfl rfl rfl rfl ?_ | refine uY tab_ok rfl rfl rfl rfl rfl rfl (by first | exact trivial | omega) rfl ?_ | refine uU tab_ok rfl rfl rfl rfl rfl rfl ?_ | refine uB rfl rfl rfl rfl rfl rfl rfl ?_) | refine uq rfl ?_ | refine ur rfl ?_)
      refine yl rfl rfl rfl rfl (by omega) (by decide) rfl rfl rfl ?_
      repeat (first | refine ut ?_ | refine uf ?_ | (refine ug ?_; first | refine uh tab_ok rfl rfl rfl rfl byE rfl ?_ | refine uM tab_ok rfl rfl rfl rfl ?_ | refine uB rfl rfl rfl rfl rfl rfl rfl ?_))
      all_goals exact vL [rsB { S0 with neg1 := (vE n).1, neg2 := ⟨#[]⟩, said := S0.said ||| 1 }] [] (ul byV byV ⟨trivial, trivial⟩) byO rfl rfl rfl
    | false =>
      rw [show (ngF S0 [n]).1 = S0 by show (wW S0 [n]).1 = _; rw [wW, hA]; rfl]
      repeat (first | refine ue ?_ | refine uc ?_ | refine ud ?_ | refine ut ?_ | refine uj ?_ | refine uf ?_ | (refine ug ?_; first | refine uG tab_ok rfl rfl rfl rfl rfl rfl rfl ?_ | refine uh tab_ok rfl rfl rfl rfl byE rfl ?_ | refine uD rfl rfl rfl rfl rfl rfl rfl ?_ | refine va rfl rfl rfl rfl rfl rfl ?_) | refine ur rfl ?_)
      all_goals exact vL [rsB S0] [] (ul byV byV ⟨trivial, trivial⟩) byO rfl rfl rfl
  | [n, m], _, _, _ =>
    have hl1 : ((([n, m] : List Nd).length : Nat) : Int) = 2 := rfl
    repeat (first | refine ue ?_ | refine uc ?_ | refine um ?_ | refine ud ?_ | refine uj ?_ | refine uf ?_ | (refine ug ?_; first | refine uG tab_ok rfl rfl rfl rfl rfl rfl rfl ?_ | refine uh tab_ok rfl rfl rfl rfl byE rfl ?_ | refine vf tab_ok rfl rfl rfl rfl rfl rfl rfl (by first | exact ⟨by omega, by omega⟩ | (simp; omega)) rfl rfl ?_ | refine uN rfl rfl rfl rfl rfl rfl rfl ?_ | refine v6 tab_ok rfl rfl rfl rfl rfl rfl rfl rfl rfl ?_ | refine uY tab_ok rfl rfl rfl rfl rfl rfl (by first | exact trivial | omega) rfl ?_) | refine uq rfl ?_ | refine ur rfl ?_)
    refine uw (xB n) zX rfl rfl ⟨Sub.refl _, trivial⟩ rfl rfl rfl rfl ?_
    repeat (first | refine ue ?_ | refine uc ?_ | refine ud ?_ | refine uf ?_ | (refine ug ?_; first | refine uG tab_ok rfl rfl rfl rfl rfl rfl rfl ?_ | refine uh tab_ok rfl rfl rfl rfl byE rfl ?_ | refine vf tab_ok rfl rfl rfl rfl rfl rfl rfl (by first | exact ⟨by omega, by omega⟩ | (simp; omega)) rfl rfl ?_) | refine uq rfl ?_)
    refine uw (xB m) zX rfl rfl ⟨Sub.refl _, trivial⟩ rfl rfl rfl rfl ?_
    cases hA : (vE n).2 with
    | true =>
      cases hB : (vE m).2 with
      | true =>
        rw [show (ngF S0 [n, m]).1 = { S0 with neg1 := (vE n).1, neg2 := (vE m).1, said := S0.said ||| 1 } by show (wW S0 [n, m]).1 = _; rw [wW, hA, hB]; rfl]
        repeat (first | refine ue ?_ | refine uc ?_ | refine ud ?_ | refine uf ?_ | (refine ug ?_; first | refine uh tab_ok rfl rfl rfl rfl byE rfl ?_ | refine uJ tab_ok rfl rfl rfl rfl rfl ?_ | refine uM tab_ok rfl rfl rfl rfl ?_ | refine uN rfl rfl rfl rfl rfl rfl rfl ?_ | refine uY tab_ok rfl rfl rfl rfl rfl rfl (by first | exact trivial | omega) rfl ?_ | refine uU tab_ok rfl rfl rfl rfl rfl rfl ?_ | refine uB rfl rfl rfl rfl rfl rfl rfl ?_) | refine uq rfl ?_)
        refine yl rfl rfl rfl rfl (by omega) (by decide) rfl rfl rfl ?_
        repeat (first | refine ut ?_ | refine uf ?_ | (refine ug ?_; first | refine uh tab_ok rfl rfl rfl rfl byE rfl ?_ | refine uM tab_ok rfl rfl rfl rfl ?_ | refine uB rfl rfl rfl rfl rfl rfl rfl ?_))
        all_goals exact vL [rsB { S0 with neg1 := (vE n).1, neg2 := (vE m).1, said := S0.said ||| 1 }] [] (ul byV byV ⟨trivial, trivial⟩) byO rfl rfl rfl
      | false =>
        rw [show (ngF S0 [n, m]).1 = S0 by show (wW S0 [n, m]).1 = _; rw [wW, hA, hB]; rfl]
        repeat (first | refine ue ?_ | refine uc ?_ | refine ud ?_ | refine ut ?_ | refine uj ?_ | refine uf ?_ | (refine ug ?_; first | refine uh tab_ok rfl rfl rfl rfl byE rfl ?_ | refine uN rfl rfl rfl rfl rfl rfl rfl ?_ | refine uY tab_ok rfl rfl rfl rfl rfl rfl (by first | exact trivial | omega) rfl ?_) | refine ur rfl ?_)
        all_goals exact vL [rsB S0] [] (ul byV byV ⟨trivial, trivial⟩) byO rfl rfl rfl
    | false =>
      rw [show (ngF S0 [n, m]).1 = S0 by show (wW S0 [n, m]).1 = _; rw [wW, hA]; rfl]
      repeat (first | refine ue ?_ | refine uc ?_ | refine ud ?_ | refine ut ?_ | refine uj ?_ | refine uf ?_ | (refine ug ?_; first | refine uh tab_ok rfl rfl rfl rfl byE rfl ?_ | refine uD rfl rfl rfl rfl rfl rfl rfl ?_ | refine va rfl rfl rfl rfl rfl rfl ?_) | refine ur rfl ?_)
      all_goals exact vL [rsB S0] [] (ul byV byV ⟨trivial, trivial⟩) byO rfl rfl rfl
set_option maxHeartbeats 8000000 in
theorem says_sym : u3 Tryz.prog 22 [rsB S0] [.ptr 0 0, .val (.string symS), .sl 7 (v.map nF)] [rsB (zw S0 symS v)] (.tup []) := by
  have hl : v.length ≤ 1099511627776 := by have := u7 v; omega
  have hsz : u4 (vc v) < 1099511627776 := Nat.lt_of_le_of_lt (yi v) hs
  have htt : ∀ n ∈ vc v, n.tok.text.size ≤ 1099511627776 := fun n hn => ht n (w9 hn)
  have htl : (vc v).length ≤ 1099511627776 := Nat.le_trans (wF v) hl
  refine vu Tryz.func22 Tryz.ntmps22 rfl rfl rfl fun S w β => ?_
  rw [zj S0 v symS syF rfl (fun _ _ => rfl)]
  repeat (first | refine ue ?_ | refine ud ?_ | (refine ug ?_; first | refine uh tab_ok rfl rfl rfl rfl byE rfl ?_))
  refine uw (wD v hl) zc rfl rfl ⟨Sub.refl _, trivial⟩ rfl rfl rfl rfl ?_
  obtain ⟨q, hq⟩ : ∃ q, q = vc v := ⟨_, rfl⟩
  have hqm : (q.map nF).length = q.length := List.length_map _
  rw [← hq] at hsz htt htl ⊢
  by_cases h0 : q = []
  · subst h0
    repeat (first | refine ue ?_ | refine uc ?_ | refine um ?_ | refine ud ?_ | refine uk ?_ | refine un ?_ | refine uu ?_ | refine uf ?_ | (refine ug ?_; first | refine uG tab_ok rfl rfl rfl rfl rfl rfl rfl ?_ | refine uh tab_ok rfl rfl rfl rfl byE rfl ?_) | refine uq rfl ?_ | refine ur rfl ?_)
    all_goals exact vL [rsB S0] [] (ul byV byV ⟨trivial, trivial⟩) byO rfl rfl rfl
  have hpos : 0 < q.length := List.length_pos_iff.2 h0
  rw [show (syF S0 q).1 = (z7 S0 q).1 by cases q with
    | nil => exact absurd rfl h0
    | cons _ _ => rfl, z7]
  repeat (first | refine ue ?_ | refine uc ?_ | refine um ?_ | refine ud ?_ | refine uf ?_ | (refine ug ?_; first | refine uG tab_ok rfl rfl rfl rfl rfl rfl rfl ?_ | refine uh tab_ok rfl rfl rfl rfl byE rfl ?_) | refine uq rfl ?_ | refine ur rfl ?_)
  refine uo rfl (fun h => absurd h (by omega)) (fun _ => ?_)
  repeat (first | refine ue ?_ | refine uc ?_ | refine um ?_ | refine ud ?_ | refine uj ?_ | refine uf ?_ | (refine ug ?_; first | refine uh tab_ok rfl rfl rfl rfl byE rfl ?_))
  refine uV (σ := SyR q) (fun x => [rsB S0, .row 0 9 1 (x.acc.map sF)]) (fun x => [(0, .ptr 0 0), (6, .sl 7 (q.map nF)), (18, .row 1 0), (19, .val (.int .i64 x.i))]) (fun x => q.length - x.i) ⟨0, [], Nat.zero_le _, Nat.le_refl _, rfl⟩ (ul byV byV ⟨trivial, trivial⟩) ?_
  rintro ⟨i, acc, hi, ha, heq⟩
  dsimp only
  rw [← heq]
  have hal : (acc.map sF).length = acc.length := List.length_map _
  repeat (first | refine ue ?_ | refine uc ?_ | refine ud ?_ | refine uf ?_ | (refine ug ?_; first | refine uG tab_ok rfl rfl rfl rfl rfl rfl rfl ?_ | refine uh tab_ok rfl rfl rfl rfl byE rfl ?_))
  refine uo rfl (fun hlt => ?_) (fun hge => ?_)
  · have hi' : i < q.length := by omega
    have hdr : q.drop i = q[i] :: q.drop (i + 1) := List.drop_eq_getElem_cons hi'
    rw [hdr] at heq ⊢
    repeat (first | refine ue ?_ | refine um ?_ | refine ud ?_ | refine uj ?_ | (refine ug ?_; first | refine uh tab_ok rfl rfl rfl rfl byE rfl ?_ | refine vf tab_ok rfl rfl rfl rfl rfl rfl rfl (by first | exact ⟨by omega, by omega⟩ | (simp; omega)) rfl rfl ?_))
    simp only [Int.toNat_natCast]
    refine uw (xB q[i]) zX rfl rfl ⟨Sub.refl _, trivial⟩ rfl rfl rfl rfl ?_
    cases hb : (vE q[i]).2 with
    | false =>
      rw [show yw (q[i] :: q.drop (i + 1)) acc = none by rw [yw, hb, if_neg Bool.false_ne_true]]
      repeat (first | refine ue ?_ | refine uc ?_ | refine ud ?_ | refine uk ?_ | refine un ?_ | refine uu ?_ | refine uf ?_ | (refine ug ?_; first | refine uh tab_ok rfl rfl rfl rfl byE rfl ?_) | refine uq rfl ?_)
      all_goals exact vL [rsB S0, .gone] [] (ul byV byV ⟨trivial, trivial⟩) byO rfl rfl rfl
    | true =>
      repeat (first | refine ue ?_ | refine uc ?_ | refine ud ?_ | refine uj ?_ | refine uf ?_ | (refine ug ?_; first | refine uh tab_ok rfl rfl rfl rfl byE rfl ?_ | refine u9 tab_ok rfl rfl rfl rfl rfl rfl rfl rfl rfl ?_ | refine u6 tab_ok rfl rfl rfl rfl rfl rfl rfl rfl rfl (by first | omega | (simp; omega)) rfl ?_) | refine ur rfl ?_)
      refine ⟨⟨i + 1, acc ++ [(vE q[i]).1], hi', by simp; omega, by rw [← heq, yw, hb, if_pos rfl]⟩, by dsimp only; omega, ?_⟩
      dsimp only
      rw [show (acc ++ [((vE q[i]).1 : ByteArray)]).map sF = acc.map sF ++ [sF (vE q[i]).1] from List.map_append]
      exact ul byV byV ⟨trivial, trivial⟩
  · obtain rfl : i = q.length := by omega
    rw [show yw (q.drop q.length) acc = some acc by rw [List.drop_length, yw]]
    repeat (first | refine uc ?_ | refine uC ?_ | refine vg ?_ | refine vi rfl ?_)
    refine ve (s' := ⟨[rsB S0, .gone], [(0, .ptr 0 0), (18, .sl 1 (acc.map sF))]⟩) (ul byV ⟨wS rfl rfl rfl rfl, yL rfl rfl rfl, trivial⟩ ⟨trivial, trivial⟩) ?_
    repeat (first | refine ud ?_ | refine ut ?_ | refine uf ?_ | (refine ug ?_; first | refine uh tab_ok rfl rfl rfl rfl byE rfl ?_ | refine uM tab_ok rfl rfl rfl rfl ?_ | refine uB rfl rfl rfl rfl rfl rfl rfl ?_))
    all_goals exact vL [rsB { S0 with syms := acc, symbolic := true }, .gone] [] (ul byV byV ⟨trivial, trivial⟩) byO rfl rfl rfl
end
theorem says_no (S0 : Sd) (v : List Nd) (nm : ByteArray) (e0 : ¬ nm = sysS) (e1 : ¬ nm = negS) (e2 : ¬ nm = preS) (e3 : ¬ nm = sufS) (e4 : ¬ nm = ranS) (e5 : ¬ nm = qt) (e6 : ¬ nm = falS) (e7 : ¬ nm = symS) (e8 : ¬ nm = addS) : zw S0 nm v = S0 := by
  rw [zw, yx]
  by_cases h0 : (vc v).length = 0
  · rw [if_pos h0]
  · rw [if_neg h0, if_neg e0, if_neg e1, if_neg e2, if_neg e3, if_neg e4, if_neg e5, if_neg e6, if_neg e7, if_neg e8]
set_option maxHeartbeats 8000000 in
theorem says_oth (S0 : Sd) (v : List Nd) (hs : u4 v < 1099511627776) (nm : ByteArray) (e0 : ¬ nm = sysS) (e1 : ¬ nm = negS) (e2 : ¬ nm = preS) (e3 : ¬ nm = sufS) (e4 : ¬ nm = ranS) (e5 : ¬ nm = qt) (e6 : ¬ nm = falS) (e7 : ¬ nm = symS) (e8 : ¬ nm = addS) : u3 Tryz.prog 22 [rsB S0] [.ptr 0 0, .val (.string nm), .sl 7 (v.map nF)] [rsB (zw S0 nm v)] (.tup []) := by
  have hl : v.length ≤ 1099511627776 := by have := u7 v; omega
  refine vu Tryz.func22 Tryz.ntmps22 rfl rfl rfl fun S w β => ?_
  rw [says_no S0 v nm e0 e1 e2 e3 e4 e5 e6 e7 e8]
  repeat (first | refine ue ?_ | refine ud ?_ | (refine ug ?_; first | refine uh tab_ok rfl rfl rfl rfl byE rfl ?_))
  refine uw (wD v hl) zc rfl rfl ⟨Sub.refl _, trivial⟩ rfl rfl rfl rfl ?_
  repeat (first | refine ue ?_ | refine uc ?_ | refine um ?_ | refine ud ?_ | refine uf ?_ | (refine ug ?_; first | refine uh tab_ok rfl rfl rfl rfl byE rfl ?_))
  refine uo rfl (fun h => absurd h e0) (fun _ => ?_)
  repeat (first | refine ue ?_ | refine uc ?_ | refine ud ?_ | refine uf ?_ | (refine ug ?_; first | refine uh tab_ok rfl rfl rfl rfl byE rfl ?_))
  refine uo rfl (fun h => absurd h e1) (fun _ => ?_)
  repeat (first | refine ue ?_ | refine uc ?_ | refine ud ?_ | refine uf ?_ | (refine ug ?_; first | refine uh tab_ok rfl rfl rfl rfl byE rfl ?_))
  refine uo rfl (fun h => absurd h e2) (fun _ => ?_)
  repeat (first | refine uc ?_ | refine ud ?_ | refine uf ?_ | (refine ug ?_; first | refine uh tab_ok rfl rfl rfl rfl byE rfl ?_))
  refine uo rfl (fun h => absurd h e3) (fun _ => ?_)
  repeat (first | refine ue ?_ | refine uc ?_ | refine ud ?_ | refine uf ?_ | (refine ug ?_; first | refine uh tab_ok rfl rfl rfl rfl byE rfl ?_))
  refine uo rfl (fun h => absurd h e4) (fun _ => ?_)
  repeat (first | refine ue ?_ | refine uc ?_ | refine ud ?_ | refine uf ?_ | (refine ug ?_; first | refine uh tab_ok rfl rfl rfl rfl byE rfl ?_))
  refine uo rfl (fun h => absurd h e5) (fun _ => ?_)
  repeat (first | refine ue ?_ | refine uc ?_ | refine ud ?_ | refine uf ?_ | (refine ug ?_; first | refine uh tab_ok rfl rfl rfl rfl byE rfl ?_))
  refine uo rfl (fun h => absurd h e6) (fun _ => ?_)
  repeat (first | refine ue ?_ | refine uc ?_ | refine ud ?_ | refine uf ?_ | (refine ug ?_; first | refine uh tab_ok rfl rfl rfl rfl byE rfl ?_))
  refine uo rfl (fun h => absurd h e7) (fun _ => ?_)
  repeat (first | refine ue ?_ | refine uc ?_ | refine ud ?_ | refine uf ?_ | (refine ug ?_; first | refine uh tab_ok rfl rfl rfl rfl byE rfl ?_))
  refine uo rfl (fun h => absurd h e8) (fun _ => ?_)
  repeat (first | refine ut ?_ | refine uj ?_)
  all_goals exact vL [rsB S0] [] (ul byV byV ⟨trivial, trivial⟩) byO rfl rfl rfl
theorem rsays_ok (S0 : Sd) (v : List Nd) (hs : u4 v < 1099511627776) (ht : ∀ n ∈ v, n.tok.text.size ≤ 1099511627776) (hS : S0.said < 1000) (nm : ByteArray) : u3 Tryz.prog 22 [rsB S0] [.ptr 0 0, .val (.string nm), .sl 7 (v.map nF)] [rsB (zw S0 nm v)] (.tup []) := by
  by_cases e0 : nm = sysS
  · rw [e0]; exact says_sys S0 v hs ht
  by_cases e1 : nm = negS
  · rw [e1]; exact says_neg S0 v hs ht hS
  by_cases e2 : nm = preS
  · rw [e2]; exact says_pre S0 v hs ht hS
  by_cases e3 : nm = sufS
  · rw [e3]; exact says_suf S0 v hs ht hS
  by_cases e4 : nm = ranS
  · rw [e4]; exact says_ran S0 v hs ht hS
  by_cases e5 : nm = qt
  · rw [e5]; exact says_pad S0 v hs ht hS
  by_cases e6 : nm = falS
  · rw [e6]; exact says_fal S0 v hs ht hS
  by_cases e7 : nm = symS
  · rw [e7]; exact says_sym S0 v hs ht
  by_cases e8 : nm = addS
  · rw [e8]; exact says_add S0 v hs ht
  exact says_oth S0 v hs nm e0 e1 e2 e3 e4 e5 e6 e7 e8
end Go.Proofs.YtfmafehogfikmaaGreatDoor
