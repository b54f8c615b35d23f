/- DefineReads, walked. -/
import Derived.Test.YtfmafehogfikmaaGreatDoorpe
import Derived.Test.YtfmafehogfikmaaGreatDoorpb
import Derived.Test.YtfmafehogfikmaaGreatDoorIa
namespace Go.Proofs.YtfmafehogfikmaaGreatDoor
open Go Go.RowKit
set_option maxRecDepth 20000

theorem end_len (r : Rl) (h : RlOk r) : (ki r).1.symbols.length ≤ 1099511627776 ∧ (ki r).1.weights.length ≤ 1099511627776 ∧ (ki r).1.range.length ≤ 1099511627776 := by
  obtain ⟨_, _, _, _, _, _, s1, s2, s3, s4, s5⟩ := h
  have hz : zSd.symbols.length ≤ 1099511627776 ∧ zSd.weights.length ≤ 1099511627776 ∧ zSd.range.length ≤ 1099511627776 := by decide
  have he : (xk (v8 (sd0 (nmF r.pre).1) r.decls)).symbols.length ≤ 1099511627776 ∧ (xk (v8 (sd0 (nmF r.pre).1) r.decls)).weights.length ≤ 1099511627776 ∧ (xk (v8 (sd0 (nmF r.pre).1) r.decls)).range.length ≤ 1099511627776 := by
    rw [xk]
    split
    · exact ⟨Nat.le_trans s2 (by decide), Nat.le_trans s3 (by decide), Nat.le_trans s4 (by decide)⟩
    · exact ⟨Nat.le_trans s1 (by decide), Nat.le_trans s5 (by decide), Nat.le_trans s4 (by decide)⟩
  rw [ki]
  split
  · split
    · rw [endP]
      repeat' split
      · exact hz
      · exact he
      · exact hz
    · exact hz
  · exact hz
set_option maxHeartbeats 16000000 in
theorem lawReads (s n : ByteArray) (hs0 : s.size ≤ 9223372036854775807) (hn0 : n.size ≤ 9223372036854775807) : uI Tryz.prog 3 [.val (.string s), .val (.string n)] (.val (.bool true)) := by
  refine uP Tryz.func3 Tryz.ntmps3 rfl rfl rfl fun S w => ?_
  repeat (first | refine ue ?_ | refine uc ?_ | refine ud ?_ | refine uf ?_ | (refine ug ?_; first | refine uh tab_ok rfl rfl rfl rfl byE rfl ?_ | refine ux tab_ok rfl rfl rfl rfl rfl rfl byC (by first | exact fun _ => trivial | (intro h; simp at h; omega)) rfl ?_ | refine vI rfl rfl rfl rfl rfl rfl rfl rfl ?_))
  refine uA rfl (fun h => ?_) (fun h => ?_)
  · repeat (first | refine ue ?_ | refine ud ?_)
    refine uw awake10_ok call4 rfl rfl trivial rfl rfl rfl rfl ?_
    repeat (first | refine uc ?_ | refine uk ?_ | refine un ?_ | refine uf ?_ | (refine ug ?_; first | refine uh tab_ok rfl rfl rfl rfl byE rfl ?_) | refine vB byO rfl rfl rfl ?_)
    exact Sub.refl _
  simp only [Bool.or_eq_false_iff, decide_eq_false_iff_not] at h
  obtain ⟨ha, hb⟩ := h
  repeat (first | refine ue ?_ | refine ud ?_ | refine uj ?_ | (refine ug ?_; first | refine uh tab_ok rfl rfl rfl rfl byE rfl ?_))
  refine uw (rulesA_ok s (by omega)) call5 rfl rfl ⟨Sub.refl _, trivial⟩ rfl rfl rfl rfl ?_
  have hok := rl_okS s (by omega)
  have hl5 := (shN_sz (zW s)).1
  generalize (shN (zW s)).1 = l at hok hl5 ⊢
  have hlm : (l.map rlD).length = l.length := List.length_map _
  repeat (first | refine ue ?_ | refine uc ?_ | refine um ?_ | refine ud ?_ | refine uf ?_ | (refine ug ?_; first | refine uh tab_ok rfl rfl rfl rfl byE rfl ?_))
  refine uV (σ := {i : Nat // i ≤ l.length}) (fun _ => []) (fun x => [(0, .val (.string s)), (1, .val (.string n)), (5, .sl 4 (l.map rlD)), (6, .val (.int .i64 x.1))]) (fun x => l.length - x.1) ⟨0, Nat.zero_le _⟩ (uy byV byV) ?_
  rintro ⟨i, hi⟩
  dsimp only
  repeat (first | refine ue ?_ | refine uc ?_ | refine ud ?_ | refine uf ?_ | (refine ug ?_; first | refine uG tab_ok rfl rfl rfl rfl rfl rfl rfl ?_ | refine uh tab_ok rfl rfl rfl rfl byE rfl ?_))
  refine uo rfl (fun hlt => ?_) (fun hge => ?_)
  · have hi' : i < l.length := by omega
    have hr := hok l[i] (List.getElem_mem hi')
    obtain ⟨e1, e2, e3⟩ := end_len l[i] hr
    repeat (first | refine ue ?_ | refine um ?_ | refine ud ?_ | refine uj ?_ | (refine ug ?_; first | refine uh tab_ok rfl rfl rfl rfl byE rfl ?_ | refine vf tab_ok rfl rfl rfl rfl rfl rfl rfl (by first | exact ⟨by omega, by omega⟩ | (simp; omega)) rfl rfl ?_))
    try simp only [Int.toNat_natCast]
    refine uw (dparse_ok l[i] hr) call6 rfl rfl ⟨Sub.refl _, trivial⟩ rfl rfl rfl rfl ?_
    repeat (first | refine ue ?_ | refine ud ?_ | refine uf ?_ | (refine ug ?_; first | refine uh tab_ok rfl rfl rfl rfl byE rfl ?_ | refine vf tab_ok rfl rfl rfl rfl rfl rfl rfl (by first | exact ⟨by omega, by omega⟩ | (simp; omega)) rfl rfl ?_ | refine vp tab_ok rfl rfl rfl rfl rfl ?_ | refine uM tab_ok rfl rfl rfl rfl ?_))
    try simp only [Int.toNat_natCast]
    refine uw (rparse_ok l[i] hr) call7 rfl rfl ⟨Sub.refl _, trivial⟩ rfl rfl rfl rfl ?_
    generalize (ki l[i]).1 = E at e1 e2 e3 ⊢
    generalize (ki l[i]).2 = q
    repeat (first | refine ue ?_ | refine wN vM (by kernel_rfl) ?_ | refine uf ?_ | (refine ug ?_; first | refine uh tab_ok rfl rfl rfl rfl byE rfl ?_ | refine uJ tab_ok rfl rfl rfl rfl rfl ?_ | refine vp tab_ok rfl rfl rfl rfl rfl ?_ | refine uM tab_ok rfl rfl rfl rfl ?_))
    refine uw (flat10_ok E) call9 rfl rfl ⟨Sub.refl _, trivial⟩ rfl rfl rfl rfl ?_
    repeat (first | (refine ug ?_; first | refine uJ tab_ok rfl rfl rfl rfl rfl ?_))
    refine uw (same_self E e1 e2 e3) call8 rfl rfl ⟨Sub.refl _, Sub.refl _, trivial⟩ rfl rfl rfl rfl ?_
    repeat (first | refine uc ?_ | refine vG ?_ | (refine ug ?_; first | refine uh tab_ok rfl rfl rfl rfl byE rfl ?_ | refine uD rfl rfl rfl rfl rfl rfl rfl ?_ | refine uY tab_ok rfl rfl rfl rfl rfl rfl (by first | exact trivial | omega) rfl ?_))
    refine vz rfl (fun hne => absurd rfl hne) (fun _ => ?_)
    repeat (first | refine uc ?_ | refine ud ?_ | refine uj ?_ | refine uf ?_ | (refine ug ?_; first | refine uh tab_ok rfl rfl rfl rfl byE rfl ?_))
    exact ⟨⟨i + 1, hi'⟩, by dsimp only; omega, u2 0 rfl rfl byK⟩
  · clear hok hl5 hlm hi hge
    repeat (first | refine ue ?_ | refine ud ?_ | refine uC ?_ | (refine ug ?_; first | refine uh tab_ok rfl rfl rfl rfl byE rfl ?_))
    refine uw (nodes10_ok n (by omega)) call10 rfl rfl ⟨Sub.refl _, trivial⟩ rfl rfl rfl rfl ?_
    have hz := nds_len n
    have ht : ∀ m ∈ zW n, m.tok.text.size ≤ 1099511627776 := fun m hm => by have := (nodes_sz n m hm).1; omega
    generalize zW n = X at hz ht ⊢
    have hxl := u7 X
    have hxm : (X.map nF).length = X.length := List.length_map _
    repeat (first | refine ue ?_ | refine ud ?_ | refine uf ?_ | (refine ug ?_; first | refine uh tab_ok rfl rfl rfl rfl byE rfl ?_))
    refine uw (kh X (by omega) ht) call11 rfl rfl ⟨Sub.refl _, trivial⟩ rfl rfl rfl rfl ?_
    repeat (first | refine ue ?_ | refine ud ?_ | refine uf ?_ | (refine ug ?_; first | refine uh tab_ok rfl rfl rfl rfl byE rfl ?_))
    refine uw (rname_ok X (by omega) ht) call12 rfl rfl ⟨Sub.refl _, trivial⟩ rfl rfl rfl rfl ?_
    repeat (first | refine ue ?_ | refine uc ?_ | refine ud ?_ | refine uf ?_ | (refine ug ?_; first | refine uh tab_ok rfl rfl rfl rfl byE rfl ?_) | refine r_g rfl rfl (congrArg (fun b => AV.val (.bool b)) (v4 rfl)) ?_ | refine uD rfl rfl (congrArg (fun b => AV.val (.bool b)) (v4 rfl)) rfl rfl rfl rfl ?_)
    refine uA rfl (fun h => absurd h (by simp)) (fun _ => ?_)
    repeat (first | refine ue ?_ | refine uc ?_ | refine um ?_ | refine ud ?_ | refine uj ?_ | refine uf ?_ | (refine ug ?_; first | refine uh tab_ok rfl rfl rfl rfl byE rfl ?_))
    refine uV (σ := {i : Nat // i ≤ X.length}) (fun _ => []) (fun x => [(11, .sl 7 (X.map nF)), (16, .val (.int .i64 x.1))]) (fun x => X.length - x.1) ⟨0, Nat.zero_le _⟩ (uy byV byV) ?_
    rintro ⟨i, hi⟩
    dsimp only
    repeat (first | refine ue ?_ | refine uc ?_ | refine ud ?_ | refine uf ?_ | (refine ug ?_; first | refine uG tab_ok rfl rfl rfl rfl rfl rfl rfl ?_ | refine uh tab_ok rfl rfl rfl rfl byE rfl ?_))
    refine uo rfl (fun hlt => ?_) (fun hge => ?_)
    · have hi' : i < X.length := by omega
      repeat (first | refine ue ?_ | refine um ?_ | refine ud ?_ | refine uj ?_ | (refine ug ?_; first | refine uh tab_ok rfl rfl rfl rfl byE rfl ?_ | refine vf tab_ok rfl rfl rfl rfl rfl rfl rfl (by first | exact ⟨by omega, by omega⟩ | (simp; omega)) rfl rfl ?_))
      try simp only [Int.toNat_natCast]
      refine uw (wC X[i]) ze rfl rfl ⟨Sub.refl _, trivial⟩ rfl rfl rfl rfl ?_
      repeat (first | refine ue ?_ | refine ud ?_ | refine uf ?_ | (refine ug ?_; first | refine uh tab_ok rfl rfl rfl rfl byE rfl ?_ | refine vf tab_ok rfl rfl rfl rfl rfl rfl rfl (by first | exact ⟨by omega, by omega⟩ | (simp; omega)) rfl rfl ?_))
      try simp only [Int.toNat_natCast]
      refine uw (xB X[i]) zX rfl rfl ⟨Sub.refl _, trivial⟩ rfl rfl rfl rfl ?_
      repeat (first | refine ue ?_ | refine uc ?_ | refine ud ?_ | refine uf ?_ | (refine ug ?_; first | refine uh tab_ok rfl rfl rfl rfl byE rfl ?_) | refine r_g rfl rfl (congrArg (fun b => AV.val (.bool b)) (v4 rfl)) ?_ | refine uD rfl rfl (congrArg (fun b => AV.val (.bool b)) (v4 rfl)) rfl rfl rfl rfl ?_)
      refine uA rfl (fun h => absurd h (by simp)) (fun _ => ?_)
      repeat (first | refine uc ?_ | refine ud ?_ | refine uj ?_ | refine uf ?_ | (refine ug ?_; first | refine uh tab_ok rfl rfl rfl rfl byE rfl ?_))
      exact ⟨⟨i + 1, hi'⟩, by dsimp only; omega, uy byV byV⟩
    · repeat (first | refine ue ?_ | refine ud ?_ | refine uC ?_)
      refine uw awake10_ok call4 rfl rfl trivial rfl rfl rfl rfl ?_
      repeat (first | refine uc ?_ | refine uk ?_ | refine uf ?_ | (refine ug ?_; first | refine uh tab_ok rfl rfl rfl rfl byE rfl ?_) | refine vB byO rfl rfl rfl ?_)
      exact Sub.refl _
end Go.Proofs.YtfmafehogfikmaaGreatDoor
