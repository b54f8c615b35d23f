/- Scope: Reset. -/
import Derived.Test.YtajbbcnfohbieaaS6
namespace Go.Proofs.Ytajbbcnfohbieaa
open Go Go.RowKit

theorem subs2 {x y x' y' : AV} (h : Sub x x') (k : Sub y y') : Subs [x, y] [x', y'] := ⟨h, k, trivial⟩
theorem StepG.offu {P : Program} {ops : Array Oper} {o : Oper} {M : List AB} {F : Nat → AV} {j : Nat} {want : Bool} {g : Tmp} (hg : o.guard = some (j, want)) (hj : dstOf ops j = some g) (hF : F g = .val undef) : StepG P ops o M F M (.val undef) := by
  intro S B β a w hm hs K Q hK
  have h1 := hs g (guard_mem hg hj)
  rw [hF] at h1
  have hy := yielded_of (a := a) hj h1
  have hw : Region.wanted o (yielded ops a.tmps) = false := by simp [Region.wanted, hg, hy, boolOf, undef]
  rw [hw]
  exact hK undef β w (Ev.refl _ _ _) hm rfl
/-- An operation whose guard was not carried out. -/
theorem r_offu {P : Program} {ops : Array Oper} {N : Nat} {K : AS → Prop} {o : Oper} {r : List Oper} {fo fo' : Option (List Nat)} {M : List AB} {F : List (Nat × AV)} {dt : Tmp} {j : Nat} {want : Bool} {g : Tmp} (hg : o.guard = some (j, want)) (hj : dstOf ops j = some g) (hF : look F g = .val undef) (hdd : o.dst = some dt) (hd : dstB o.dst N = true)
    (hp : popF fo 0 = some fo') (k : RunX P ops N K r fo' (M) ((dt, (.val undef)) :: F)) : RunX P ops N K (o :: r) fo M F :=
  RunX.mk (fun _ k => Run.pure_ hd (fun _ => StepG.offu hg hj hF) (by rw [put_eq hdd]; exact k)) hp k
def delQ (l : List Ctr) (of : Int) (sib : List Int) (i : Nat) : Bool := decide ((l.getD i default).of = of) || decide ((l.getD i default).of ∈ sib)
/-- What is left of the counters ahead of a new one. -/
def leftL (l : List Ctr) (of : Int) (sib : List Int) (name : ByteArray) : List Ctr :=
  if 0 ≤ innerF l name then (if delQ l of sib (innerF l name).toNat = true then l.take (innerF l name).toNat ++ l.drop ((innerF l name).toNat + 1) else l) else l
def newC (of : Int) (p : Pr) : Ctr := ⟨p.name, of, if p.auto then 0 else p.n, p.rev⟩
def resetL (l : List Ctr) (of : Int) (sib : List Int) (p : Pr) : List Ctr := leftL l of sib p.name ++ [newC of p]
theorem left_le (l : List Ctr) (of : Int) (sib : List Int) (name : ByteArray) : (leftL l of sib name).length ≤ l.length := by
  unfold leftL
  split
  · split
    · simp; omega
    · exact Nat.le_refl _
  · exact Nat.le_refl _
set_option maxHeartbeats 1000000 in
theorem reset_ok (l : List Ctr) (of : Int) (sib : List Int) (p : Pr) (hl : l.length ≤ 100000) (hsl : sib.length ≤ 4611686018427387904) : PCalls Try.prog 7 [.sl 4 (l.map cD), .val (.int .i64 of), .sl 1 (sib.map iD), pA p] (.sl 4 ((resetL l of sib p).map cD)) := by
  refine p_start Try.func7 Try.ntmps7 rfl rfl rfl fun S w => ?_
  have hin := inner_lt l p.name
  repeat (first
    | refine awp_seq ?_
    | refine a_region ?_
    | refine r_done ?_
    | (refine r_id ?_; first
      | refine r_ev tab_ok rfl rfl rfl rfl (by first | exact trivial | exact ⟨by omega, by omega⟩ | omega | exact ⟨by omega, by omega, by omega, by omega⟩ | exact Nat.le_of_ble_eq_true rfl) rfl ?_
      | refine r_wr tab_ok rfl rfl rfl rfl rfl ?_))
  refine r_rcall (clone_ok l (by omega)) call20 rfl rfl ⟨Sub.refl _, trivial⟩ rfl rfl rfl rfl rfl rfl ?_
  repeat (first
    | refine awp_seq ?_
    | refine a_region ?_
    | refine r_done ?_
    | (refine r_id ?_; first
      | refine r_ev tab_ok rfl rfl rfl rfl (by first | exact trivial | exact ⟨by omega, by omega⟩ | omega | exact ⟨by omega, by omega, by omega, by omega⟩ | exact Nat.le_of_ble_eq_true rfl) rfl ?_
      | refine r_ld tab_ok rfl rfl rfl rfl rfl ?_))
  refine r_mro [1] (mcalls_lend (inner_ok l p.name) (M0 := [.row 0 38 4 (l.map cD)]) (xs := [.row 0 0, .val (.string p.name)]) ⟨.inr ⟨0, 0, _, _, _, rfl, rfl, rfl⟩, .inl ⟨rfl, rfl⟩, trivial⟩ rfl) call21 rfl rfl ⟨rfl, trivial⟩ (by decide) ⟨Sub.refl _, Sub.refl _, trivial⟩ rfl rfl rfl rfl rfl rfl ?_
  repeat (first
    | refine awp_seq ?_
    | refine r_done ?_
    | (refine r_id ?_; first
      | refine r_ev tab_ok rfl rfl rfl rfl (by first | exact trivial | exact ⟨by omega, by omega⟩ | omega | exact ⟨by omega, by omega, by omega, by omega⟩ | exact Nat.le_of_ble_eq_true rfl) rfl ?_))
  refine awp_fits (s' := ⟨[.box 28 [.val (.string p.name), .val (.int .i64 p.n), .val (.bool p.rev), .val (.bool p.auto)], .row 0 38 4 (l.map cD)], [(1, .val (.int .i64 of)), (2, .sl 1 (sib.map iD)), (7, .ptr 0 0), (9, .row 1 0), (10, .val (.int .i64 (innerF l p.name)))]⟩) (fits_conv (by repeat' first | exact trivial | exact rfl | (rw [List.map_append]; first | done | rfl) | exact c_sub rfl (Sub.refl _) rfl | exact c_nil rfl rfl | exact c_thaw rfl rfl rfl | exact c_row rfl rfl rfl | exact c_row rfl rfl (by rw [List.map_append]; first | done | rfl) | exact c_ptr rfl rfl rfl rfl | exact Or.inl ⟨c_sub rfl (Sub.refl _) rfl, c_ptr rfl rfl rfl rfl⟩ | exact c_alt rfl rfl rfl rfl | exact c_ro rfl rfl | exact c_eo rfl rfl | exact c_sub rfl (Sub.altl _ _) rfl | exact c_sub rfl (Sub.nil _) rfl | refine ⟨_, _, rfl, ?_, ?_⟩ | apply And.intro) (by repeat' first | exact trivial | exact rfl | (rw [List.map_append]; first | done | rfl) | exact c_sub rfl (Sub.refl _) rfl | exact c_nil rfl rfl | exact c_thaw rfl rfl rfl | exact c_row rfl rfl rfl | exact c_row rfl rfl (by rw [List.map_append]; first | done | rfl) | exact c_ptr rfl rfl rfl rfl | exact Or.inl ⟨c_sub rfl (Sub.refl _) rfl, c_ptr rfl rfl rfl rfl⟩ | exact c_alt rfl rfl rfl rfl | exact c_ro rfl rfl | exact c_eo rfl rfl | exact c_sub rfl (Sub.altl _ _) rfl | exact c_sub rfl (Sub.nil _) rfl | refine ⟨_, _, rfl, ?_, ?_⟩ | apply And.intro)) ?_
  rcases Int.lt_or_le (innerF l p.name) 0 with hneg | hpos
  · have he : innerF l p.name = -1 := by omega
    have hleft : leftL l of sib p.name = l := if_neg (by omega)
    rw [he]
    repeat (first
      | refine a_region ?_
      | (refine r_id ?_; first
        | refine r_ev tab_ok rfl rfl rfl rfl (by first | exact trivial | exact ⟨by omega, by omega⟩ | omega | exact ⟨by omega, by omega, by omega, by omega⟩ | exact Nat.le_of_ble_eq_true rfl) rfl ?_
        | refine r_off rfl rfl rfl rfl rfl rfl ?_))
    refine r_offu rfl rfl rfl rfl rfl rfl ?_
    refine r_offu rfl rfl rfl rfl rfl rfl ?_
    refine r_offu rfl rfl rfl rfl rfl rfl ?_
    refine r_offu rfl rfl rfl rfl rfl rfl ?_
    refine r_offu rfl rfl rfl rfl rfl rfl ?_
    refine r_offu rfl rfl rfl rfl rfl rfl ?_
    refine r_offu rfl rfl rfl rfl rfl rfl ?_
    repeat (first
      | refine awp_seq ?_
      | refine thenA_normal ?_
      | refine a_region ?_
      | refine awp_skip ?_
      | refine r_done ?_
      | (refine r_id ?_; first
        | refine r_ev tab_ok rfl rfl rfl rfl (by first | exact trivial | exact ⟨by omega, by omega⟩ | omega | exact ⟨by omega, by omega, by omega, by omega⟩ | exact Nat.le_of_ble_eq_true rfl) rfl ?_
        | refine r_ld tab_ok rfl rfl rfl rfl rfl ?_
        | refine r_wr tab_ok rfl rfl rfl rfl rfl ?_
        | refine r_st tab_ok rfl rfl rfl rfl ?_
        | refine r_pick_f rfl rfl rfl rfl rfl rfl rfl ?_
        | refine r_off rfl rfl rfl rfl rfl rfl ?_
        | refine r_build tab_ok rfl rfl rfl rfl rfl rfl ?_)
      | refine awp_cond_f rfl ?_)
    refine awp_cond rfl (fun ha => ?_) (fun ha => ?_)
    · repeat (first
        | refine awp_seq ?_
        | refine thenA_normal ?_
        | refine a_region ?_
        | refine awp_ret ?_
        | refine r_done ?_
        | (refine r_id ?_; first
          | refine r_ev tab_ok rfl rfl rfl rfl (by first | exact trivial | exact ⟨by omega, by omega⟩ | omega | exact ⟨by omega, by omega, by omega, by omega⟩ | exact Nat.le_of_ble_eq_true rfl) rfl ?_
          | refine r_ld tab_ok rfl rfl rfl rfl rfl ?_
          | refine r_st tab_ok rfl rfl rfl rfl ?_
          | refine r_built tab_ok rfl rfl rfl rfl rfl rfl rfl rfl rfl ?_
          | refine r_append tab_ok rfl rfl rfl rfl rfl rfl rfl rfl rfl (by first | omega | (simp; omega)) rfl ?_)
        | refine ret1_row (by first | exact .inl rfl | exact .inr rfl) rfl rfl rfl ?_)
      have e : resetL l of sib p = l ++ [(⟨p.name, of, 0, p.rev⟩ : Ctr)] := by rw [resetL, hleft, newC, ha]; rfl
      rw [e, List.map_append]
      exact Sub.refl _
    · repeat (first
        | refine awp_seq ?_
        | refine thenA_normal ?_
        | refine a_region ?_
        | refine awp_ret ?_
        | refine awp_skip ?_
        | refine r_done ?_
        | (refine r_id ?_; first
          | refine r_ev tab_ok rfl rfl rfl rfl (by first | exact trivial | exact ⟨by omega, by omega⟩ | omega | exact ⟨by omega, by omega, by omega, by omega⟩ | exact Nat.le_of_ble_eq_true rfl) rfl ?_
          | refine r_ld tab_ok rfl rfl rfl rfl rfl ?_
          | refine r_built tab_ok rfl rfl rfl rfl rfl rfl rfl rfl rfl ?_
          | refine r_append tab_ok rfl rfl rfl rfl rfl rfl rfl rfl rfl (by first | omega | (simp; omega)) rfl ?_)
        | refine ret1_row (by first | exact .inl rfl | exact .inr rfl) rfl rfl rfl ?_)
      have e : resetL l of sib p = l ++ [(⟨p.name, of, p.n, p.rev⟩ : Ctr)] := by rw [resetL, hleft, newC, ha]; rfl
      rw [e, List.map_append]
      exact Sub.refl _
  · obtain ⟨i, hi⟩ : ∃ i : Nat, innerF l p.name = i := ⟨(innerF l p.name).toNat, by omega⟩
    have hil : i < l.length := by omega
    rw [hi]
    repeat (first
      | refine a_region ?_
      | (refine r_id ?_; first
        | refine r_ev tab_ok rfl rfl rfl rfl (by first | exact trivial | exact ⟨by omega, by omega⟩ | omega | exact ⟨by omega, by omega, by omega, by omega⟩ | exact Nat.le_of_ble_eq_true rfl) rfl ?_
        | refine r_ev_cnd tab_ok rfl rfl rfl rfl rfl rfl (by first | exact fun _ => rfl | exact cs1 | exact cs2 | exact cs3) (by first | exact fun _ => trivial | (intro h; simp at h; first | exact ⟨by omega, by omega⟩ | omega)) rfl ?_
        | refine r_fielde_cnd tab_ok rfl rfl rfl rfl rfl rfl rfl (by first | exact fun _ => rfl | exact cs1 | exact cs2 | exact cs3) rfl rfl rfl ?_
        | refine r_idxr_cnd tab_ok rfl rfl rfl rfl rfl rfl rfl rfl (by first | exact fun _ => rfl | exact cs1 | exact cs2) rfl rfl (by first | (intro _; exact ⟨by omega, by omega⟩) | (intro h; simp at h ⊢; omega)) rfl ?_
        | refine r_lde_cnd tab_ok rfl rfl rfl rfl rfl rfl rfl (by first | exact fun _ => rfl | exact cs1 | exact cs2) (by omega) rfl rfl rfl rfl ?_))
    refine r_call_cnd (fun _ => contains_ok sib (l[((i : Nat) : Int).toNat]'hil).of hsl) call22 rfl rfl rfl rfl (by first | exact fun _ => rfl | exact cs1 | exact cs2 | exact cs3) (subs2 (Sub.refl _) (Sub.refl _)) rfl rfl rfl rfl ?_
    repeat (first
      | refine thenA_normal ?_
      | refine r_done ?_
      | (refine r_id ?_; first
        | refine r_or_cnd rfl rfl rfl rfl rfl rfl rfl rfl rfl rfl ?_
        | refine r_and rfl rfl rfl rfl rfl rfl rfl rfl ?_))
    have hle : (l.take i ++ l.drop (i + 1)).length ≤ l.length := by simp; omega
    have e0 : (l.getD i default) = l[((i : Nat) : Int).toNat]'hil := by simp [hil]
    refine awp_cond rfl (fun h => ?_) (fun h => ?_)
    · have hd : delQ l of sib i = true := by
        rw [Bool.and_eq_true] at h
        rw [delQ, e0]; exact h.2
      have hleft : leftL l of sib p.name = l.take i ++ l.drop (i + 1) := by rw [leftL, if_pos hpos, hi]; exact if_pos hd
      repeat (first
        | refine a_region ?_
        | (refine r_id ?_; first
          | refine r_ev tab_ok rfl rfl rfl rfl (by first | exact trivial | exact ⟨by omega, by omega⟩ | omega | exact ⟨by omega, by omega, by omega, by omega⟩ | exact Nat.le_of_ble_eq_true rfl) rfl ?_))
      refine r_mcall [1] (delete_ok l i (i + 1) (by omega) (by omega) (by omega)) call23 rfl rfl ⟨rfl, trivial⟩ (by decide) ⟨Sub.refl _, Sub.refl _, Sub.refl _, trivial⟩ rfl rfl rfl rfl rfl rfl rfl ?_
      repeat (first
        | refine awp_seq ?_
        | refine thenA_normal ?_
        | refine a_region ?_
        | refine r_done ?_
        | (refine r_id ?_; first
          | refine r_ev tab_ok rfl rfl rfl rfl (by first | exact trivial | exact ⟨by omega, by omega⟩ | omega | exact ⟨by omega, by omega, by omega, by omega⟩ | exact Nat.le_of_ble_eq_true rfl) rfl ?_
          | refine r_ld tab_ok rfl rfl rfl rfl rfl ?_
          | refine r_wr tab_ok rfl rfl rfl rfl rfl ?_
          | refine r_st tab_ok rfl rfl rfl rfl ?_
          | refine r_build tab_ok rfl rfl rfl rfl rfl rfl ?_))
      refine awp_cond rfl (fun ha => ?_) (fun ha => ?_)
      · repeat (first
          | refine awp_seq ?_
          | refine thenA_normal ?_
          | refine a_region ?_
          | refine awp_ret ?_
          | refine r_done ?_
          | (refine r_id ?_; first
            | refine r_ev tab_ok rfl rfl rfl rfl (by first | exact trivial | exact ⟨by omega, by omega⟩ | omega | exact ⟨by omega, by omega, by omega, by omega⟩ | exact Nat.le_of_ble_eq_true rfl) rfl ?_
            | refine r_ld tab_ok rfl rfl rfl rfl rfl ?_
            | refine r_st tab_ok rfl rfl rfl rfl ?_
            | refine r_built tab_ok rfl rfl rfl rfl rfl rfl rfl rfl rfl ?_
            | refine r_append tab_ok rfl rfl rfl rfl rfl rfl rfl rfl rfl (by first | omega | (simp; omega)) rfl ?_)
          | refine ret1_row (by first | exact .inl rfl | exact .inr rfl) rfl rfl rfl ?_)
        have e : resetL l of sib p = (l.take i ++ l.drop (i + 1)) ++ [(⟨p.name, of, 0, p.rev⟩ : Ctr)] := by rw [resetL, hleft, newC, ha]; rfl
        rw [e]
        exact Sub.of_eq (congrArg (AV.sl 4) (List.map_append (f := cD) (l₁ := l.take i ++ l.drop (i + 1)) (l₂ := [(⟨p.name, of, 0, p.rev⟩ : Ctr)])).symm)
      · repeat (first
          | refine awp_seq ?_
          | refine thenA_normal ?_
          | refine a_region ?_
          | refine awp_ret ?_
          | refine awp_skip ?_
          | refine r_done ?_
          | (refine r_id ?_; first
            | refine r_ev tab_ok rfl rfl rfl rfl (by first | exact trivial | exact ⟨by omega, by omega⟩ | omega | exact ⟨by omega, by omega, by omega, by omega⟩ | exact Nat.le_of_ble_eq_true rfl) rfl ?_
            | refine r_ld tab_ok rfl rfl rfl rfl rfl ?_
            | refine r_built tab_ok rfl rfl rfl rfl rfl rfl rfl rfl rfl ?_
            | refine r_append tab_ok rfl rfl rfl rfl rfl rfl rfl rfl rfl (by first | omega | (simp; omega)) rfl ?_)
          | refine ret1_row (by first | exact .inl rfl | exact .inr rfl) rfl rfl rfl ?_)
        have e : resetL l of sib p = (l.take i ++ l.drop (i + 1)) ++ [(⟨p.name, of, p.n, p.rev⟩ : Ctr)] := by rw [resetL, hleft, newC, ha]; rfl
        rw [e]
        exact Sub.of_eq (congrArg (AV.sl 4) (List.map_append (f := cD) (l₁ := l.take i ++ l.drop (i + 1)) (l₂ := [(⟨p.name, of, p.n, p.rev⟩ : Ctr)])).symm)
    · have hd : ¬ delQ l of sib i = true := by
        intro hd
        rw [delQ, e0] at hd
        rw [decide_eq_true (show (0 : Int) ≤ (i : Int) by omega), Bool.true_and] at h
        exact absurd (hd.symm.trans h) (by decide)
      have hleft : leftL l of sib p.name = l := by rw [leftL, if_pos hpos, hi]; exact if_neg hd
      repeat (first
        | refine awp_seq ?_
        | refine thenA_normal ?_
        | refine a_region ?_
        | refine awp_skip ?_
        | refine r_done ?_
        | (refine r_id ?_; first
          | refine r_ev tab_ok rfl rfl rfl rfl (by first | exact trivial | exact ⟨by omega, by omega⟩ | omega | exact ⟨by omega, by omega, by omega, by omega⟩ | exact Nat.le_of_ble_eq_true rfl) rfl ?_
          | refine r_ld tab_ok rfl rfl rfl rfl rfl ?_
          | refine r_wr tab_ok rfl rfl rfl rfl rfl ?_
          | refine r_st tab_ok rfl rfl rfl rfl ?_
          | refine r_build tab_ok rfl rfl rfl rfl rfl rfl ?_))
      refine awp_cond rfl (fun ha => ?_) (fun ha => ?_)
      · repeat (first
          | refine awp_seq ?_
          | refine thenA_normal ?_
          | refine a_region ?_
          | refine awp_ret ?_
          | refine r_done ?_
          | (refine r_id ?_; first
            | refine r_ev tab_ok rfl rfl rfl rfl (by first | exact trivial | exact ⟨by omega, by omega⟩ | omega | exact ⟨by omega, by omega, by omega, by omega⟩ | exact Nat.le_of_ble_eq_true rfl) rfl ?_
            | refine r_ld tab_ok rfl rfl rfl rfl rfl ?_
            | refine r_st tab_ok rfl rfl rfl rfl ?_
            | refine r_built tab_ok rfl rfl rfl rfl rfl rfl rfl rfl rfl ?_
            | refine r_append tab_ok rfl rfl rfl rfl rfl rfl rfl rfl rfl (by first | omega | (simp; omega)) rfl ?_)
          | refine ret1_row (by first | exact .inl rfl | exact .inr rfl) rfl rfl rfl ?_)
        have e : resetL l of sib p = l ++ [(⟨p.name, of, 0, p.rev⟩ : Ctr)] := by rw [resetL, hleft, newC, ha]; rfl
        rw [e, List.map_append]
        exact Sub.refl _
      · repeat (first
          | refine awp_seq ?_
          | refine thenA_normal ?_
          | refine a_region ?_
          | refine awp_ret ?_
          | refine awp_skip ?_
          | refine r_done ?_
          | (refine r_id ?_; first
            | refine r_ev tab_ok rfl rfl rfl rfl (by first | exact trivial | exact ⟨by omega, by omega⟩ | omega | exact ⟨by omega, by omega, by omega, by omega⟩ | exact Nat.le_of_ble_eq_true rfl) rfl ?_
            | refine r_ld tab_ok rfl rfl rfl rfl rfl ?_
            | refine r_built tab_ok rfl rfl rfl rfl rfl rfl rfl rfl rfl ?_
            | refine r_append tab_ok rfl rfl rfl rfl rfl rfl rfl rfl rfl (by first | omega | (simp; omega)) rfl ?_)
          | refine ret1_row (by first | exact .inl rfl | exact .inr rfl) rfl rfl rfl ?_)
        have e : resetL l of sib p = l ++ [(⟨p.name, of, p.n, p.rev⟩ : Ctr)] := by rw [resetL, hleft, newC, ha]; rfl
        rw [e, List.map_append]
        exact Sub.refl _
end Go.Proofs.Ytajbbcnfohbieaa
