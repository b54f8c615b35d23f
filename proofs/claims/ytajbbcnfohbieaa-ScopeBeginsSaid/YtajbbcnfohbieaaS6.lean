/- Scope: Value, some, Add, Put, Reset. -/
import Derived.Test.YtajbbcnfohbieaaS5
namespace Go.Proofs.Ytajbbcnfohbieaa
open Go Go.RowKit

theorem retM2 {P : Program} {fn : Func} {n : Nat} {x y r1 r2 : AV} {e : Exit} {M M1 : List AB} {F : List (Nat × AV)} {t u : Tmp} (he : e = .normal ∨ e = .ret) (hr : fn.results.toList = [.tmp t, .tmp u]) (hx : nf (look F t) = some x) (hy : nf (look F u) = some y) (hf : (x.under n && y.under n) = true) (hM : M.take n = M1) (hu : M1.all (AB.under n) = true) (h : Sub x r1) (k : Sub y r2) : retM P fn n M1 (.tup [r1, r2]) e ⟨M, F⟩ := by
  rw [Bool.and_eq_true] at hf
  refine ⟨he, hM, hu, [x, y], by rw [hr]; exact .cons (.tmp (by rw [nf_eq hx]; exact Sub.refl _) (by rw [nf_eq hx]; exact hf.1)) (.cons (.tmp (by rw [nf_eq hy]; exact Sub.refl _) (by rw [nf_eq hy]; exact hf.2)) .nil), ?_⟩
  rintro M β w imm v ⟨cs, h1, ⟨v1, r, e1, s1, v2, r', e2, s2, s3⟩⟩
  exact ⟨cs, h1, v1, r, e1, h _ _ _ _ _ s1, v2, r', e2, k _ _ _ _ _ s2, s3⟩
structure Pr where
  name : ByteArray
  n : Int
  rev : Bool
  auto : Bool
def pA (p : Pr) : AV := .agg [.val (.string p.name), .val (.int .i64 p.n), .val (.bool p.rev), .val (.bool p.auto)]
theorem inner_lt (l : List Ctr) (name : ByteArray) : -1 ≤ innerF l name ∧ innerF l name < l.length := lastI_lt _ l _
theorem value_ok (l : List Ctr) (name : ByteArray) (hl : l.length ≤ 4611686018427387904) : PCalls Try.prog 9 [.sl 4 (l.map cD), .val (.string name)] (.tup [.val (.int .i64 (if 0 ≤ innerF l name then (l.getD (innerF l name).toNat default).n else 0)), .val (.bool (decide (0 ≤ innerF l name)))]) := by
  refine p_start Try.func9 Try.ntmps9 rfl rfl rfl fun S w => ?_
  have hin := inner_lt l name
  repeat (first
    | refine awp_seq ?_
    | refine a_region ?_
    | refine r_done ?_
    | (refine r_id ?_; first
      | refine r_ev tab_ok rfl rfl rfl rfl (by first | exact trivial | exact ⟨by omega, by omega⟩ | omega | exact ⟨by omega, by omega, by omega, by omega⟩ | exact Nat.le_of_ble_eq_true rfl) rfl ?_))
  refine r_call (inner_ok l name) call21 rfl rfl ⟨Sub.refl _, Sub.refl _, trivial⟩ rfl rfl rfl rfl ?_
  repeat (first
    | refine awp_seq ?_
    | refine thenA_normal ?_
    | refine a_region ?_
    | refine r_done ?_
    | (refine r_id ?_; first
      | refine r_ev tab_ok rfl rfl rfl rfl (by first | exact trivial | exact ⟨by omega, by omega⟩ | omega | exact ⟨by omega, by omega, by omega, by omega⟩ | exact Nat.le_of_ble_eq_true rfl) rfl ?_))
  refine awp_cond_p rfl (fun h => ?_) (fun h => ?_)
  · repeat (first
      | refine awp_seq ?_
      | refine thenA_normal ?_
      | refine a_region ?_
      | refine awp_ret ?_
      | refine thenA_ret ?_
      | refine r_done ?_
      | (refine r_id ?_; first
        | refine r_ev tab_ok rfl rfl rfl rfl (by first | exact trivial | exact ⟨by omega, by omega⟩ | omega | exact ⟨by omega, by omega, by omega, by omega⟩ | exact Nat.le_of_ble_eq_true rfl) rfl ?_)
      | refine ret2 (by first | exact .inl rfl | exact .inr rfl) rfl rfl rfl rfl ?_ ?_)
    · exact Sub.of_eq (by rw [if_neg (by omega)])
    · exact Sub.of_eq (by rw [decide_eq_false (by omega)])
  · have hlt : (innerF l name).toNat < l.length := by omega
    repeat (first
      | refine awp_seq ?_
      | refine thenA_normal ?_
      | refine a_region ?_
      | refine awp_ret ?_
      | refine awp_skip ?_
      | refine r_done ?_
      | (refine r_id ?_; first
        | refine r_ev tab_ok rfl rfl rfl rfl (by first | exact trivial | exact ⟨by omega, by omega⟩ | omega | exact ⟨by omega, by omega, by omega, by omega⟩ | exact Nat.le_of_ble_eq_true rfl) rfl ?_
        | refine r_idx tab_ok rfl rfl rfl rfl rfl rfl rfl (by first | exact ⟨by omega, by omega⟩ | (simp; omega)) rfl rfl ?_)
      | refine ret2 (by first | exact .inl rfl | exact .inr rfl) rfl rfl rfl rfl ?_ ?_)
    · exact Sub.of_eq (by rw [if_pos (by omega)]; simp [hlt])
    · exact Sub.of_eq (by rw [decide_eq_true (by omega)])
def someL (l : List Ctr) (of : Int) (name : ByteArray) : List Ctr := if 0 ≤ innerF l name then l else l ++ [⟨name, of, 0, false⟩]
def someN (l : List Ctr) (name : ByteArray) : Nat := if 0 ≤ innerF l name then (innerF l name).toNat else l.length
theorem some_lt (l : List Ctr) (of : Int) (name : ByteArray) : someN l name < (someL l of name).length := by
  have := inner_lt l name
  unfold someN someL
  split
  · omega
  · simp
theorem some_len (l : List Ctr) (of : Int) (name : ByteArray) : (someL l of name).length ≤ l.length + 1 := by
  unfold someL
  split <;> simp
theorem some_ok (l : List Ctr) (of : Int) (name : ByteArray) (hl : l.length ≤ 100000) : MCalls Try.prog 24 [] [.sl 4 (l.map cD), .val (.int .i64 of), .val (.string name)] [.row 0 38 4 ((someL l of name).map cD)] (.tup [.row 0 0, .val (.int .i64 (someN l name))]) := by
  refine mcalls_ofn Try.func24 Try.ntmps24 rfl rfl rfl 1 (by decide) fun S w β => ?_
  have hlm : (l.map cD).length = l.length := List.length_map _
  have hin := inner_lt l name
  repeat (first
    | refine awp_seq ?_
    | refine a_region ?_
    | refine r_done ?_
    | (refine r_id ?_; first
      | refine r_ev tab_ok rfl rfl rfl rfl (by first | exact trivial | exact ⟨by omega, by omega⟩ | omega | exact ⟨by omega, by omega, by omega, by omega⟩ | exact Nat.le_of_ble_eq_true rfl) rfl ?_))
  refine r_call (inner_ok l name) call21 rfl rfl ⟨Sub.refl _, Sub.refl _, trivial⟩ rfl rfl rfl rfl ?_
  repeat (first
    | refine awp_seq ?_
    | refine thenA_normal ?_
    | refine a_region ?_
    | refine r_done ?_
    | (refine r_id ?_; first
      | refine r_ev tab_ok rfl rfl rfl rfl (by first | exact trivial | exact ⟨by omega, by omega⟩ | omega | exact ⟨by omega, by omega, by omega, by omega⟩ | exact Nat.le_of_ble_eq_true rfl) rfl ?_))
  refine awp_cond_p rfl (fun h => ?_) (fun h => ?_)
  · repeat (first
      | refine awp_seq ?_
      | refine a_region ?_
      | (refine r_id ?_; first
        | refine r_ev tab_ok rfl rfl rfl rfl (by first | exact trivial | exact ⟨by omega, by omega⟩ | omega | exact ⟨by omega, by omega, by omega, by omega⟩ | exact Nat.le_of_ble_eq_true rfl) rfl ?_))
    refine r_rcall (clone_ok l (by omega)) call20 rfl rfl ⟨Sub.refl _, trivial⟩ rfl rfl rfl rfl rfl rfl ?_
    repeat (first
      | refine thenA_normal ?_
      | refine awp_ret ?_
      | refine thenA_ret ?_
      | refine r_done ?_
      | (refine r_id ?_; first
        | refine r_ev tab_ok rfl rfl rfl rfl (by first | exact trivial | exact ⟨by omega, by omega⟩ | omega | exact ⟨by omega, by omega, by omega, by omega⟩ | exact Nat.le_of_ble_eq_true rfl) rfl ?_))
    have e1 : someL l of name = l := if_pos h
    have e2 : (innerF l name) = (someN l name : Int) := by rw [someN, if_pos h]; omega
    exact retM2 (.inr rfl) rfl rfl rfl rfl (by rw [e1]; rfl) rfl (Sub.refl _) (Sub.of_eq (by rw [e2]))
  · repeat (first
      | refine awp_seq ?_
      | refine a_region ?_
      | refine awp_skip ?_
      | (refine r_id ?_; first
        | refine r_ev tab_ok rfl rfl rfl rfl (by first | exact trivial | exact ⟨by omega, by omega⟩ | omega | exact ⟨by omega, by omega, by omega, by omega⟩ | exact Nat.le_of_ble_eq_true rfl) rfl ?_))
    refine r_rcall (clone_ok l (by omega)) call20 rfl rfl ⟨Sub.refl _, trivial⟩ rfl rfl rfl rfl rfl rfl ?_
    repeat (first
      | refine thenA_normal ?_
      | refine r_done ?_
      | (refine r_id ?_; first
        | refine r_len tab_ok rfl rfl rfl rfl rfl rfl rfl ?_
        | refine r_ev tab_ok rfl rfl rfl rfl (by first | exact trivial | exact ⟨by omega, by omega⟩ | omega | exact ⟨by omega, by omega, by omega, by omega⟩ | exact Nat.le_of_ble_eq_true rfl) rfl ?_
        | refine r_build tab_ok rfl rfl rfl rfl rfl rfl ?_
        | refine r_built tab_ok rfl rfl rfl rfl rfl rfl rfl rfl rfl ?_
        | refine r_append tab_ok rfl rfl rfl rfl rfl rfl rfl rfl rfl (by first | omega | (simp; omega)) rfl ?_))
    have e1 : someL l of name = l ++ [⟨name, of, 0, false⟩] := if_neg h
    have e2 : someN l name = l.length := if_neg h
    rw [e1, e2]
    refine awp_fits (s' := ⟨[.row 0 38 4 ((l ++ [(⟨name, of, 0, false⟩ : Ctr)]).map cD)], [(6, .row 0 0), (7, .val (.int .i64 l.length))]⟩) (fits_conv ?_ ?_) ?_
    · exact (by repeat' first | exact trivial | exact rfl | (rw [List.map_append]; first | done | rfl) | exact c_sub rfl (Sub.refl _) rfl | exact c_nil rfl rfl | exact c_thaw rfl rfl rfl | exact c_row rfl rfl rfl | exact c_row rfl rfl (by rw [List.map_append]; first | done | rfl) | exact c_ptr rfl rfl rfl rfl | exact Or.inl ⟨c_sub rfl (Sub.refl _) rfl, c_ptr rfl rfl rfl rfl⟩ | exact c_alt rfl rfl rfl rfl | exact c_ro rfl rfl | exact c_eo rfl rfl | exact c_sub rfl (Sub.altl _ _) rfl | exact c_sub rfl (Sub.nil _) rfl | refine ⟨_, _, rfl, ?_, ?_⟩ | apply And.intro)
    · exact ⟨c_row rfl rfl (by rw [List.map_append]; rfl), c_sub rfl (Sub.refl _) rfl, trivial⟩
    repeat (first
      | refine awp_ret ?_)
    exact retM2 (.inr rfl) rfl rfl rfl rfl rfl rfl (Sub.refl _) (Sub.refl _)
def addL (l : List Ctr) (of : Int) (p : Pr) : List Ctr :=
  let c := (someL l of p.name).getD (someN l p.name) default
  if c.n + p.n < -2147483648 ∨ 2147483647 < c.n + p.n then someL l of p.name else (someL l of p.name).set (someN l p.name) { c with n := c.n + p.n }
def putL (l : List Ctr) (of : Int) (p : Pr) : List Ctr :=
  (someL l of p.name).set (someN l p.name) { (someL l of p.name).getD (someN l p.name) default with n := p.n }
def Small (l : List Ctr) : Prop := ∀ c ∈ l, -4294967296 ≤ c.n ∧ c.n ≤ 4294967296
theorem small_some {l : List Ctr} (h : Small l) (of : Int) (name : ByteArray) : Small (someL l of name) := by
  intro c hc
  unfold someL at hc
  split at hc
  · exact h c hc
  · rcases List.mem_append.1 hc with hc | hc
    · exact h c hc
    · rw [List.mem_singleton] at hc
      subst hc
      exact ⟨by show (-4294967296 : Int) ≤ 0; decide, by show (0 : Int) ≤ 4294967296; decide⟩
theorem put_ok (l : List Ctr) (of : Int) (p : Pr) (hl : l.length ≤ 100000) : PCalls Try.prog 10 [.sl 4 (l.map cD), .val (.int .i64 of), pA p] (.sl 4 ((putL l of p).map cD)) := by
  refine p_start Try.func10 Try.ntmps10 rfl rfl rfl fun S w => ?_
  have hlt := some_lt l of p.name
  have hln := some_len l of p.name
  repeat (first
    | refine awp_seq ?_
    | refine a_region ?_
    | refine r_done ?_
    | (refine r_id ?_; first
      | refine r_ev tab_ok rfl rfl rfl rfl (by first | exact trivial | exact ⟨by omega, by omega⟩ | omega | exact ⟨by omega, by omega, by omega, by omega⟩ | exact Nat.le_of_ble_eq_true rfl) rfl ?_
      | refine r_ld tab_ok rfl rfl rfl rfl rfl ?_
      | refine r_wr tab_ok rfl rfl rfl rfl rfl ?_))
  refine r_rcall (some_ok l of p.name hl) call24 rfl rfl ⟨Sub.refl _, Sub.refl _, Sub.refl _, trivial⟩ rfl rfl rfl rfl rfl rfl ?_
  repeat (first
    | refine awp_seq ?_
    | refine a_region ?_
    | refine r_done ?_
    | (refine r_id ?_; first
      | refine r_ev tab_ok rfl rfl rfl rfl (by first | exact trivial | exact ⟨by omega, by omega⟩ | omega | exact ⟨by omega, by omega, by omega, by omega⟩ | exact Nat.le_of_ble_eq_true rfl) rfl ?_
      | refine r_ld tab_ok rfl rfl rfl rfl rfl ?_
      | refine r_idxr tab_ok rfl rfl rfl rfl rfl rfl rfl rfl (by first | exact ⟨by omega, by omega⟩ | (simp; omega)) rfl ?_
      | refine r_fielde tab_ok rfl rfl rfl rfl rfl rfl rfl rfl ?_))
  refine r_ste tab_ok ({ (someL l of p.name).getD (someN l p.name) default with n := p.n } : Ctr) rfl rfl rfl rfl rfl hlt rfl rfl rfl (by simp [hlt]; rfl) rfl rfl ?_
  repeat (first
    | refine awp_seq ?_
    | refine thenA_normal ?_
    | refine a_region ?_
    | refine awp_ret ?_
    | refine r_done ?_
    | (refine r_id ?_; first
      | refine r_ev tab_ok rfl rfl rfl rfl (by first | exact trivial | exact ⟨by omega, by omega⟩ | omega | exact ⟨by omega, by omega, by omega, by omega⟩ | exact Nat.le_of_ble_eq_true rfl) rfl ?_)
    | refine ret1_row (by first | exact .inl rfl | exact .inr rfl) rfl rfl rfl ?_)
  exact Sub.refl _
theorem add_ok (l : List Ctr) (of : Int) (p : Pr) (hl : l.length ≤ 100000) (hs : Small l) (hp : -4294967296 ≤ p.n ∧ p.n ≤ 4294967296) : PCalls Try.prog 8 [.sl 4 (l.map cD), .val (.int .i64 of), pA p] (.sl 4 ((addL l of p).map cD)) := by
  refine p_start Try.func8 Try.ntmps8 rfl rfl rfl fun S w => ?_
  have hlt := some_lt l of p.name
  have hln := some_len l of p.name
  have hsm := small_some hs of p.name _ (List.getElem_mem (n := ((someN l p.name : Nat) : Int).toNat) hlt)
  repeat (first
    | refine awp_seq ?_
    | refine a_region ?_
    | refine r_done ?_
    | (refine r_id ?_; first
      | refine r_ev tab_ok rfl rfl rfl rfl (by first | exact trivial | exact ⟨by omega, by omega⟩ | omega | exact ⟨by omega, by omega, by omega, by omega⟩ | exact Nat.le_of_ble_eq_true rfl) rfl ?_
      | refine r_ld tab_ok rfl rfl rfl rfl rfl ?_
      | refine r_wr tab_ok rfl rfl rfl rfl rfl ?_))
  refine r_rcall (some_ok l of p.name hl) call24 rfl rfl ⟨Sub.refl _, Sub.refl _, Sub.refl _, trivial⟩ rfl rfl rfl rfl rfl rfl ?_
  repeat (first
    | refine awp_seq ?_
    | refine thenA_normal ?_
    | refine a_draw1 mixed_ok (by kernel_rfl) ?_
    | refine r_done ?_
    | refine r_done' ?_
    | (refine r_id ?_; first
      | refine r_ev tab_ok rfl rfl rfl rfl (by first | exact trivial | exact ⟨by omega, by omega⟩ | omega | exact ⟨by omega, by omega, by omega, by omega⟩ | exact Nat.le_of_ble_eq_true rfl) rfl ?_
      | refine r_ld tab_ok rfl rfl rfl rfl rfl ?_
      | refine r_ev_cnd tab_ok rfl rfl rfl rfl rfl rfl (by first | exact fun _ => rfl | exact cs1 | exact cs2 | exact cs3) (by first | exact fun _ => trivial | (intro h; simp at h; first | exact ⟨by omega, by omega⟩ | omega)) rfl ?_
      | refine r_ld_cnd tab_ok rfl rfl rfl rfl rfl rfl (by first | exact fun _ => rfl | exact cs1 | exact cs2 | exact cs3) rfl ?_
      | refine r_or rfl rfl rfl rfl rfl rfl rfl rfl ?_
      | refine r_idxr tab_ok rfl rfl rfl rfl rfl rfl rfl rfl (by first | exact ⟨by omega, by omega⟩ | (simp; omega)) rfl ?_
      | refine r_fielde tab_ok rfl rfl rfl rfl rfl rfl rfl rfl ?_
      | refine r_fielde_cnd tab_ok rfl rfl rfl rfl rfl rfl rfl (by first | exact fun _ => rfl | exact cs1 | exact cs2 | exact cs3) rfl rfl rfl ?_
      | refine r_lde tab_ok rfl rfl rfl rfl rfl (by omega) rfl rfl rfl rfl ?_
      | refine r_idxr_cnd tab_ok rfl rfl rfl rfl rfl rfl rfl rfl (by first | exact fun _ => rfl | exact cs1 | exact cs2) rfl rfl (by first | (intro _; exact ⟨by omega, by omega⟩) | (intro h; simp at h ⊢; omega)) rfl ?_
      | refine r_lde_cnd tab_ok rfl rfl rfl rfl rfl rfl rfl (by first | exact fun _ => rfl | exact cs1 | exact cs2) (by omega) rfl rfl rfl rfl ?_))
  have hlt' : ((someN l p.name : Nat) : Int).toNat < (someL l of p.name).length := hlt
  have ec : (someL l of p.name).getD (someN l p.name) default = (someL l of p.name)[((someN l p.name : Nat) : Int).toNat]'hlt' := by
    simp [hlt]
  have e3 : (decide ((someL l of p.name)[((someN l p.name : Nat) : Int).toNat].n + p.n < (someL l of p.name)[((someN l p.name : Nat) : Int).toNat].n) == decide (p.n < 0)) = true := by
    by_cases q : p.n < 0
    · rw [decide_eq_true q, decide_eq_true (by omega)]; rfl
    · rw [decide_eq_false q, decide_eq_false (by omega)]; rfl
  refine awp_cond rfl (fun h => ?_) (fun h => ?_)
  · rw [e3] at h
    simp only [Bool.not_true, Bool.or_false, Bool.or_eq_true, decide_eq_true_eq] at h
    repeat (first
      | refine awp_seq ?_
      | refine thenA_normal ?_
      | refine a_region ?_
      | refine awp_ret ?_
      | refine thenA_ret ?_
      | refine r_done ?_
      | (refine r_id ?_; first
        | refine r_ev tab_ok rfl rfl rfl rfl (by first | exact trivial | exact ⟨by omega, by omega⟩ | omega | exact ⟨by omega, by omega, by omega, by omega⟩ | exact Nat.le_of_ble_eq_true rfl) rfl ?_)
      | refine ret1_row (by first | exact .inl rfl | exact .inr rfl) rfl rfl rfl ?_)
    exact Sub.of_eq (by simp only [addL]; rw [ec, if_pos h])
  · rw [e3] at h
    simp only [Bool.not_true, Bool.or_false, Bool.or_eq_false_iff, decide_eq_false_iff_not] at h
    repeat (first
      | refine awp_seq ?_
      | refine a_region ?_
      | refine awp_skip ?_
      | (refine r_id ?_; first
        | refine r_ev tab_ok rfl rfl rfl rfl (by first | exact trivial | exact ⟨by omega, by omega⟩ | omega | exact ⟨by omega, by omega, by omega, by omega⟩ | exact Nat.le_of_ble_eq_true rfl) rfl ?_
        | refine r_idxr tab_ok rfl rfl rfl rfl rfl rfl rfl rfl (by first | exact ⟨by omega, by omega⟩ | (simp; omega)) rfl ?_
        | refine r_fielde tab_ok rfl rfl rfl rfl rfl rfl rfl rfl ?_))
    refine r_ste tab_ok ({ (someL l of p.name)[((someN l p.name : Nat) : Int).toNat]'hlt' with n := ((someL l of p.name)[((someN l p.name : Nat) : Int).toNat]'hlt').n + p.n } : Ctr) rfl rfl rfl rfl rfl hlt' rfl rfl rfl rfl rfl rfl ?_
    repeat (first
      | refine awp_seq ?_
      | refine thenA_normal ?_
      | refine a_region ?_
      | refine awp_ret ?_
      | refine r_done ?_
      | (refine r_id ?_; first
        | refine r_ev tab_ok rfl rfl rfl rfl (by first | exact trivial | exact ⟨by omega, by omega⟩ | omega | exact ⟨by omega, by omega, by omega, by omega⟩ | exact Nat.le_of_ble_eq_true rfl) rfl ?_)
      | refine ret1_row (by first | exact .inl rfl | exact .inr rfl) rfl rfl rfl ?_)
    exact Sub.of_eq (by
      simp only [addL]
      rw [ec, if_neg (fun h' => h'.elim h.1 h.2)]
      rfl)
end Go.Proofs.Ytajbbcnfohbieaa
