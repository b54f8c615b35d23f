/- Scope: the innermost, the last. -/
import Derived.Test.YtajbbcnfohbieaaS2
namespace Go.Proofs.Ytajbbcnfohbieaa
open Go Go.RowKit

theorem lastI_none (p : Ctr → Bool) (l : List Ctr) : ∀ k, (∀ y, y < k → p (l.getD y default) = false) → lastI p l k = -1
  | 0, _ => rfl
  | k + 1, h => by rw [lastI, h k (by omega), lastI_none p l k fun y hy => h y (by omega)]; rfl
theorem lastI_some (p : Ctr → Bool) (l : List Ctr) (x : Nat) (hp : p (l.getD x default) = true) : ∀ k, x < k → (∀ y, x < y → y < k → p (l.getD y default) = false) → lastI p l k = x
  | k + 1, hx, h => by
    rw [lastI]
    by_cases e : x = k
    · subst e; rw [hp]; rfl
    · rw [h k (by omega) (by omega), if_neg (by decide)]
      exact lastI_some p l x hp k (by omega) fun y h1 h2 => h y h1 (by omega)
theorem revs_get (n i : Nat) (h : i < n) : (revs n)[i]? = some ⟨n - 1 - i, by omega⟩ := by
  rw [List.getElem?_eq_getElem (by rw [revs_len]; exact h)]
  simp [revs]
/-- What was seen ahead of a place. -/
theorem revs_pre {n k : Nat} {pre : List (Fin n)} {x : Fin n} (h : (revs n).take k = pre ++ [x]) (y : Fin n) (hy : x.1 < y.1) : y ∈ pre := by
  have hlen : pre.length < n := by
    have := congrArg List.length h
    rw [List.length_take, revs_len, List.length_append] at this
    simp at this
    omega
  have hk : pre.length < k := by
    have := congrArg List.length h
    rw [List.length_take, revs_len, List.length_append] at this
    simp at this
    omega
  have at_ : ∀ i, i ≤ pre.length → (pre ++ [x])[i]? = some ⟨n - 1 - i, by omega⟩ := fun i hi => by
    rw [← h, List.getElem?_take_of_lt (by omega), revs_get n i (by omega)]
  have hx := at_ pre.length (Nat.le_refl _)
  rw [List.getElem?_append_right (Nat.le_refl _), Nat.sub_self] at hx
  have hx : x = ⟨n - 1 - pre.length, by omega⟩ := by injection hx
  have hxv : x.1 = n - 1 - pre.length := congrArg Fin.val hx
  have := at_ (n - 1 - y.1) (by omega)
  rw [List.getElem?_append_left (by omega)] at this
  refine List.mem_of_getElem? (i := n - 1 - y.1) ?_
  rw [this]
  congr 1
  exact Fin.ext (by show n - 1 - (n - 1 - y.1) = y.1; omega)
theorem mem_revs {n : Nat} (y : Fin n) : y ∈ revs n := by simp [revs]
def NoneOf (p : Ctr → Bool) (zs : List Ctr) (pre : List (Fin zs.length)) : Prop := ∀ y ∈ pre, p zs[y.1] = false
def OneOf (p : Ctr → Bool) (zs : List Ctr) (l : List (Fin zs.length)) : Prop := ∃ pre x, l = pre ++ [x] ∧ NoneOf p zs pre ∧ p zs[x.1] = true
theorem getD_at {zs : List Ctr} {y : Nat} (h : y < zs.length) : zs.getD y default = zs[y] := by simp [h]
theorem noneOf_all {p : Ctr → Bool} {zs : List Ctr} (h : NoneOf p zs (revs zs.length)) : lastI p zs zs.length = -1 :=
  lastI_none p zs _ fun y hy => by rw [getD_at hy]; exact h ⟨y, hy⟩ (mem_revs _)
theorem oneOf_at {p : Ctr → Bool} {zs : List Ctr} {k : Nat} {pre : List (Fin zs.length)} {x : Fin zs.length} (hk : (revs zs.length).take k = pre ++ [x]) (h : OneOf p zs (pre ++ [x])) : lastI p zs zs.length = x.1 := by
  obtain ⟨pre', x', he, hn, hp⟩ := h
  obtain ⟨rfl, hx⟩ := List.append_inj' he rfl
  cases hx
  exact lastI_some p zs x.1 (by rw [getD_at x.2]; exact hp) _ x.2 fun y h1 h2 => by rw [getD_at h2]; exact hn ⟨y, h2⟩ (revs_pre hk ⟨y, h2⟩ h1)
theorem noneOf_snoc {p : Ctr → Bool} {zs : List Ctr} {pre : List (Fin zs.length)} {x : Fin zs.length} (h : NoneOf p zs pre) (hx : p zs[x.1] = false) : NoneOf p zs (pre ++ [x]) := by
  intro y hy
  rcases List.mem_append.1 hy with hy | hy
  · exact h y hy
  · rw [List.mem_singleton] at hy; subst hy; exact hx

theorem noIter {M : List AB} (h : M.all (fun ab => !ab.isIter) = true) : NoIter M := fun ab hab => by simpa using List.all_eq_true.1 h ab hab
theorem backward_ok (zs : List Ctr) : MCalls Try.prog 27 [] [.sl 4 (zs.map cD)] [.box 25 [.sl 4 (zs.map cD)]] (.cl 31 [.ptr 0 0]) := by
  refine mcalls_ofn Try.func27 Try.ntmps27 rfl rfl rfl 1 (by decide) fun S w β => ?_
  repeat (first
    | refine awp_seq ?_
    | refine thenA_normal ?_
    | refine a_region ?_
    | refine awp_ret ?_
    | refine r_done ?_
    | (refine r_id ?_; first
      | refine r_ev tab_ok rfl rfl rfl rfl (by first | exact trivial | exact ⟨by omega, by omega⟩ | omega | exact ⟨by omega, by omega, by omega, by omega⟩ | exact Nat.le_of_ble_eq_true rfl) rfl ?_
      | refine r_wr tab_ok rfl rfl rfl rfl rfl ?_
      | refine r_mkfn rfl rfl rfl rfl rfl rfl ?_)
    | refine retM1 (by first | exact .inl rfl | exact .inr rfl) rfl rfl rfl rfl rfl ?_)
  exact Sub.refl _
theorem inner_ok (zs : List Ctr) (name : ByteArray) : PCalls Try.prog 21 [.sl 4 (zs.map cD), .val (.string name)] (.val (.int .i64 (innerF zs name))) := by
  refine p_start Try.func21 Try.ntmps21 rfl rfl rfl fun S w => ?_
  repeat (first
    | refine awp_seq ?_
    | refine a_region ?_
    | refine r_done ?_
    | (refine r_id ?_; first
      | refine r_ev tab_ok rfl rfl rfl rfl (by first | exact trivial | exact ⟨by omega, by omega⟩ | omega | exact ⟨by omega, by omega, by omega, by omega⟩ | exact Nat.le_of_ble_eq_true rfl) rfl ?_
      | refine r_wr tab_ok rfl rfl rfl rfl rfl ?_))
  refine r_rcall (backward_ok zs) call27 rfl rfl ⟨Sub.refl _, trivial⟩ rfl rfl rfl rfl rfl rfl ?_
  repeat (first
    | refine thenA_normal ?_
    | refine awp_block ?_
    | refine r_done ?_)
  refine awp_fits (fits_sink (i := 2) (d := 8) rfl rfl rfl) ?_
  refine awp_fits (fits_conv (M' := [.box 9 [.val (.string name)], .box 3 [.val (.int .i64 0)], .gone]) (F' := [(3, .ptr 0 0), (4, .ptr 1 0), (8, .cl 31 [.dptr [.sl 4 (zs.map cD)]])]) (by repeat' first | exact trivial | exact rfl | (rw [List.map_append]; first | done | rfl) | exact c_sub rfl (Sub.refl _) rfl | exact c_nil rfl rfl | exact c_thaw rfl rfl rfl | exact c_row rfl rfl rfl | exact c_row rfl rfl (by rw [List.map_append]; first | done | rfl) | exact c_ptr rfl rfl rfl rfl | exact Or.inl ⟨c_sub rfl (Sub.refl _) rfl, c_ptr rfl rfl rfl rfl⟩ | exact c_alt rfl rfl rfl rfl | exact c_ro rfl rfl | exact c_eo rfl rfl | exact c_sub rfl (Sub.altl _ _) rfl | exact c_sub rfl (Sub.nil _) rfl | refine ⟨_, _, rfl, ?_, ?_⟩ | apply And.intro) (by repeat' first | exact trivial | exact rfl | (rw [List.map_append]; first | done | rfl) | exact c_sub rfl (Sub.refl _) rfl | exact c_nil rfl rfl | exact c_thaw rfl rfl rfl | exact c_row rfl rfl rfl | exact c_row rfl rfl (by rw [List.map_append]; first | done | rfl) | exact c_ptr rfl rfl rfl rfl | exact Or.inl ⟨c_sub rfl (Sub.refl _) rfl, c_ptr rfl rfl rfl rfl⟩ | exact c_alt rfl rfl rfl rfl | exact c_ro rfl rfl | exact c_eo rfl rfl | exact c_sub rfl (Sub.altl _ _) rfl | exact c_sub rfl (Sub.nil _) rfl | refine ⟨_, _, rfl, ?_, ?_⟩ | apply And.intro)) ?_
  refine a_backB (fun x => cAV zs[x.1]) (back_ctrs zs) (fun x _ _ _ _ => cV_sat _) call31 (g := .tmp 8) (p := 9) (q := 10) rfl rfl
    (fun x => [.box 9 [.val (.string name)], .box 3 [.val (.int .i64 0)], .gone] ++ [.box 38 [.val (.string zs[x.1].name), .val (.int .i64 zs[x.1].of), .val (.int .i64 zs[x.1].n), .val (.bool zs[x.1].rev)]])
    (fun x => [.box 9 [.val (.string name)], .box 3 [.val (.int .i64 x.1)], .gone])
    (fun x => [(3, .ptr 0 0), (4, .ptr 1 0), (5, .val (.int .i64 x.1)), (6, .ptr 3 0)])
    (NoneOf (fun c => decide (c.name = name)) zs) (OneOf (fun c => decide (c.name = name)) zs)
    (noIter rfl) (fun _ => noIter rfl) (fun _ => noIter rfl) rfl (fun _ => rfl) (fun _ => rfl) (fun y hy => by cases hy)
    (fun l S w1 β1 x => aD_seq (aD_region ?_)) (fun l S w1 β1 pre x hg hgl => ?_) (fun hg => ?_) (fun k pre x hk hpre hg => ?_)
  · repeat (first
      | refine r_done ?_
      | (refine r_id ?_; first
        | refine r_ev tab_ok rfl rfl rfl rfl (by first | exact trivial | exact ⟨by omega, by omega⟩ | omega | exact ⟨by omega, by omega, by omega, by omega⟩ | exact Nat.le_of_ble_eq_true rfl) rfl ?_))
    refine aD_region ?_
    repeat (first
      | refine r_done ?_
      | (refine r_id ?_; first
        | refine r_wr tab_ok rfl rfl rfl rfl rfl ?_
        | refine r_st tab_ok rfl rfl rfl rfl ?_))
    exact fits_convM (by repeat' first | exact trivial | exact rfl | (rw [List.map_append]; first | done | rfl) | exact c_sub rfl (Sub.refl _) rfl | exact c_nil rfl rfl | exact c_thaw rfl rfl rfl | exact c_row rfl rfl rfl | exact c_row rfl rfl (by rw [List.map_append]; first | done | rfl) | exact c_ptr rfl rfl rfl rfl | exact Or.inl ⟨c_sub rfl (Sub.refl _) rfl, c_ptr rfl rfl rfl rfl⟩ | exact c_alt rfl rfl rfl rfl | exact c_ro rfl rfl | exact c_eo rfl rfl | exact c_sub rfl (Sub.altl _ _) rfl | exact c_sub rfl (Sub.nil _) rfl | refine ⟨_, _, rfl, ?_, ?_⟩ | apply And.intro) (by repeat' first | exact trivial | exact rfl | (rw [List.map_append]; first | done | rfl) | exact c_sub rfl (Sub.refl _) rfl | exact c_nil rfl rfl | exact c_thaw rfl rfl rfl | exact c_row rfl rfl rfl | exact c_row rfl rfl (by rw [List.map_append]; first | done | rfl) | exact c_ptr rfl rfl rfl rfl | exact Or.inl ⟨c_sub rfl (Sub.refl _) rfl, c_ptr rfl rfl rfl rfl⟩ | exact c_alt rfl rfl rfl rfl | exact c_ro rfl rfl | exact c_eo rfl rfl | exact c_sub rfl (Sub.altl _ _) rfl | exact c_sub rfl (Sub.nil _) rfl | refine ⟨_, _, rfl, ?_, ?_⟩ | apply And.intro) ⟨trivial, trivial, trivial, trivial⟩
  · repeat (first
      | refine awp_seq ?_
      | refine thenA_normal ?_
      | refine awp_block ?_
      | refine a_region ?_
      | refine r_done ?_
      | (refine r_id ?_; first
        | refine r_ev tab_ok rfl rfl rfl rfl (by first | exact trivial | exact ⟨by omega, by omega⟩ | omega | exact ⟨by omega, by omega, by omega, by omega⟩ | exact Nat.le_of_ble_eq_true rfl) rfl ?_
        | refine r_ld tab_ok rfl rfl rfl rfl rfl ?_))
    refine awp_cond_p rfl (fun h => ?_) (fun h => ?_)
    · repeat (first
        | refine awp_seq ?_
        | refine thenA_normal ?_
        | refine a_region ?_
        | refine awp_ret ?_
        | refine blockA_ret ?_
        | refine r_done ?_
        | (refine r_id ?_; first
          | refine r_ev tab_ok rfl rfl rfl rfl (by first | exact trivial | exact ⟨by omega, by omega⟩ | omega | exact ⟨by omega, by omega, by omega, by omega⟩ | exact Nat.le_of_ble_eq_true rfl) rfl ?_
          | refine r_st tab_ok rfl rfl rfl rfl ?_))
      exact .inr ⟨rfl, ⟨pre, x, rfl, hg, decide_eq_true h⟩, rfl⟩
    · repeat (first
        | refine blockA_normal ?_
        | refine awp_skip ?_)
      exact .inl ⟨rfl, noneOf_snoc hg (decide_eq_false h), rfl⟩
  · have e := noneOf_all hg
    repeat (first
      | refine awp_seq ?_
      | refine thenA_normal ?_
      | refine a_region ?_
      | refine awp_ret ?_
      | refine r_done ?_
      | (refine r_id ?_; first
        | refine r_st tab_ok rfl rfl rfl rfl ?_))
    exact ret1c tab_ok (.inr rfl) rfl rfl rfl rfl rfl rfl (Sub.of_eq (by rw [innerF, e]))
  · have e := oneOf_at hpre hg
    repeat (first
      | refine thenA_ret ?_
      | refine blockA_ret ?_)
    exact ret1c tab_ok (.inr rfl) rfl rfl rfl rfl rfl rfl (Sub.of_eq (by rw [innerF, e]))
theorem final_ok (zs : List Ctr) (c : Ctr) : PCalls Try.prog 26 [.sl 4 (zs.map cD), cAV c] (.val (.int .i64 (finalF zs c))) := by
  refine p_start Try.func26 Try.ntmps26 rfl rfl rfl fun S w => ?_
  repeat (first
    | refine awp_seq ?_
    | refine a_region ?_
    | refine r_done ?_
    | (refine r_id ?_; first
      | refine r_ev tab_ok rfl rfl rfl rfl (by first | exact trivial | exact ⟨by omega, by omega⟩ | omega | exact ⟨by omega, by omega, by omega, by omega⟩ | exact Nat.le_of_ble_eq_true rfl) rfl ?_
      | refine r_wr tab_ok rfl rfl rfl rfl rfl ?_))
  refine r_rcall (backward_ok zs) call27 rfl rfl ⟨Sub.refl _, trivial⟩ rfl rfl rfl rfl rfl rfl ?_
  repeat (first
    | refine thenA_normal ?_
    | refine awp_block ?_
    | refine r_done ?_)
  refine awp_fits (fits_sink (i := 2) (d := 8) rfl rfl rfl) ?_
  refine awp_fits (fits_conv (M' := [.box 38 [.val (.string c.name), .val (.int .i64 c.of), .val (.int .i64 c.n), .val (.bool c.rev)], .box 3 [.val (.int .i64 0)], .gone]) (F' := [(3, .ptr 0 0), (4, .ptr 1 0), (8, .cl 31 [.dptr [.sl 4 (zs.map cD)]])]) (by repeat' first | exact trivial | exact rfl | (rw [List.map_append]; first | done | rfl) | exact c_sub rfl (Sub.refl _) rfl | exact c_nil rfl rfl | exact c_thaw rfl rfl rfl | exact c_row rfl rfl rfl | exact c_row rfl rfl (by rw [List.map_append]; first | done | rfl) | exact c_ptr rfl rfl rfl rfl | exact Or.inl ⟨c_sub rfl (Sub.refl _) rfl, c_ptr rfl rfl rfl rfl⟩ | exact c_alt rfl rfl rfl rfl | exact c_ro rfl rfl | exact c_eo rfl rfl | exact c_sub rfl (Sub.altl _ _) rfl | exact c_sub rfl (Sub.nil _) rfl | refine ⟨_, _, rfl, ?_, ?_⟩ | apply And.intro) (by repeat' first | exact trivial | exact rfl | (rw [List.map_append]; first | done | rfl) | exact c_sub rfl (Sub.refl _) rfl | exact c_nil rfl rfl | exact c_thaw rfl rfl rfl | exact c_row rfl rfl rfl | exact c_row rfl rfl (by rw [List.map_append]; first | done | rfl) | exact c_ptr rfl rfl rfl rfl | exact Or.inl ⟨c_sub rfl (Sub.refl _) rfl, c_ptr rfl rfl rfl rfl⟩ | exact c_alt rfl rfl rfl rfl | exact c_ro rfl rfl | exact c_eo rfl rfl | exact c_sub rfl (Sub.altl _ _) rfl | exact c_sub rfl (Sub.nil _) rfl | refine ⟨_, _, rfl, ?_, ?_⟩ | apply And.intro)) ?_
  refine a_backB (fun x => cAV zs[x.1]) (back_ctrs zs) (fun x _ _ _ _ => cV_sat _) call31 (g := .tmp 8) (p := 9) (q := 10) rfl rfl
    (fun x => [.box 38 [.val (.string c.name), .val (.int .i64 c.of), .val (.int .i64 c.n), .val (.bool c.rev)], .box 3 [.val (.int .i64 0)], .gone] ++ [.box 38 [.val (.string zs[x.1].name), .val (.int .i64 zs[x.1].of), .val (.int .i64 zs[x.1].n), .val (.bool zs[x.1].rev)]])
    (fun x => [.box 38 [.val (.string c.name), .val (.int .i64 c.of), .val (.int .i64 c.n), .val (.bool c.rev)], .box 3 [.val (.int .i64 x.1)], .gone])
    (fun x => [(3, .ptr 0 0), (4, .ptr 1 0), (5, .val (.int .i64 x.1)), (6, .ptr 3 0)])
    (NoneOf (fun x => decide (x.name = c.name) && decide (x.of = c.of)) zs) (OneOf (fun x => decide (x.name = c.name) && decide (x.of = c.of)) zs)
    (noIter rfl) (fun _ => noIter rfl) (fun _ => noIter rfl) rfl (fun _ => rfl) (fun _ => rfl) (fun y hy => by cases hy)
    (fun l S w1 β1 x => aD_seq (aD_region ?_)) (fun l S w1 β1 pre x hg hgl => ?_) (fun hg => ?_) (fun k pre x hk hpre hg => ?_)
  · repeat (first
      | refine r_done ?_
      | (refine r_id ?_; first
        | refine r_ev tab_ok rfl rfl rfl rfl (by first | exact trivial | exact ⟨by omega, by omega⟩ | omega | exact ⟨by omega, by omega, by omega, by omega⟩ | exact Nat.le_of_ble_eq_true rfl) rfl ?_))
    refine aD_region ?_
    repeat (first
      | refine r_done ?_
      | (refine r_id ?_; first
        | refine r_wr tab_ok rfl rfl rfl rfl rfl ?_
        | refine r_st tab_ok rfl rfl rfl rfl ?_))
    exact fits_convM (by repeat' first | exact trivial | exact rfl | (rw [List.map_append]; first | done | rfl) | exact c_sub rfl (Sub.refl _) rfl | exact c_nil rfl rfl | exact c_thaw rfl rfl rfl | exact c_row rfl rfl rfl | exact c_row rfl rfl (by rw [List.map_append]; first | done | rfl) | exact c_ptr rfl rfl rfl rfl | exact Or.inl ⟨c_sub rfl (Sub.refl _) rfl, c_ptr rfl rfl rfl rfl⟩ | exact c_alt rfl rfl rfl rfl | exact c_ro rfl rfl | exact c_eo rfl rfl | exact c_sub rfl (Sub.altl _ _) rfl | exact c_sub rfl (Sub.nil _) rfl | refine ⟨_, _, rfl, ?_, ?_⟩ | apply And.intro) (by repeat' first | exact trivial | exact rfl | (rw [List.map_append]; first | done | rfl) | exact c_sub rfl (Sub.refl _) rfl | exact c_nil rfl rfl | exact c_thaw rfl rfl rfl | exact c_row rfl rfl rfl | exact c_row rfl rfl (by rw [List.map_append]; first | done | rfl) | exact c_ptr rfl rfl rfl rfl | exact Or.inl ⟨c_sub rfl (Sub.refl _) rfl, c_ptr rfl rfl rfl rfl⟩ | exact c_alt rfl rfl rfl rfl | exact c_ro rfl rfl | exact c_eo rfl rfl | exact c_sub rfl (Sub.altl _ _) rfl | exact c_sub rfl (Sub.nil _) rfl | refine ⟨_, _, rfl, ?_, ?_⟩ | apply And.intro) ⟨trivial, trivial, trivial, trivial⟩
  · repeat (first
      | refine awp_seq ?_
      | refine thenA_normal ?_
      | refine awp_block ?_
      | refine a_region ?_
      | refine r_done ?_
      | (refine r_id ?_; first
        | refine r_ev tab_ok rfl rfl rfl rfl (by first | exact trivial | exact ⟨by omega, by omega⟩ | omega | exact ⟨by omega, by omega, by omega, by omega⟩ | exact Nat.le_of_ble_eq_true rfl) rfl ?_
        | refine r_ld tab_ok rfl rfl rfl rfl rfl ?_
        | refine r_ev_cnd tab_ok rfl rfl rfl rfl rfl rfl (by first | exact fun _ => rfl | exact cs1 | exact cs2 | exact cs3) (by first | exact fun _ => trivial | (intro h; simp at h; first | exact ⟨by omega, by omega⟩ | omega)) rfl ?_
        | refine r_ld_cnd tab_ok rfl rfl rfl rfl rfl rfl (by first | exact fun _ => rfl | exact cs1 | exact cs2 | exact cs3) rfl ?_
        | refine r_and rfl rfl rfl rfl rfl rfl rfl rfl ?_))
    refine awp_cond rfl (fun h => ?_) (fun h => ?_)
    · repeat (first
        | refine awp_seq ?_
        | refine thenA_normal ?_
        | refine a_region ?_
        | refine awp_ret ?_
        | refine blockA_ret ?_
        | refine r_done ?_
        | (refine r_id ?_; first
          | refine r_ev tab_ok rfl rfl rfl rfl (by first | exact trivial | exact ⟨by omega, by omega⟩ | omega | exact ⟨by omega, by omega, by omega, by omega⟩ | exact Nat.le_of_ble_eq_true rfl) rfl ?_
          | refine r_st tab_ok rfl rfl rfl rfl ?_))
      exact .inr ⟨rfl, ⟨pre, x, rfl, hg, h⟩, rfl⟩
    · repeat (first
        | refine blockA_normal ?_
        | refine awp_skip ?_)
      exact .inl ⟨rfl, noneOf_snoc hg h, rfl⟩
  · have e := noneOf_all hg
    repeat (first
      | refine awp_seq ?_
      | refine thenA_normal ?_
      | refine a_region ?_
      | refine awp_ret ?_
      | refine r_done ?_
      | (refine r_id ?_; first
        | refine r_st tab_ok rfl rfl rfl rfl ?_))
    exact ret1c tab_ok (.inr rfl) rfl rfl rfl rfl rfl rfl (Sub.of_eq (by rw [finalF, e]))
  · have e := oneOf_at hpre hg
    repeat (first
      | refine thenA_ret ?_
      | refine blockA_ret ?_)
    exact ret1c tab_ok (.inr rfl) rfl rfl rfl rfl rfl rfl (Sub.of_eq (by rw [finalF, e]))
end Go.Proofs.Ytajbbcnfohbieaa
