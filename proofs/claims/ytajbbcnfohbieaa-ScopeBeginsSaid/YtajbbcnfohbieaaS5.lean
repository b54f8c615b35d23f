/- Scope: slices.Delete; slices.Contains. -/
import Derived.Test.YtajbbcnfohbieaaS4
namespace Go.Proofs.Ytajbbcnfohbieaa
open Go Go.RowKit

theorem delete_ok (l : List Ctr) (a b : Nat) (hab : a < b) (hb : b ≤ l.length) (hl : l.length ≤ 1000000) :
    MCalls Try.prog 23 [.row 0 38 4 (l.map cD)] [.row 0 0, .val (.int .i64 a), .val (.int .i64 b)] [.row 2 38 4 ((l.take a ++ l.drop b).map cD)] (.row 0 2) := by
  refine m_start Try.func23 Try.ntmps23 rfl rfl rfl fun S w β => ?_
  have hlm : (l.map cD).length = l.length := List.length_map _
  have hne : l.map cD ≠ [] := fun h => by rw [h] at hlm; simp at hlm; omega
  repeat (first
    | refine awp_seq ?_
    | refine a_region ?_
    | refine r_done ?_
    | (refine r_id ?_; first
      | refine r_ev tab_ok rfl rfl rfl rfl (by first | exact trivial | exact ⟨by omega, by omega⟩ | omega | exact ⟨by omega, by omega, by omega, by omega⟩ | exact Nat.le_of_ble_eq_true rfl) rfl ?_
      | refine r_ld tab_ok rfl rfl rfl rfl rfl ?_))
  refine r_by1 (astep_slice3 tab_ok rfl rfl rfl rfl rfl rfl rfl (by rw [hlm]; omega)) rfl rfl rfl rfl rfl ?_
  repeat (first
    | refine awp_seq ?_
    | refine thenA_normal ?_
    | refine a_region ?_
    | refine r_done ?_
    | (refine r_id ?_; first
      | refine r_ev tab_ok rfl rfl rfl rfl (by first | exact trivial | exact ⟨by omega, by omega⟩ | omega | exact ⟨by omega, by omega, by omega, by omega⟩ | exact Nat.le_of_ble_eq_true rfl) rfl ?_))
  refine awp_cond_p rfl (fun h => absurd h (by omega)) (fun _ => ?_)
  repeat (first
    | refine awp_seq ?_
    | refine a_region ?_
    | refine awp_skip ?_
    | refine r_done ?_
    | (refine r_id ?_; first
      | refine r_ev tab_ok rfl rfl rfl rfl (by first | exact trivial | exact ⟨by omega, by omega⟩ | omega | exact ⟨by omega, by omega, by omega, by omega⟩ | exact Nat.le_of_ble_eq_true rfl) rfl ?_
      | refine r_ld tab_ok rfl rfl rfl rfl rfl ?_))
  refine a_draw mixed_ok [0, 0, 1, 0, 0, 1, 2, 0] (by kernel_rfl) ?_
  repeat (first
    | (refine r_id ?_; first
      | refine r_ev tab_ok rfl rfl rfl rfl (by first | exact trivial | exact ⟨by omega, by omega⟩ | omega | exact ⟨by omega, by omega, by omega, by omega⟩ | exact Nat.le_of_ble_eq_true rfl) rfl ?_))
  refine r_by1 (astep_pfx tab_ok rfl rfl rfl rfl hne rfl (by rw [hlm]; omega)) rfl rfl rfl rfl rfl ?_
  repeat (first
    | (refine r_id ?_; first
      | refine r_ev tab_ok rfl rfl rfl rfl (by first | exact trivial | exact ⟨by omega, by omega⟩ | omega | exact ⟨by omega, by omega, by omega, by omega⟩ | exact Nat.le_of_ble_eq_true rfl) rfl ?_))
  refine r_by1 (astep_sfx tab_ok rfl rfl rfl rfl hne rfl (by rw [hlm]; omega)) rfl rfl rfl rfl rfl ?_
  refine r_by2 (astep_delapp tab_ok rfl rfl rfl rfl rfl rfl (by show (a : Int).toNat ≤ (b : Int).toNat; omega) (by show (b : Int).toNat ≤ _; rw [hlm]; omega) hne rfl) rfl rfl rfl rfl rfl ?_
  repeat (first
    | refine awp_seq ?_
    | refine a_region ?_
    | refine r_done' ?_
    | (refine r_id ?_; first
      | refine r_ev tab_ok rfl rfl rfl rfl (by first | exact trivial | exact ⟨by omega, by omega⟩ | omega | exact ⟨by omega, by omega, by omega, by omega⟩ | exact Nat.le_of_ble_eq_true rfl) rfl ?_))
  refine r_by1 (astep_len_gap tab_ok rfl rfl rfl rfl) rfl rfl rfl rfl rfl ?_
  repeat (first
    | (refine r_id ?_; first
      | refine r_ev tab_ok rfl rfl rfl rfl (by first | exact trivial | exact ⟨by omega, by omega⟩ | omega | exact ⟨by omega, by omega, by omega, by omega⟩ | exact Nat.le_of_ble_eq_true rfl) rfl ?_))
  have hl2 : (List.take a (l.map cD) ++ List.drop b (l.map cD)).length = a + (l.length - b) := by simp; omega
  refine r_by1 (astep_rest tab_ok rfl rfl rfl rfl rfl rfl (by show (_ : Int) = _ ∧ (_ : Int) = _; simp; omega)) rfl rfl rfl rfl rfl ?_
  refine r_by2n (astep_clear tab_ok rfl rfl rfl rfl (by show 0 < (b : Int).toNat - (a : Int).toNat; omega) rfl rfl) rfl rfl rfl ?_
  repeat (first
    | refine awp_seq ?_
    | refine thenA_normal ?_
    | refine a_region ?_
    | refine awp_ret ?_
    | refine r_done ?_
    | (refine r_id ?_; first
      | refine r_ev tab_ok rfl rfl rfl rfl (by first | exact trivial | exact ⟨by omega, by omega⟩ | omega | exact ⟨by omega, by omega, by omega, by omega⟩ | exact Nat.le_of_ble_eq_true rfl) rfl ?_))
  have e : List.take a (l.map cD) ++ List.drop b (l.map cD) = (l.take a ++ l.drop b).map cD := by rw [List.map_append, List.map_take, List.map_drop]
  exact retM1 (.inr rfl) rfl rfl rfl (by show [AB.row 2 38 4 (List.take a (l.map cD) ++ List.drop b (l.map cD))] = _; rw [e]) rfl sub_gap
def iD (i : Int) : D := .val (.int .i64 i)
def idxF : List Int → Int → Nat
  | [], _ => 0
  | a :: r, v => if v = a then 0 else idxF r v + 1
theorem idxF_le : ∀ (l : List Int) (v : Int), idxF l v ≤ l.length
  | [], _ => Nat.le_refl _
  | a :: r, v => by
    rw [idxF]
    split
    · exact Nat.zero_le _
    · have := idxF_le r v
      simp; omega
theorem idxF_at : ∀ (l : List Int) (v : Int) (i : Nat) (hi : i < l.length), i ≤ idxF l v → (idxF l v = i ↔ v = l[i])
  | a :: r, v, 0, _, _ => by
    rw [idxF]
    split
    · simp_all
    · simp_all
  | a :: r, v, i + 1, hi, hle => by
    rw [idxF] at hle ⊢
    split at hle
    · omega
    · rename_i hne
      rw [if_neg hne]
      have := idxF_at r v i (by simpa using hi) (by omega)
      simp only [List.getElem_cons_succ]
      rw [← this]
      omega
def indexR (l : List Int) (v : Int) : Int := if idxF l v < l.length then idxF l v else -1
theorem index_ok (l : List Int) (v : Int) (hl : l.length ≤ 4611686018427387904) : PCalls Try.prog 28 [.sl 1 (l.map iD), .val (.int .i64 v)] (.val (.int .i64 (indexR l v))) := by
  refine p_start Try.func28 Try.ntmps28 rfl rfl rfl fun S w => ?_
  repeat (first
    | refine awp_seq ?_
    | refine thenA_normal ?_
    | refine awp_block ?_
    | refine a_region ?_
    | refine r_done ?_
    | (refine r_id ?_; first
      | refine r_len tab_ok rfl rfl rfl rfl rfl rfl rfl ?_
      | refine r_ev tab_ok rfl rfl rfl rfl (by first | exact trivial | exact ⟨by omega, by omega⟩ | omega | exact ⟨by omega, by omega, by omega, by omega⟩ | exact Nat.le_of_ble_eq_true rfl) rfl ?_))
  refine a_loop (σ := {i : Nat // i ≤ idxF l v}) (fun _ => []) (fun x => [(0, .sl 1 (l.map iD)), (1, .val (.int .i64 v)), (6, .sl 1 (l.map iD)), (7, .val (.int .i64 l.length)), (8, .val (.int .i64 x.1))]) (fun x => l.length - x.1) ⟨0, Nat.zero_le _⟩
    (fits_of rfl ⟨Sub.refl _, Sub.refl _, Sub.refl _, Sub.refl _, Sub.refl _, trivial⟩) ?_
  rintro ⟨i, hi⟩
  dsimp only
  have hle := idxF_le l v
  repeat (first
    | refine awp_seq ?_
    | refine a_region ?_
    | refine r_done ?_
    | (refine r_id ?_; first
      | refine r_ev tab_ok rfl rfl rfl rfl (by first | exact trivial | exact ⟨by omega, by omega⟩ | omega | exact ⟨by omega, by omega, by omega, by omega⟩ | exact Nat.le_of_ble_eq_true rfl) rfl ?_))
  refine awp_cond_p rfl (fun hlt => ?_) (fun hge => ?_)
  · have hi' : i < l.length := by omega
    have hat := idxF_at l v i hi' hi
    repeat (first
      | refine awp_seq ?_
      | refine thenA_normal ?_
      | refine awp_block ?_
      | refine a_region ?_
      | refine awp_skip ?_
      | refine r_done ?_
      | (refine r_id ?_; first
        | refine r_ev tab_ok rfl rfl rfl rfl (by first | exact trivial | exact ⟨by omega, by omega⟩ | omega | exact ⟨by omega, by omega, by omega, by omega⟩ | exact Nat.le_of_ble_eq_true rfl) rfl ?_
        | refine r_idx tab_ok rfl rfl rfl rfl rfl rfl rfl (by first | exact ⟨by omega, by omega⟩ | (simp; omega)) rfl rfl ?_))
    simp only [Int.toNat_natCast]
    refine awp_cond_p rfl (fun hb => ?_) (fun hb => ?_)
    · repeat (first
        | refine awp_seq ?_
        | refine thenA_normal ?_
        | refine a_region ?_
        | refine awp_ret ?_
        | refine thenA_ret ?_
        | refine blockA_ret ?_
        | refine r_done ?_
        | (refine r_id ?_; first
          | refine r_ev tab_ok rfl rfl rfl rfl (by first | exact trivial | exact ⟨by omega, by omega⟩ | omega | exact ⟨by omega, by omega, by omega, by omega⟩ | exact Nat.le_of_ble_eq_true rfl) rfl ?_)
        | refine ret1 (by first | exact .inl rfl | exact .inr rfl) rfl rfl rfl ?_)
      have := hat.2 hb
      exact Sub.of_eq (by rw [indexR, if_pos (by omega), this])
    · have : idxF l v ≠ i := fun h => hb (hat.1 h)
      repeat (first
        | refine thenA_normal ?_
        | refine a_region ?_
        | refine awp_skip ?_
        | refine r_done ?_
        | (refine r_id ?_; first
          | refine r_ev tab_ok rfl rfl rfl rfl (by first | exact trivial | exact ⟨by omega, by omega⟩ | omega | exact ⟨by omega, by omega, by omega, by omega⟩ | exact Nat.le_of_ble_eq_true rfl) rfl ?_))
      exact ⟨⟨i + 1, by omega⟩, by dsimp only; omega, fits_of rfl ⟨Sub.refl _, Sub.refl _, Sub.refl _, Sub.refl _, Sub.refl _, trivial⟩⟩
  · repeat (first
      | refine awp_seq ?_
      | refine thenA_normal ?_
      | refine a_region ?_
      | refine awp_ret ?_
      | refine awp_exit ?_
      | refine r_done ?_
      | (refine r_id ?_; first
        | refine r_ev tab_ok rfl rfl rfl rfl (by first | exact trivial | exact ⟨by omega, by omega⟩ | omega | exact ⟨by omega, by omega, by omega, by omega⟩ | exact Nat.le_of_ble_eq_true rfl) rfl ?_)
      | refine ret1 (by first | exact .inl rfl | exact .inr rfl) rfl rfl rfl ?_)
    exact Sub.of_eq (by rw [indexR, if_neg (by omega)])
theorem indexR_mem (l : List Int) (v : Int) : decide (0 ≤ indexR l v) = decide (v ∈ l) := by
  have key : idxF l v < l.length ↔ v ∈ l := by
    induction l with
    | nil => simp [idxF]
    | cons a r ih =>
      rw [idxF, List.mem_cons]
      split
      · rename_i h; simp [h]
      · rename_i h; simp [h, ih]
  have := idxF_le l v
  rw [indexR]
  by_cases h : v ∈ l
  · rw [if_pos (key.2 h), decide_eq_true h, decide_eq_true (by omega)]
  · rw [if_neg (fun h' => h (key.1 h')), decide_eq_false h]; rfl
theorem contains_ok (l : List Int) (v : Int) (hl : l.length ≤ 4611686018427387904) : PCalls Try.prog 22 [.sl 1 (l.map iD), .val (.int .i64 v)] (.val (.bool (decide (v ∈ l)))) := by
  refine p_start Try.func22 Try.ntmps22 rfl rfl rfl fun S w => ?_
  repeat (first
    | refine awp_seq ?_
    | refine a_region ?_
    | refine r_done ?_
    | (refine r_id ?_; first
      | refine r_ev tab_ok rfl rfl rfl rfl (by first | exact trivial | exact ⟨by omega, by omega⟩ | omega | exact ⟨by omega, by omega, by omega, by omega⟩ | exact Nat.le_of_ble_eq_true rfl) rfl ?_))
  refine r_call (index_ok l v hl) call28 rfl rfl ⟨Sub.refl _, Sub.refl _, trivial⟩ rfl rfl rfl rfl ?_
  repeat (first
    | refine thenA_normal ?_
    | refine awp_ret ?_
    | refine r_done ?_
    | (refine r_id ?_; first
      | refine r_ev tab_ok rfl rfl rfl rfl (by first | exact trivial | exact ⟨by omega, by omega⟩ | omega | exact ⟨by omega, by omega, by omega, by omega⟩ | exact Nat.le_of_ble_eq_true rfl) rfl ?_)
    | refine ret1 (by first | exact .inl rfl | exact .inr rfl) rfl rfl rfl ?_)
  exact Sub.of_eq (by rw [indexR_mem])
theorem subs_refl : ∀ l : List AV, Subs l l
  | [] => trivial
  | x :: l => ⟨Sub.refl x, subs_refl l⟩
/-- slices.IndexFunc: the first place, or -1. -/
def findR {α : Type} (p : α → Bool) (l : List α) : Int := if l.findIdx p < l.length then l.findIdx p else -1
theorem findR_any {α : Type} (p : α → Bool) (l : List α) : decide (0 ≤ findR p l) = l.any p := by
  rw [findR]
  rw [Bool.eq_iff_iff, decide_eq_true_eq, List.any_eq_true, ← List.findIdx_lt_length]
  split <;> simp_all
theorem find_ctr_ok (l : List Ctr) (p : Ctr → Bool) (f : FuncId) (caps : List AV) (hl : l.length ≤ 4611686018427387904) (hcall : Callable Try.prog f) (hcf : AV.frees caps = true) (hp : ∀ s ∈ l, PCalls Try.prog f (cAV s :: caps) (.val (.bool (p s)))) :
    PCalls Try.prog 29 [.sl 4 (l.map cD), .cl f caps] (.val (.int .i64 (findR p l))) := by
  refine p_start Try.func29 Try.ntmps29 rfl rfl rfl fun S w => ?_
  repeat (first
    | refine awp_seq ?_
    | refine thenA_normal ?_
    | refine awp_block ?_
    | refine a_region ?_
    | refine r_done ?_
    | (refine r_id ?_; first
      | refine r_len tab_ok rfl rfl rfl rfl rfl rfl rfl ?_
      | refine r_ev tab_ok rfl rfl rfl rfl (by first | exact trivial | exact ⟨by omega, by omega⟩ | omega | exact ⟨by omega, by omega, by omega, by omega⟩ | exact Nat.le_of_ble_eq_true rfl) rfl ?_))
  refine a_loop (σ := {i : Nat // i ≤ l.findIdx p}) (fun _ => []) (fun x => [(0, .sl 4 (l.map cD)), (1, .cl f caps), (7, .val (.int .i64 l.length)), (8, .val (.int .i64 x.1))]) (fun x => l.length - x.1) ⟨0, Nat.zero_le _⟩
    (fits_of rfl ⟨Sub.refl _, Sub.refl _, Sub.refl _, Sub.refl _, trivial⟩) ?_
  rintro ⟨i, hi⟩
  dsimp only
  have hle := List.findIdx_le_length (p := p) (xs := l)
  repeat (first
    | refine awp_seq ?_
    | refine a_region ?_
    | refine r_done ?_
    | (refine r_id ?_; first
      | refine r_ev tab_ok rfl rfl rfl rfl (by first | exact trivial | exact ⟨by omega, by omega⟩ | omega | exact ⟨by omega, by omega, by omega, by omega⟩ | exact Nat.le_of_ble_eq_true rfl) rfl ?_))
  refine awp_cond_p rfl (fun hlt => ?_) (fun hge => ?_)
  · have hi' : i < l.length := by omega
    repeat (first
      | refine awp_seq ?_
      | refine awp_block ?_
      | refine a_region ?_
      | refine awp_skip ?_
      | refine r_done ?_
      | (refine r_id ?_; first
        | refine r_ev tab_ok rfl rfl rfl rfl (by first | exact trivial | exact ⟨by omega, by omega⟩ | omega | exact ⟨by omega, by omega, by omega, by omega⟩ | exact Nat.le_of_ble_eq_true rfl) rfl ?_
        | refine r_idx tab_ok rfl rfl rfl rfl rfl rfl rfl (by first | exact ⟨by omega, by omega⟩ | (simp; omega)) rfl rfl ?_))
    simp only [Int.toNat_natCast]
    refine r_callv (hp l[i] (List.getElem_mem hi')) hcall rfl rfl rfl ⟨Sub.refl _, subs_refl _⟩ (by simp [AV.frees, AV.free, cAV, hcf]) rfl rfl rfl ?_
    repeat (first
      | refine thenA_normal ?_
      | refine r_done ?_)
    refine awp_cond rfl (fun hb => ?_) (fun hb => ?_)
    · repeat (first
        | refine awp_seq ?_
        | refine thenA_normal ?_
        | refine a_region ?_
        | refine awp_ret ?_
        | refine thenA_ret ?_
        | refine blockA_ret ?_
        | refine r_done ?_
        | (refine r_id ?_; first
          | refine r_ev tab_ok rfl rfl rfl rfl (by first | exact trivial | exact ⟨by omega, by omega⟩ | omega | exact ⟨by omega, by omega, by omega, by omega⟩ | exact Nat.le_of_ble_eq_true rfl) rfl ?_)
        | refine ret1 (by first | exact .inl rfl | exact .inr rfl) rfl rfl rfl ?_)
      have : l.findIdx p = i := by
        rcases Nat.lt_or_eq_of_le hi with h | h
        · have := List.not_of_lt_findIdx h
          simp_all
        · exact h.symm
      exact Sub.of_eq (by rw [findR, if_pos (by omega), this])
    · have : l.findIdx p ≠ i := fun h => by
        have := List.findIdx_getElem (p := p) (xs := l) (w := by omega)
        simp only [h] at this
        simp_all
      repeat (first
        | refine thenA_normal ?_
        | refine a_region ?_
        | refine awp_skip ?_
        | refine r_done ?_
        | (refine r_id ?_; first
          | refine r_ev tab_ok rfl rfl rfl rfl (by first | exact trivial | exact ⟨by omega, by omega⟩ | omega | exact ⟨by omega, by omega, by omega, by omega⟩ | exact Nat.le_of_ble_eq_true rfl) rfl ?_))
      exact ⟨⟨i + 1, by omega⟩, by dsimp only; omega, fits_of rfl ⟨Sub.refl _, Sub.refl _, Sub.refl _, Sub.refl _, trivial⟩⟩
  · repeat (first
      | refine awp_seq ?_
      | refine thenA_normal ?_
      | refine a_region ?_
      | refine awp_ret ?_
      | refine awp_exit ?_
      | refine r_done ?_
      | (refine r_id ?_; first
        | refine r_ev tab_ok rfl rfl rfl rfl (by first | exact trivial | exact ⟨by omega, by omega⟩ | omega | exact ⟨by omega, by omega, by omega, by omega⟩ | exact Nat.le_of_ble_eq_true rfl) rfl ?_)
      | refine ret1 (by first | exact .inl rfl | exact .inr rfl) rfl rfl rfl ?_)
    exact Sub.of_eq (by rw [findR, if_neg (by omega)])
def sameC (c : Ctr) (x : Ctr) : Bool := decide (x.name = c.name) && decide (x.of = c.of)
theorem find1_ok (x c : Ctr) : PCalls Try.prog 30 [cAV x, .dptr [.val (.string c.name), .val (.int .i64 c.of), .val (.int .i64 c.n), .val (.bool c.rev)]] (.val (.bool (sameC c x))) := by
  refine p_start Try.func30 Try.ntmps30 rfl rfl rfl fun S w => ?_
  repeat (first
    | refine awp_seq ?_
    | refine thenA_normal ?_
    | refine a_region ?_
    | refine awp_ret ?_
    | refine r_done ?_
    | (refine r_id ?_; first
      | refine r_ev tab_ok rfl rfl rfl rfl (by first | exact trivial | exact ⟨by omega, by omega⟩ | omega | exact ⟨by omega, by omega, by omega, by omega⟩ | exact Nat.le_of_ble_eq_true rfl) rfl ?_
      | refine r_ld tab_ok rfl rfl rfl rfl rfl ?_
      | refine r_wr tab_ok rfl rfl rfl rfl rfl ?_
      | refine r_ev_cnd tab_ok rfl rfl rfl rfl rfl rfl (by first | exact fun _ => rfl | exact cs1 | exact cs2 | exact cs3) (by first | exact fun _ => trivial | (intro h; simp at h; first | exact ⟨by omega, by omega⟩ | omega)) rfl ?_
      | refine r_ld_cnd tab_ok rfl rfl rfl rfl rfl rfl (by first | exact fun _ => rfl | exact cs1 | exact cs2 | exact cs3) rfl ?_
      | refine r_and rfl rfl rfl rfl rfl rfl rfl rfl ?_)
    | refine ret1 (by first | exact .inl rfl | exact .inr rfl) rfl rfl rfl ?_)
  exact Sub.refl _
theorem find_ok (l : List Ctr) (c : Ctr) (hl : l.length ≤ 4611686018427387904) : PCalls Try.prog 25 [.sl 4 (l.map cD), cAV c] (.val (.int .i64 (findR (sameC c) l))) := by
  refine p_start Try.func25 Try.ntmps25 rfl rfl rfl fun S w => ?_
  repeat (first
    | refine awp_seq ?_)
  refine a_region ?_
  repeat (first
    | refine awp_seq ?_
    | refine r_done ?_
    | (refine r_id ?_; first
      | refine r_ev tab_ok rfl rfl rfl rfl (by first | exact trivial | exact ⟨by omega, by omega⟩ | omega | exact ⟨by omega, by omega, by omega, by omega⟩ | exact Nat.le_of_ble_eq_true rfl) rfl ?_
      | refine r_wr tab_ok rfl rfl rfl rfl rfl ?_))
  refine awp_fits (fits_sinkp (i := 0) (d := 3) rfl rfl rfl) ?_
  repeat (first
    | refine a_region ?_
    | (refine r_id ?_; first
      | refine r_ev tab_ok rfl rfl rfl rfl (by first | exact trivial | exact ⟨by omega, by omega⟩ | omega | exact ⟨by omega, by omega, by omega, by omega⟩ | exact Nat.le_of_ble_eq_true rfl) rfl ?_
      | refine r_mkfn rfl rfl rfl rfl rfl rfl ?_))
  refine r_call (find_ctr_ok l (sameC c) 30 [.dptr [.val (.string c.name), .val (.int .i64 c.of), .val (.int .i64 c.n), .val (.bool c.rev)]] hl call30 rfl (fun s _ => find1_ok s c)) call29 rfl rfl ⟨Sub.refl _, Sub.refl _, trivial⟩ rfl rfl rfl rfl ?_
  repeat (first
    | refine thenA_normal ?_
    | refine awp_ret ?_
    | refine r_done ?_
    | (refine r_id ?_; first
      | refine r_ev tab_ok rfl rfl rfl rfl (by first | exact trivial | exact ⟨by omega, by omega⟩ | omega | exact ⟨by omega, by omega, by omega, by omega⟩ | exact Nat.le_of_ble_eq_true rfl) rfl ?_)
    | refine ret1 (by first | exact .inl rfl | exact .inr rfl) rfl rfl rfl ?_)
  exact Sub.refl _
end Go.Proofs.Ytajbbcnfohbieaa
