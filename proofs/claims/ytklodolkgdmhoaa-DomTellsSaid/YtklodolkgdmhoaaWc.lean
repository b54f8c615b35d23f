import Derived.Test.YtklodolkgdmhoaaW8
/- slices: IndexFunc, DeleteFunc, Reverse; dom: Elements, Before. -/
namespace Go.Proofs.Ytklodolkgdmhoaa
open Go Go.RowKit

theorem find_int_ok (l : List Nat) (p : Nat → Bool) (f : FuncId) (caps : List AV) (hl : l.length ≤ 4611686018427387904) (hcall : Callable Try.prog f) (hcf : AV.frees caps = true) (hp : ∀ s ∈ l, PCalls Try.prog f (.val (.int .i64 (s : Nat)) :: caps) (.val (.bool (p s)))) :
    PCalls Try.prog 57 [.sl 1 (l.map nD), .cl f caps] (.val (.int .i64 (findR p l))) := by
  refine p_start Try.func57 Try.ntmps57 rfl rfl rfl fun S w => ?_
  repeat (first
    | refine awp_seq ?_
    | refine thenA_normal ?_
    | refine awp_block ?_
    | refine a_region ?_
    | refine r_done ?_
    | (refine r_id ?_; first
      | refine r_len tab_ok rfl rfl rfl rfl rfl rfl rfl ?_
      | refine r_ev tab_ok rfl rfl rfl rfl (by first | exact trivial | exact ⟨by omega, by omega⟩ | omega | exact ⟨by omega, by omega, by omega, by omega⟩ | exact Nat.le_of_ble_eq_true rfl) rfl ?_))
  refine a_loop (σ := {i : Nat // i ≤ l.findIdx p}) (fun _ => []) (fun x => [(0, .sl 1 (l.map nD)), (1, .cl f caps), (7, .val (.int .i64 l.length)), (8, .val (.int .i64 x.1))]) (fun x => l.length - x.1) ⟨0, Nat.zero_le _⟩
    (fits_of rfl ⟨Sub.refl _, Sub.refl _, Sub.refl _, Sub.refl _, trivial⟩) ?_
  rintro ⟨i, hi⟩
  dsimp only
  have hle := List.findIdx_le_length (p := p) (xs := l)
  repeat (first
    | refine awp_seq ?_
    | refine a_region ?_
    | refine r_done ?_
    | (refine r_id ?_; first
      | refine r_ev tab_ok rfl rfl rfl rfl (by first | exact trivial | exact ⟨by omega, by omega⟩ | omega | exact ⟨by omega, by omega, by omega, by omega⟩ | exact Nat.le_of_ble_eq_true rfl) rfl ?_))
  refine awp_cond_p rfl (fun hlt => ?_) (fun hge => ?_)
  · have hi' : i < l.length := by omega
    repeat (first
      | refine awp_seq ?_
      | refine awp_block ?_
      | refine a_region ?_
      | refine awp_skip ?_
      | refine r_done ?_
      | (refine r_id ?_; first
        | refine r_ev tab_ok rfl rfl rfl rfl (by first | exact trivial | exact ⟨by omega, by omega⟩ | omega | exact ⟨by omega, by omega, by omega, by omega⟩ | exact Nat.le_of_ble_eq_true rfl) rfl ?_
        | refine r_idx tab_ok rfl rfl rfl rfl rfl rfl rfl (by first | exact ⟨by omega, by omega⟩ | (simp; omega)) rfl rfl ?_))
    simp only [Int.toNat_natCast]
    refine r_callv (hp l[i] (List.getElem_mem hi')) hcall rfl rfl rfl ⟨Sub.refl _, subs_refl _⟩ (by simp [AV.frees, AV.free, hcf]) rfl rfl rfl ?_
    repeat (first
      | refine thenA_normal ?_
      | refine r_done ?_)
    refine awp_cond rfl (fun hb => ?_) (fun hb => ?_)
    · repeat (first
        | refine awp_seq ?_
        | refine thenA_normal ?_
        | refine a_region ?_
        | refine awp_ret ?_
        | refine thenA_ret ?_
        | refine blockA_ret ?_
        | refine r_done ?_
        | (refine r_id ?_; first
          | refine r_ev tab_ok rfl rfl rfl rfl (by first | exact trivial | exact ⟨by omega, by omega⟩ | omega | exact ⟨by omega, by omega, by omega, by omega⟩ | exact Nat.le_of_ble_eq_true rfl) rfl ?_)
        | refine ret1 (by first | exact .inl rfl | exact .inr rfl) rfl rfl rfl ?_)
      have : l.findIdx p = i := by
        rcases Nat.lt_or_eq_of_le hi with h | h
        · have := List.not_of_lt_findIdx h
          simp_all
        · exact h.symm
      exact Sub.of_eq (by rw [findR, if_pos (by omega), this])
    · have : l.findIdx p ≠ i := fun h => by
        have := List.findIdx_getElem (p := p) (xs := l) (w := by omega)
        simp only [h] at this
        simp_all
      repeat (first
        | refine thenA_normal ?_
        | refine a_region ?_
        | refine awp_skip ?_
        | refine r_done ?_
        | (refine r_id ?_; first
          | refine r_ev tab_ok rfl rfl rfl rfl (by first | exact trivial | exact ⟨by omega, by omega⟩ | omega | exact ⟨by omega, by omega, by omega, by omega⟩ | exact Nat.le_of_ble_eq_true rfl) rfl ?_))
      exact ⟨⟨i + 1, by omega⟩, by dsimp only; omega, fits_of rfl ⟨Sub.refl _, Sub.refl _, Sub.refl _, Sub.refl _, trivial⟩⟩
  · repeat (first
      | refine awp_seq ?_
      | refine thenA_normal ?_
      | refine a_region ?_
      | refine awp_ret ?_
      | refine awp_exit ?_
      | refine r_done ?_
      | (refine r_id ?_; first
        | refine r_ev tab_ok rfl rfl rfl rfl (by first | exact trivial | exact ⟨by omega, by omega⟩ | omega | exact ⟨by omega, by omega, by omega, by omega⟩ | exact Nat.le_of_ble_eq_true rfl) rfl ?_)
      | refine ret1 (by first | exact .inl rfl | exact .inr rfl) rfl rfl rfl ?_)
    exact Sub.of_eq (by rw [findR, if_neg (by omega)])
/-- A row while elements are struck out. -/
structure DS (p : Nat → Bool) (l : List Nat) where
  j : Nat
  X : List Nat
  hj : j ≤ l.length
  hl : ((l.take j).filter (fun x => !p x)).length + X.length = j
  hX : 0 < X.length
def DS.K {p : Nat → Bool} {l : List Nat} (x : DS p l) : List Nat := (l.take x.j).filter (fun x => !p x)
def DS.cur {p : Nat → Bool} {l : List Nat} (x : DS p l) : List Nat := x.K ++ (x.X ++ l.drop x.j)
theorem filter_find {p : Nat → Bool} {l : List Nat} {i : Nat} (h : l.findIdx p = i) (hi : i < l.length) : ((l.take (i + 1)).filter (fun x => !p x)) = l.take i := by
  rw [List.take_add_one, List.getElem?_eq_getElem hi, List.filter_append, List.filter_eq_self.2]
  · have := List.findIdx_getElem (p := p) (xs := l) (w := by omega)
    simp only [h] at this
    simp [this]
  · intro a ha
    obtain ⟨k, hk, rfl⟩ := List.mem_take_iff_getElem.1 ha
    have : k < l.findIdx p := by omega
    have := List.not_of_lt_findIdx this
    simpa using this
set_option maxHeartbeats 1000000 in
theorem delete_ok (l : List Nat) (p : Nat → Bool) (f : FuncId) (caps : List AV) (hl : l.length ≤ 1099511627776) (hcall : Callable Try.prog f) (hcf : AV.frees caps = true) (hcu : AV.unders 1 caps = true) (hp : ∀ s ∈ l, PCalls Try.prog f (.val (.int .i64 (s : Nat)) :: caps) (.val (.bool (p s)))) :
    MCalls Try.prog 43 [.row 0 3 1 (l.map nD)] [.row 0 0, .cl f caps] [.row 2 3 1 ((l.filter (fun x => !p x)).map nD)] (.row 0 2) := by
  refine m_startF Try.func43 Try.ntmps43 rfl rfl rfl fun S w β => ?_
  have hlm : (l.map nD).length = l.length := List.length_map _
  have hle := List.findIdx_le_length (p := p) (xs := l)
  repeat (first
    | refine awp_seq ?_
    | refine a_region ?_
    | refine r_done ?_
    | (refine r_id ?_; first
      | refine r_ev tab_ok rfl rfl rfl rfl (by first | exact trivial | exact ⟨by omega, by omega⟩ | omega | exact ⟨by omega, by omega, by omega, by omega⟩ | exact Nat.le_of_ble_eq_true rfl) rfl ?_))
  refine r_mro [0] (mcalls_lend (xs := [.row 0 0, .cl f caps]) (M0 := [.row 0 3 1 (l.map nD)]) (find_int_ok l p f caps (by omega) hcall hcf hp) ⟨.inr ⟨0, 0, _, 1, _, rfl, rfl, rfl⟩, .inl ⟨rfl, hcf⟩, trivial⟩ rfl) call57 rfl rfl ⟨rfl, trivial⟩ (by decide) ⟨Sub.refl _, ?_, trivial⟩ ?_ rfl rfl rfl rfl rfl ?_
  · exact Sub.of_eq (by show AV.cl f caps = .cl f (AV.rens _ caps); rw [frees_ren _ _ hcf])
  · show (((true && (AV.unders 1 caps && true)) && true) = true)
    rw [hcu]
    rfl
  repeat (first
    | refine awp_seq ?_
    | refine thenA_normal ?_
    | refine a_region ?_
    | refine r_done ?_
    | (refine r_id ?_; first
      | refine r_ev tab_ok rfl rfl rfl rfl (by first | exact trivial | exact ⟨by omega, by omega⟩ | omega | exact ⟨by omega, by omega, by omega, by omega⟩ | exact Nat.le_of_ble_eq_true rfl) rfl ?_))
  refine awp_cond_p rfl (fun hno => ?_) (fun hyes => ?_)
  · have hall : l.filter (fun x => !p x) = l := by
      have : l.findIdx p = l.length := by
        rw [findR] at hno
        split at hno
        · omega
        · omega
      rw [List.filter_eq_self]
      intro a ha
      obtain ⟨k, hk, rfl⟩ := List.mem_iff_getElem.1 ha
      have := List.not_of_lt_findIdx (p := p) (xs := l) (i := k) (by omega)
      simpa using this
    rw [hall]
    repeat (first
      | refine awp_seq ?_
      | refine thenA_normal ?_
      | refine a_region ?_
      | refine awp_ret ?_
      | refine thenA_ret ?_
      | refine r_done ?_
      | (refine r_id ?_; first
        | refine r_ev tab_ok rfl rfl rfl rfl (by first | exact trivial | exact ⟨by omega, by omega⟩ | omega | exact ⟨by omega, by omega, by omega, by omega⟩ | exact Nat.le_of_ble_eq_true rfl) rfl ?_))
    exact retF1 [.row 2 3 1 (l.map nD)] [(4, .row 0 2)] (fits_convM (by repeat' first | exact trivial | exact rfl | (rw [List.map_append]; first | done | rfl) | exact c_sub rfl (Sub.refl _) rfl | exact c_nil rfl rfl | exact c_thaw rfl rfl rfl | exact c_row rfl rfl rfl | exact c_row rfl rfl (by rw [List.map_append]; first | done | rfl) | exact c_ptr rfl rfl rfl rfl | exact Or.inl ⟨c_sub rfl (Sub.refl _) rfl, c_ptr rfl rfl rfl rfl⟩ | exact c_alt rfl rfl rfl rfl | exact c_ro rfl rfl | exact c_eo rfl rfl | exact c_sub rfl (Sub.altl _ _) rfl | exact c_sub rfl (Sub.nil _) rfl | refine ⟨_, _, rfl, ?_, ?_⟩ | apply And.intro) (by repeat' first | exact trivial | exact rfl | (rw [List.map_append]; first | done | rfl) | exact c_sub rfl (Sub.refl _) rfl | exact c_nil rfl rfl | exact c_thaw rfl rfl rfl | exact c_row rfl rfl rfl | exact c_row rfl rfl (by rw [List.map_append]; first | done | rfl) | exact c_ptr rfl rfl rfl rfl | exact Or.inl ⟨c_sub rfl (Sub.refl _) rfl, c_ptr rfl rfl rfl rfl⟩ | exact c_alt rfl rfl rfl rfl | exact c_ro rfl rfl | exact c_eo rfl rfl | exact c_sub rfl (Sub.altl _ _) rfl | exact c_sub rfl (Sub.nil _) rfl | refine ⟨_, _, rfl, ?_, ?_⟩ | apply And.intro) ⟨.inr (by decide), trivial⟩) (by first | exact .inl rfl | exact .inr rfl) rfl rfl rfl rfl rfl (Sub.refl _)
  · obtain ⟨i, hi⟩ : ∃ i, l.findIdx p = i := ⟨_, rfl⟩
    have hil : i < l.length := by
      rw [findR, hi] at hyes
      split at hyes
      · assumption
      · exact absurd rfl hyes
    have hfr : findR p l = i := by rw [findR, hi, if_pos hil]
    have hfe := filter_find hi hil
    have hti : (l.take i).length = i := by rw [List.length_take]; omega
    rw [hfr]
    repeat (first
      | refine awp_seq ?_
      | refine thenA_normal ?_
      | refine awp_block ?_
      | refine a_region ?_
      | refine awp_skip ?_
      | refine r_done ?_
      | (refine r_id ?_; first
        | refine r_ev tab_ok rfl rfl rfl rfl (by first | exact trivial | exact ⟨by omega, by omega⟩ | omega | exact ⟨by omega, by omega, by omega, by omega⟩ | exact Nat.le_of_ble_eq_true rfl) rfl ?_))
    refine a_loop (σ := DS p l) (fun x => [.row 0 3 1 (x.cur.map nD)]) (fun x => [(0, .row 0 0), (1, .cl f caps), (5, .val (.int .i64 (x.K.length : Nat))), (6, .val (.int .i64 x.j))]) (fun x => l.length - x.j)
      ⟨i + 1, [l[i]], by omega, by rw [hfe, hti]; rfl, Nat.one_pos⟩ ?_ ?_
    · have hcur : (⟨i + 1, [l[i]], by omega, by rw [hfe, hti]; rfl, Nat.one_pos⟩ : DS p l).cur = l := by
        show (l.take (i + 1)).filter (fun x => !p x) ++ ([l[i]] ++ l.drop (i + 1)) = l
        rw [hfe, List.singleton_append, List.getElem_cons_drop, List.take_append_drop]
      rw [hcur]
      exact fits_of rfl ⟨Sub.refl _, Sub.refl _, Sub.of_eq (by show AV.val (.int .i64 (i : Int)) = .val (.int .i64 ((((l.take (i + 1)).filter (fun x => !p x)).length : Nat) : Int)); rw [hfe, hti]), Sub.refl _, trivial⟩
    rintro ⟨j, X, hj, hlen, hX⟩
    dsimp only [DS.cur, DS.K]
    obtain ⟨K, hK⟩ : ∃ K, K = (l.take j).filter (fun x => !p x) := ⟨_, rfl⟩
    rw [← hK] at hlen ⊢
    have hcl : (K ++ (X ++ l.drop j)).length = l.length := by simp; omega
    have hclm : ((K ++ (X ++ l.drop j)).map nD).length = l.length := by rw [List.length_map, hcl]
    repeat (first
      | refine awp_seq ?_
      | refine thenA_normal ?_
      | refine a_region ?_
      | refine r_done ?_
      | (refine r_id ?_; first
        | refine r_ev tab_ok rfl rfl rfl rfl (by first | exact trivial | exact ⟨by omega, by omega⟩ | omega | exact ⟨by omega, by omega, by omega, by omega⟩ | exact Nat.le_of_ble_eq_true rfl) rfl ?_
        | refine r_ld tab_ok rfl rfl rfl rfl rfl ?_))
    refine awp_cond_p rfl (fun hlt => ?_) (fun hge => ?_)
    · have hj' : j < l.length := by omega
      have hjc : j < (K ++ (X ++ l.drop j)).length := by omega
      have hget : (K ++ (X ++ l.drop j))[j]'hjc = l[j] := by
        rw [List.getElem_append_right (by omega), List.getElem_append_right (by omega), List.getElem_drop]
        congr 1
        omega
      repeat (first
        | refine awp_seq ?_
        | refine awp_block ?_
        | refine a_region ?_
        | refine awp_skip ?_
        | refine r_done ?_
        | (refine r_id ?_; first
          | refine r_ev tab_ok rfl rfl rfl rfl (by first | exact trivial | exact ⟨by omega, by omega⟩ | omega | exact ⟨by omega, by omega, by omega, by omega⟩ | exact Nat.le_of_ble_eq_true rfl) rfl ?_
          | refine r_idxr tab_ok rfl rfl rfl rfl rfl rfl rfl rfl (by first | exact ⟨by omega, by omega⟩ | (simp; omega)) rfl ?_
          | refine r_lde tab_ok rfl rfl rfl rfl rfl (by omega) rfl rfl rfl rfl ?_))
      simp only [Int.toNat_natCast]
      rw [hget]
      have htk : (l.take (j + 1)).filter (fun x => !p x) = K ++ (if p l[j] then [] else [l[j]]) := by
        rw [List.take_add_one, List.getElem?_eq_getElem hj', List.filter_append, ← hK]
        cases hq : p l[j] <;> simp [hq]
      have hdr : l.drop j = l[j] :: l.drop (j + 1) := List.drop_eq_getElem_cons hj'
      refine r_callv (hp l[j] (List.getElem_mem hj')) hcall rfl rfl rfl ⟨Sub.refl _, subs_refl _⟩ (by simp [AV.frees, AV.free, hcf]) rfl rfl rfl ?_
      repeat (first
        | refine thenA_normal ?_
        | refine r_done ?_
        | (refine r_id ?_; first
          | refine r_ev tab_ok rfl rfl rfl rfl (by first | exact trivial | exact ⟨by omega, by omega⟩ | omega | exact ⟨by omega, by omega, by omega, by omega⟩ | exact Nat.le_of_ble_eq_true rfl) rfl ?_))
      cases hpj : p l[j] with
      | true =>
        rw [hpj, if_pos rfl, List.append_nil] at htk
        repeat (first
          | refine thenA_normal ?_
          | refine a_region ?_
          | refine awp_skip ?_
          | refine r_done ?_
          | (refine r_id ?_; first
            | refine r_ev tab_ok rfl rfl rfl rfl (by first | exact trivial | exact ⟨by omega, by omega⟩ | omega | exact ⟨by omega, by omega, by omega, by omega⟩ | exact Nat.le_of_ble_eq_true rfl) rfl ?_)
          | refine awp_cond_f rfl ?_)
        refine ⟨⟨j + 1, X ++ [l[j]], by omega, by rw [htk, List.length_append, List.length_singleton]; omega, by simp⟩, by dsimp only; omega, ?_⟩
        dsimp only [DS.cur, DS.K]
        rw [htk, List.append_assoc X, List.singleton_append, ← hdr]
        exact fits_of rfl ⟨Sub.refl _, Sub.refl _, Sub.refl _, Sub.refl _, trivial⟩
      | false =>
        rw [hpj, if_neg Bool.false_ne_true] at htk
        obtain ⟨x0, X2, rfl⟩ : ∃ x0 X2, X = x0 :: X2 := by
          cases X with
          | nil => exact absurd hX (by simp)
          | cons x X => exact ⟨x, X, rfl⟩
        have hset : (K ++ (x0 :: X2 ++ l.drop j)).set K.length l[j] = (K ++ [l[j]]) ++ ((X2 ++ [l[j]]) ++ l.drop (j + 1)) := by
          rw [List.set_append_right _ _ (Nat.le_refl _), Nat.sub_self, List.cons_append, List.set_cons_zero, hdr]
          simp
        repeat (first
          | refine awp_seq ?_
          | refine a_region ?_
          | (refine r_id ?_; first
            | refine r_ev tab_ok rfl rfl rfl rfl (by first | exact trivial | exact ⟨by omega, by omega⟩ | omega | exact ⟨by omega, by omega, by omega, by omega⟩ | exact Nat.le_of_ble_eq_true rfl) rfl ?_
            | refine r_idxr tab_ok rfl rfl rfl rfl rfl rfl rfl rfl (by first | exact ⟨by omega, by omega⟩ | (simp; omega)) rfl ?_)
          | refine awp_cond_t rfl ?_)
        refine r_ste tab_ok l[j] rfl rfl rfl rfl rfl (by simp only [Int.toNat_natCast]; simp) rfl rfl rfl rfl rfl rfl ?_
        simp only [Int.toNat_natCast]
        rw [hset]
        repeat (first
          | refine thenA_normal ?_
          | refine a_region ?_
          | refine r_done ?_
          | (refine r_id ?_; first
            | refine r_ev tab_ok rfl rfl rfl rfl (by first | exact trivial | exact ⟨by omega, by omega⟩ | omega | exact ⟨by omega, by omega, by omega, by omega⟩ | exact Nat.le_of_ble_eq_true rfl) rfl ?_))
        refine ⟨⟨j + 1, X2 ++ [l[j]], by omega, by rw [htk, List.length_append, List.length_append, List.length_singleton]; simp at hlen ⊢; omega, by simp⟩, by dsimp only; omega, ?_⟩
        dsimp only [DS.cur, DS.K]
        rw [htk]
        exact fits_of rfl ⟨Sub.refl _, Sub.refl _, Sub.of_eq (by show AV.val (.int .i64 ((K.length : Int) + 1)) = .val (.int .i64 (((K ++ [l[j]]).length : Nat) : Int)); rw [List.length_append]; rfl), Sub.refl _, trivial⟩
    · have hjl : j = l.length := by omega
      subst hjl
      rw [List.take_length] at hK
      rw [List.drop_length, List.append_nil] at hcl hclm ⊢
      rw [← hK]
      have hne : (K ++ X).map nD ≠ [] := by
        cases X with
        | nil => exact absurd hX (by simp)
        | cons x X => simp
      repeat (first
        | refine awp_seq ?_
        | refine a_region ?_
        | refine awp_exit ?_
        | (refine r_id ?_; first
          | refine r_ev tab_ok rfl rfl rfl rfl (by first | exact trivial | exact ⟨by omega, by omega⟩ | omega | exact ⟨by omega, by omega, by omega, by omega⟩ | exact Nat.le_of_ble_eq_true rfl) rfl ?_))
      refine r_by1 (astep_sfx tab_ok rfl rfl rfl rfl hne rfl ⟨by omega, by rw [List.length_map, List.length_append]; omega⟩) rfl rfl rfl rfl rfl ?_
      refine r_by2n (astep_clear_s (v := .int .i64 0) tab_ok rfl rfl rfl rfl rfl rfl (by simp only [Int.toNat_natCast]; rw [List.length_map, List.length_append]; omega) rfl rfl) rfl rfl rfl ?_
      simp only [Int.toNat_natCast]
      have he : (((K ++ X).map nD).take K.length ++ List.replicate (((K ++ X).map nD).length - K.length) (D.val (.int .i64 0))).take K.length = K.map nD := by
        rw [List.take_append_of_le_length (by rw [List.length_take, List.length_map, List.length_append]; omega), List.take_take, Nat.min_self, List.map_append, List.take_append_of_le_length (by rw [List.length_map]; exact Nat.le_refl _), List.take_of_length_le (by rw [List.length_map]; exact Nat.le_refl _)]
      have hne2 : ((K ++ X).map nD).take K.length ++ List.replicate (((K ++ X).map nD).length - K.length) (D.val (.int .i64 0)) ≠ [] := by
        intro h
        have h2 := congrArg List.length h
        rw [List.length_append, List.length_take, List.length_replicate, List.length_map, List.length_append, List.length_nil] at h2
        omega
      repeat (first
        | refine awp_seq ?_
        | refine a_region ?_
        | refine r_done ?_
        | (refine r_id ?_; first
          | refine r_ev tab_ok rfl rfl rfl rfl (by first | exact trivial | exact ⟨by omega, by omega⟩ | omega | exact ⟨by omega, by omega, by omega, by omega⟩ | exact Nat.le_of_ble_eq_true rfl) rfl ?_))
      refine r_by2 (astep_cut_row tab_ok rfl rfl rfl rfl hne2 rfl rfl (m := K.length) rfl (by rw [List.length_append, List.length_take, List.length_map, List.length_append]; omega)) rfl rfl rfl rfl rfl ?_
      rw [he]
      repeat (first
        | refine thenA_normal ?_
        | refine awp_ret ?_
        | refine r_done ?_
        | (refine r_id ?_; first
          | refine r_ev tab_ok rfl rfl rfl rfl (by first | exact trivial | exact ⟨by omega, by omega⟩ | omega | exact ⟨by omega, by omega, by omega, by omega⟩ | exact Nat.le_of_ble_eq_true rfl) rfl ?_))
      exact retF1 [.row 2 3 1 (K.map nD)] [(4, .row 0 2)] (fits_of rfl ⟨Sub.refl _, trivial⟩) (by first | exact .inl rfl | exact .inr rfl) rfl rfl rfl rfl rfl (Sub.refl _)
/-- Reverse. -/
def revAt (l : List Nat) (i : Nat) : List Nat := (List.range l.length).map fun k => if k < i ∨ l.length ≤ k + i then l.getD (l.length - 1 - k) 0 else l.getD k 0
theorem revAt_len (l : List Nat) (i : Nat) : (revAt l i).length = l.length := by simp [revAt]
theorem revAt_get {l : List Nat} {i k : Nat} (h : k < (revAt l i).length) : (revAt l i)[k] = if k < i ∨ l.length ≤ k + i then l.getD (l.length - 1 - k) 0 else l.getD k 0 := by simp [revAt]
theorem revAt_0 (l : List Nat) : revAt l 0 = l := by
  apply List.ext_getElem (revAt_len l 0)
  intro k h1 h2
  rw [revAt_get h1, if_neg (by omega), List.getD_eq_getElem?_getD, List.getElem?_eq_getElem h2]
  rfl
theorem revAt_end {l : List Nat} {i : Nat} (h : l.length ≤ 2 * i + 1) : revAt l i = l.reverse := by
  apply List.ext_getElem (by rw [revAt_len, List.length_reverse])
  intro k h1 h2
  rw [revAt_len] at h1
  rw [revAt_get (by rw [revAt_len]; exact h1), List.getElem_reverse, List.getD_eq_getElem?_getD, List.getD_eq_getElem?_getD]
  split
  · rw [List.getElem?_eq_getElem (by omega)]; rfl
  · have : l.length - 1 - k = k := by omega
    rw [List.getElem?_eq_getElem h1]
    simp only [this]
    rfl
theorem revAt_step {l : List Nat} {i : Nat} (h : 2 * i + 1 < l.length) : ((revAt l i).set i (l.getD (l.length - 1 - i) 0)).set (l.length - 1 - i) (l.getD i 0) = revAt l (i + 1) := by
  apply List.ext_getElem (by simp [revAt_len])
  intro k h1 h2
  rw [revAt_get h2, List.getElem_set, List.getElem_set]
  split
  · rename_i e
    rw [if_pos (by omega), ← e]
    congr 1
    omega
  · split
    · rename_i e
      subst e
      rw [if_pos (by omega)]
    · rw [revAt_get (by rw [revAt_len] at *; omega)]
      by_cases hc : k < i ∨ l.length ≤ k + i
      · rw [if_pos hc, if_pos (by omega)]
      · rw [if_neg hc, if_neg (by omega)]
theorem reverse_ok (l : List Nat) (hl : l.length ≤ 1099511627776) : MCalls Try.prog 48 [.row 2 3 1 (l.map nD)] [.row 0 2] [.row 2 3 1 (l.reverse.map nD)] (.tup []) := by
  refine m_startF Try.func48 Try.ntmps48 rfl rfl rfl fun S w β => ?_
  have hlm : (l.map nD).length = l.length := List.length_map _
  repeat (first
    | refine awp_seq ?_
    | refine thenA_normal ?_
    | refine awp_block ?_
    | refine a_region ?_
    | refine r_done ?_
    | (refine r_id ?_; first
      | refine r_ev tab_ok rfl rfl rfl rfl (by first | exact trivial | exact ⟨by omega, by omega⟩ | omega | exact ⟨by omega, by omega, by omega, by omega⟩ | exact Nat.le_of_ble_eq_true rfl) rfl ?_
      | refine r_ld tab_ok rfl rfl rfl rfl rfl ?_))
  refine a_loop (σ := {i : Nat // 2 * i ≤ l.length + 1}) (fun x => [.row 2 3 1 ((revAt l x.1).map nD)]) (fun x => [(0, .row 0 2), (2, .val (.int .i64 x.1)), (3, .val (.int .i64 ((l.length : Int) - 1 - x.1)))]) (fun x => l.length - x.1) ⟨0, by omega⟩ ?_ ?_
  · rw [revAt_0]
    exact fits_of rfl ⟨Sub.refl _, Sub.refl _, Sub.of_eq (by show AV.val (.int .i64 (((l.map nD).length : Int) - 1)) = .val (.int .i64 ((l.length : Int) - 1 - (0 : Nat))); rw [hlm]; congr 2; omega), trivial⟩
  rintro ⟨i, hi⟩
  dsimp only
  have hrl := revAt_len l i
  have hrm : ((revAt l i).map nD).length = l.length := by rw [List.length_map, hrl]
  repeat (first
    | refine awp_seq ?_
    | refine thenA_normal ?_
    | refine a_region ?_
    | refine r_done ?_
    | (refine r_id ?_; first
      | refine r_ev tab_ok rfl rfl rfl rfl (by first | exact trivial | exact ⟨by omega, by omega⟩ | omega | exact ⟨by omega, by omega, by omega, by omega⟩ | exact Nat.le_of_ble_eq_true rfl) rfl ?_))
  refine awp_cond_p rfl (fun hlt => ?_) (fun hge => ?_)
  · have h2i : 2 * i + 1 < l.length := by omega
    have hti : ((l.length : Int) - 1 - i).toNat = l.length - 1 - i := by omega
    have g1 : (revAt l i)[i]'(by omega) = l.getD i 0 := by rw [revAt_get (by omega), if_neg (by omega)]
    have g2 : (revAt l i)[l.length - 1 - i]'(by omega) = l.getD (l.length - 1 - i) 0 := by rw [revAt_get (by omega), if_neg (by omega)]
    have hst := revAt_step h2i
    repeat (first
      | refine awp_seq ?_
      | refine awp_block ?_
      | refine awp_skip ?_)
    refine a_draw mixed_ok [0, 0, 0, 0, 0, 0, 1, 1, 0, 0, 1, 1, 1, 2, 1, 2] (by kernel_rfl) ?_
    repeat (first
      | (refine r_id ?_; first
        | refine r_ev tab_ok rfl rfl rfl rfl (by first | exact trivial | exact ⟨by omega, by omega⟩ | omega | exact ⟨by omega, by omega, by omega, by omega⟩ | exact Nat.le_of_ble_eq_true rfl) rfl ?_
        | refine r_idxr tab_ok rfl rfl rfl rfl rfl rfl rfl rfl (by first | exact ⟨by omega, by omega⟩ | (simp; omega)) rfl ?_
        | refine r_lde tab_ok rfl rfl rfl rfl rfl (by omega) rfl rfl rfl rfl ?_))
    simp only [hti, Int.toNat_natCast, g1, g2]
    refine r_ste tab_ok (l.getD (l.length - 1 - i) 0) rfl rfl rfl rfl rfl (by omega) rfl rfl rfl rfl rfl rfl ?_
    have hrm2 : (((revAt l i).set i (l.getD (l.length - 1 - i) 0)).map nD).length = l.length := by rw [List.length_map, List.length_set, hrl]
    have hrl2 : ((revAt l i).set i (l.getD (l.length - 1 - i) 0)).length = l.length := by rw [List.length_set, hrl]
    repeat (first
      | (refine r_id ?_; first
        | refine r_idxr tab_ok rfl rfl rfl rfl rfl rfl rfl rfl (by first | exact ⟨by omega, by omega⟩ | (simp; omega)) rfl ?_))
    simp only [hti]
    refine r_ste tab_ok (l.getD i 0) rfl rfl rfl rfl rfl (by omega) rfl rfl rfl rfl rfl rfl ?_
    rw [hst]
    repeat (first
      | refine thenA_normal ?_
      | refine a_region ?_
      | refine r_done ?_
      | refine r_done' ?_
      | (refine r_id ?_; first
        | refine r_ev tab_ok rfl rfl rfl rfl (by first | exact trivial | exact ⟨by omega, by omega⟩ | omega | exact ⟨by omega, by omega, by omega, by omega⟩ | exact Nat.le_of_ble_eq_true rfl) rfl ?_))
    exact ⟨⟨i + 1, by omega⟩, by dsimp only; omega, fits_of rfl ⟨Sub.refl _, Sub.refl _, Sub.of_eq (by show AV.val (.int .i64 ((l.length : Int) - 1 - i - 1)) = .val (.int .i64 ((l.length : Int) - 1 - (i + 1 : Nat))); congr 2; omega), trivial⟩⟩
  · rw [revAt_end (by omega)]
    repeat (first
      | refine awp_exit ?_
      | refine thenA_exit ?_
      | refine blockA_hit rfl ?_)
    exact ⟨_, fun _ _ h => h, retM0 (by first | exact .inl rfl | exact .inr rfl) rfl rfl rfl⟩
end Go.Proofs.Ytklodolkgdmhoaa

/- dom: Elements, Before. -/
namespace Go.Proofs.Ytklodolkgdmhoaa
open Go Go.RowKit

theorem cloneM_ok (l : List Nat) (hl : l.length ≤ 1099511627776) : MCalls Try.prog 42 [] [.sl 1 (l.map nD)] [.row 0 3 1 (l.map nD)] (.row 0 0) := by
  refine mcalls_ofn Try.func42 Try.ntmps42 rfl rfl rfl 1 (by decide) fun S w β => ?_
  have hlm : (l.map nD).length = l.length := List.length_map _
  repeat (first
    | refine awp_seq ?_
    | refine thenA_normal ?_
    | refine a_region ?_
    | refine r_done ?_
    | (refine r_id ?_; first
      | refine r_ev tab_ok rfl rfl rfl rfl (by first | exact trivial | exact ⟨by omega, by omega⟩ | omega | exact ⟨by omega, by omega, by omega, by omega⟩ | exact Nat.le_of_ble_eq_true rfl) rfl ?_))
  refine awp_cond_u rfl (fun he => ?_) (fun _ => ?_)
  · have : l = [] := by simpa using he
    subst this
    repeat (first
      | refine awp_seq ?_
      | refine thenA_normal ?_
      | refine a_region ?_
      | refine r_done ?_
      | (refine r_id ?_; first
        | refine r_ev tab_ok rfl rfl rfl rfl (by first | exact trivial | exact ⟨by omega, by omega⟩ | omega | exact ⟨by omega, by omega, by omega, by omega⟩ | exact Nat.le_of_ble_eq_true rfl) rfl ?_))
    refine awp_fits (s' := ⟨[.row 0 3 1 []], [(2, .row 0 0)]⟩) (fits_conv (by repeat' first | exact trivial | exact rfl | (rw [List.map_append]; first | done | rfl) | exact c_sub rfl (Sub.refl _) rfl | exact c_nil rfl rfl | exact c_thaw rfl rfl rfl | exact c_row rfl rfl rfl | exact c_row rfl rfl (by rw [List.map_append]; first | done | rfl) | exact c_ptr rfl rfl rfl rfl | exact Or.inl ⟨c_sub rfl (Sub.refl _) rfl, c_ptr rfl rfl rfl rfl⟩ | exact c_alt rfl rfl rfl rfl | exact c_ro rfl rfl | exact c_eo rfl rfl | exact c_sub rfl (Sub.altl _ _) rfl | exact c_sub rfl (Sub.nil _) rfl | refine ⟨_, _, rfl, ?_, ?_⟩ | apply And.intro) ⟨c_nil rfl rfl, trivial⟩) ?_
    repeat (first
      | refine awp_ret ?_
      | refine thenA_ret ?_
      | refine retM1 (by first | exact .inl rfl | exact .inr rfl) rfl rfl rfl rfl rfl ?_)
    exact Sub.refl _
  · repeat (first
      | refine awp_seq ?_
      | refine thenA_normal ?_
      | refine a_region ?_
      | refine awp_skip ?_
      | refine r_done ?_
      | (refine r_id ?_; first
        | refine r_ev tab_ok rfl rfl rfl rfl (by first | exact trivial | exact ⟨by omega, by omega⟩ | omega | exact ⟨by omega, by omega, by omega, by omega⟩ | exact Nat.le_of_ble_eq_true rfl) rfl ?_
        | refine r_built0 tab_ok rfl rfl rfl rfl rfl rfl rfl ?_
        | refine r_append tab_ok rfl rfl rfl rfl rfl rfl rfl rfl rfl (by first | omega | (simp; omega)) rfl ?_))
    refine awp_fits (s' := ⟨[.row 0 3 1 (l.map nD)], [(2, .row 0 0)]⟩) (fits_conv (by repeat' first | exact trivial | exact rfl | (rw [List.map_append]; first | done | rfl) | exact c_sub rfl (Sub.refl _) rfl | exact c_nil rfl rfl | exact c_thaw rfl rfl rfl | exact c_row rfl rfl rfl | exact c_row rfl rfl (by rw [List.map_append]; first | done | rfl) | exact c_ptr rfl rfl rfl rfl | exact Or.inl ⟨c_sub rfl (Sub.refl _) rfl, c_ptr rfl rfl rfl rfl⟩ | exact c_alt rfl rfl rfl rfl | exact c_ro rfl rfl | exact c_eo rfl rfl | exact c_sub rfl (Sub.altl _ _) rfl | exact c_sub rfl (Sub.nil _) rfl | refine ⟨_, _, rfl, ?_, ?_⟩ | apply And.intro) ⟨c_row rfl rfl rfl, trivial⟩) ?_
    repeat (first
      | refine awp_ret ?_
      | refine retM1 (by first | exact .inl rfl | exact .inr rfl) rfl rfl rfl rfl rfl ?_)
    exact Sub.refl _
theorem kidsM_ok (gs : List Nt) (i : Int) (hg : gs.length ≤ 1099511627776) (hk : ∀ n ∈ gs, n.kids.length ≤ 1099511627776) : MCalls Try.prog 24 [] [trA gs, .val (.int .i64 i)] [.row 0 3 1 ((kidF gs i).map nD)] (.row 0 0) := by
  have hh := has_ok gs i hg
  refine mcalls_ofn Try.func24 Try.ntmps24 rfl rfl rfl 1 (by decide) fun S w β => ?_
  rw [kidF]
  cases hb : inB gs i with
  | false => 
    rw [hb] at hh
    repeat (first
      | refine awp_seq ?_
      | refine thenA_normal ?_
      | refine a_region ?_
      | refine r_done ?_
      | (refine r_id ?_; first
        | refine r_ev tab_ok rfl rfl rfl rfl (by first | exact trivial | exact ⟨by omega, by omega⟩ | omega | exact ⟨by omega, by omega, by omega, by omega⟩ | exact Nat.le_of_ble_eq_true rfl) rfl ?_)
      | refine awp_cond_t rfl ?_
      | refine r_call hh call35 rfl rfl ⟨Sub.refl _, Sub.refl _, trivial⟩ rfl rfl rfl rfl ?_)
    refine awp_fits (s' := ⟨[.row 0 3 1 []], [(4, .row 0 0)]⟩) (fits_conv (by repeat' first | exact trivial | exact rfl | (rw [List.map_append]; first | done | rfl) | exact c_sub rfl (Sub.refl _) rfl | exact c_nil rfl rfl | exact c_thaw rfl rfl rfl | exact c_row rfl rfl rfl | exact c_row rfl rfl (by rw [List.map_append]; first | done | rfl) | exact c_ptr rfl rfl rfl rfl | exact Or.inl ⟨c_sub rfl (Sub.refl _) rfl, c_ptr rfl rfl rfl rfl⟩ | exact c_alt rfl rfl rfl rfl | exact c_ro rfl rfl | exact c_eo rfl rfl | exact c_sub rfl (Sub.altl _ _) rfl | exact c_sub rfl (Sub.nil _) rfl | refine ⟨_, _, rfl, ?_, ?_⟩ | apply And.intro) ⟨c_nil rfl rfl, trivial⟩) ?_
    repeat (first
      | refine awp_ret ?_
      | refine thenA_ret ?_
      | refine retM1 (by first | exact .inl rfl | exact .inr rfl) rfl rfl rfl rfl rfl ?_)
    exact Sub.refl _
  | true =>
    rw [hb] at hh
    obtain ⟨h0, h1, h2⟩ := inB_t hb
    repeat (first
      | refine awp_seq ?_
      | refine thenA_normal ?_
      | refine a_region ?_
      | refine awp_skip ?_
      | refine r_done ?_
      | (refine r_id ?_; first
        | refine r_ev tab_ok rfl rfl rfl rfl (by first | exact trivial | exact ⟨by omega, by omega⟩ | omega | exact ⟨by omega, by omega, by omega, by omega⟩ | exact Nat.le_of_ble_eq_true rfl) rfl ?_
        | refine r_idx tab_ok rfl rfl rfl rfl rfl rfl rfl (by first | exact ⟨by omega, by omega⟩ | (simp; omega)) rfl rfl ?_
        | refine r_nilck rfl rfl rfl rfl rfl rfl rfl ?_)
      | refine awp_cond_f rfl ?_
      | refine r_call hh call35 rfl rfl ⟨Sub.refl _, Sub.refl _, trivial⟩ rfl rfl rfl rfl ?_)
    rw [ntAt_get h2] at *
    refine r_rcall (cloneM_ok _ (hk _ (by rw [← ntAt_get h2]; exact List.getElem_mem h2))) call42 rfl rfl ⟨Sub.refl _, trivial⟩ rfl rfl rfl rfl rfl rfl ?_
    repeat (first
      | refine thenA_normal ?_
      | refine awp_ret ?_
      | refine r_done ?_
      | (refine r_id ?_; first
        | refine r_ev tab_ok rfl rfl rfl rfl (by first | exact trivial | exact ⟨by omega, by omega⟩ | omega | exact ⟨by omega, by omega, by omega, by omega⟩ | exact Nat.le_of_ble_eq_true rfl) rfl ?_)
      | refine retM1 (by first | exact .inl rfl | exact .inr rfl) rfl rfl rfl rfl rfl ?_)
    exact Sub.refl _
theorem el1_ok (gs : List Nt) (k : Nat) (hg : gs.length ≤ 1099511627776) : PCalls Try.prog 44 [.val (.int .i64 k), .dptr [trA gs]] (.val (.bool (!elB gs k))) := by
  refine p_start Try.func44 Try.ntmps44 rfl rfl rfl fun S w => ?_
  repeat (first
    | refine awp_seq ?_
    | refine a_region ?_
    | refine r_done ?_
    | (refine r_id ?_; first
      | refine r_ev tab_ok rfl rfl rfl rfl (by first | exact trivial | exact ⟨by omega, by omega⟩ | omega | exact ⟨by omega, by omega, by omega, by omega⟩ | exact Nat.le_of_ble_eq_true rfl) rfl ?_))
  refine r_call (element_ok gs k hg) call45 rfl rfl ⟨Sub.refl _, Sub.refl _, trivial⟩ rfl rfl rfl rfl ?_
  repeat (first
    | refine thenA_normal ?_
    | refine awp_ret ?_
    | refine r_done ?_
    | (refine r_id ?_; first
      | refine r_ev tab_ok rfl rfl rfl rfl (by first | exact trivial | exact ⟨by omega, by omega⟩ | omega | exact ⟨by omega, by omega, by omega, by omega⟩ | exact Nat.le_of_ble_eq_true rfl) rfl ?_)
    | refine ret1 (by first | exact .inl rfl | exact .inr rfl) rfl rfl rfl ?_)
  exact Sub.refl _
theorem be1_ok (k : Nat) (i : Int) : PCalls Try.prog 47 [.val (.int .i64 k), .dptr [.val (.int .i64 i)]] (.val (.bool (decide (i ≤ (k : Int))))) := by
  refine p_start Try.func47 Try.ntmps47 rfl rfl rfl fun S w => ?_
  repeat (first
    | refine awp_seq ?_
    | refine thenA_normal ?_
    | refine a_region ?_
    | refine awp_ret ?_
    | refine r_done ?_
    | (refine r_id ?_; first
      | refine r_ev tab_ok rfl rfl rfl rfl (by first | exact trivial | exact ⟨by omega, by omega⟩ | omega | exact ⟨by omega, by omega, by omega, by omega⟩ | exact Nat.le_of_ble_eq_true rfl) rfl ?_)
    | refine ret1 (by first | exact .inl rfl | exact .inr rfl) rfl rfl rfl ?_)
  exact Sub.refl _
def elemF (gs : List Nt) (i : Int) : List Nat := (kidF gs i).filter fun k => !!elB gs (k : Nat)
def befF (gs : List Nt) (i : Int) : List Nat := ((elemF gs (parF gs i)).filter fun k => !decide (i ≤ ((k : Nat) : Int))).reverse
theorem kidF_len {gs : List Nt} {i : Int} (hk : ∀ n ∈ gs, n.kids.length ≤ 1099511627776) : (kidF gs i).length ≤ 1099511627776 := by
  rw [kidF]
  split
  · rename_i h
    obtain ⟨h0, h1, h2⟩ := inB_t h
    rw [← ntAt_get h2]
    exact hk _ (List.getElem_mem h2)
  · exact Nat.zero_le _
theorem elemM_ok (gs : List Nt) (i : Int) (hg : gs.length ≤ 1099511627776) (hk : ∀ n ∈ gs, n.kids.length ≤ 1099511627776) : MCalls Try.prog 26 [] [trA gs, .val (.int .i64 i)] [.row 0 3 1 ((elemF gs i).map nD)] (.row 0 0) := by
  refine mcalls_ofn Try.func26 Try.ntmps26 rfl rfl rfl 1 (by decide) fun S w β => ?_
  repeat (first
    | refine awp_seq ?_)
  refine a_region ?_
  repeat (first
    | refine awp_seq ?_
    | refine r_done ?_
    | (refine r_id ?_; first
      | refine r_ev tab_ok rfl rfl rfl rfl (by first | exact trivial | exact ⟨by omega, by omega⟩ | omega | exact ⟨by omega, by omega, by omega, by omega⟩ | exact Nat.le_of_ble_eq_true rfl) rfl ?_
      | refine r_wr tab_ok rfl rfl rfl rfl rfl ?_))
  refine awp_fits (s' := ⟨[], [(0, trA gs), (1, .val (.int .i64 i)), (2, .dptr [trA gs])]⟩) (fits_tr (fits_sinkp (i := 0) (d := 2) (T := 29) (l := [trA gs]) rfl rfl rfl) (fits_drop 0 rfl rfl (by repeat' first | exact trivial | exact Sub.refl _ | exact rfl | apply And.intro))) ?_
  repeat (first
    | refine a_region ?_
    | (refine r_id ?_; first
      | refine r_ev tab_ok rfl rfl rfl rfl (by first | exact trivial | exact ⟨by omega, by omega⟩ | omega | exact ⟨by omega, by omega, by omega, by omega⟩ | exact Nat.le_of_ble_eq_true rfl) rfl ?_))
  refine r_rcall (kidsM_ok gs i hg hk) call24 rfl rfl ⟨Sub.refl _, Sub.refl _, trivial⟩ rfl rfl rfl rfl rfl rfl ?_
  repeat (first
    | (refine r_id ?_; first
      | refine r_mkfn rfl rfl rfl rfl rfl rfl ?_))
  refine r_mcall [0] (delete_ok (kidF gs i) (fun k => !elB gs k) 44 [.dptr [trA gs]] (kidF_len hk) call44 rfl rfl (fun k _ => el1_ok gs k hg)) call43 rfl rfl ⟨rfl, trivial⟩ (by decide) ⟨Sub.refl _, Sub.refl _, trivial⟩ rfl rfl rfl rfl rfl rfl rfl ?_
  repeat (first
    | refine thenA_normal ?_
    | refine r_done ?_
    | (refine r_id ?_; first
      | refine r_ev tab_ok rfl rfl rfl rfl (by first | exact trivial | exact ⟨by omega, by omega⟩ | omega | exact ⟨by omega, by omega, by omega, by omega⟩ | exact Nat.le_of_ble_eq_true rfl) rfl ?_))
  refine awp_fits (s' := ⟨[.row 0 3 1 ((elemF gs i).map nD)], [(4, .row 0 0)]⟩) (fits_conv (by repeat' first | exact trivial | exact rfl | (rw [List.map_append]; first | done | rfl) | exact c_sub rfl (Sub.refl _) rfl | exact c_nil rfl rfl | exact c_thaw rfl rfl rfl | exact c_row rfl rfl rfl | exact c_row rfl rfl (by rw [List.map_append]; first | done | rfl) | exact c_ptr rfl rfl rfl rfl | exact Or.inl ⟨c_sub rfl (Sub.refl _) rfl, c_ptr rfl rfl rfl rfl⟩ | exact c_alt rfl rfl rfl rfl | exact c_ro rfl rfl | exact c_eo rfl rfl | exact c_sub rfl (Sub.altl _ _) rfl | exact c_sub rfl (Sub.nil _) rfl | refine ⟨_, _, rfl, ?_, ?_⟩ | apply And.intro) (by repeat' first | exact trivial | exact rfl | (rw [List.map_append]; first | done | rfl) | exact c_sub rfl (Sub.refl _) rfl | exact c_nil rfl rfl | exact c_thaw rfl rfl rfl | exact c_row rfl rfl rfl | exact c_row rfl rfl (by rw [List.map_append]; first | done | rfl) | exact c_ptr rfl rfl rfl rfl | exact Or.inl ⟨c_sub rfl (Sub.refl _) rfl, c_ptr rfl rfl rfl rfl⟩ | exact c_alt rfl rfl rfl rfl | exact c_ro rfl rfl | exact c_eo rfl rfl | exact c_sub rfl (Sub.altl _ _) rfl | exact c_sub rfl (Sub.nil _) rfl | refine ⟨_, _, rfl, ?_, ?_⟩ | apply And.intro)) ?_
  repeat (first
    | refine awp_ret ?_
    | refine retM1 (by first | exact .inl rfl | exact .inr rfl) rfl rfl rfl rfl rfl ?_)
  exact Sub.refl _
theorem elem_ok (gs : List Nt) (i : Int) (hg : gs.length ≤ 1099511627776) (hk : ∀ n ∈ gs, n.kids.length ≤ 1099511627776) : PCalls Try.prog 26 [trA gs, .val (.int .i64 i)] (.sl 1 ((elemF gs i).map nD)) := by
  refine p_start Try.func26 Try.ntmps26 rfl rfl rfl fun S w => ?_
  repeat (first
    | refine awp_seq ?_)
  refine a_region ?_
  repeat (first
    | refine awp_seq ?_
    | refine r_done ?_
    | (refine r_id ?_; first
      | refine r_ev tab_ok rfl rfl rfl rfl (by first | exact trivial | exact ⟨by omega, by omega⟩ | omega | exact ⟨by omega, by omega, by omega, by omega⟩ | exact Nat.le_of_ble_eq_true rfl) rfl ?_
      | refine r_wr tab_ok rfl rfl rfl rfl rfl ?_))
  refine awp_fits (s' := ⟨[], [(0, trA gs), (1, .val (.int .i64 i)), (2, .dptr [trA gs])]⟩) (fits_tr (fits_sinkp (i := 0) (d := 2) (T := 29) (l := [trA gs]) rfl rfl rfl) (fits_drop 0 rfl rfl (by repeat' first | exact trivial | exact Sub.refl _ | exact rfl | apply And.intro))) ?_
  repeat (first
    | refine a_region ?_
    | (refine r_id ?_; first
      | refine r_ev tab_ok rfl rfl rfl rfl (by first | exact trivial | exact ⟨by omega, by omega⟩ | omega | exact ⟨by omega, by omega, by omega, by omega⟩ | exact Nat.le_of_ble_eq_true rfl) rfl ?_))
  refine r_rcall (kidsM_ok gs i hg hk) call24 rfl rfl ⟨Sub.refl _, Sub.refl _, trivial⟩ rfl rfl rfl rfl rfl rfl ?_
  repeat (first
    | (refine r_id ?_; first
      | refine r_mkfn rfl rfl rfl rfl rfl rfl ?_))
  refine r_mcall [0] (delete_ok (kidF gs i) (fun k => !elB gs k) 44 [.dptr [trA gs]] (kidF_len hk) call44 rfl rfl (fun k _ => el1_ok gs k hg)) call43 rfl rfl ⟨rfl, trivial⟩ (by decide) ⟨Sub.refl _, Sub.refl _, trivial⟩ rfl rfl rfl rfl rfl rfl rfl ?_
  repeat (first
    | refine thenA_normal ?_
    | refine awp_ret ?_
    | refine r_done ?_
    | (refine r_id ?_; first
      | refine r_ev tab_ok rfl rfl rfl rfl (by first | exact trivial | exact ⟨by omega, by omega⟩ | omega | exact ⟨by omega, by omega, by omega, by omega⟩ | exact Nat.le_of_ble_eq_true rfl) rfl ?_)
    | refine ret1_row (by first | exact .inl rfl | exact .inr rfl) rfl rfl rfl ?_)
  exact Sub.refl _
theorem elemF_len {gs : List Nt} {i : Int} (hk : ∀ n ∈ gs, n.kids.length ≤ 1099511627776) : (elemF gs i).length ≤ 1099511627776 := Nat.le_trans (List.length_filter_le _ _) (kidF_len hk)
theorem before_ok (gs : List Nt) (i : Int) (hg : gs.length ≤ 1099511627776) (hk : ∀ n ∈ gs, n.kids.length ≤ 1099511627776) : PCalls Try.prog 29 [trA gs, .val (.int .i64 i)] (.sl 1 ((befF gs i).map nD)) := by
  refine p_start Try.func29 Try.ntmps29 rfl rfl rfl fun S w => ?_
  repeat (first
    | refine awp_seq ?_)
  refine a_region ?_
  repeat (first
    | refine awp_seq ?_
    | refine r_done ?_
    | (refine r_id ?_; first
      | refine r_ev tab_ok rfl rfl rfl rfl (by first | exact trivial | exact ⟨by omega, by omega⟩ | omega | exact ⟨by omega, by omega, by omega, by omega⟩ | exact Nat.le_of_ble_eq_true rfl) rfl ?_
      | refine r_wr tab_ok rfl rfl rfl rfl rfl ?_))
  refine awp_fits (s' := ⟨[], [(0, trA gs), (3, .dptr [.val (.int .i64 i)])]⟩) (fits_tr (fits_sinkp (i := 0) (d := 3) (T := 3) (l := [.val (.int .i64 i)]) rfl rfl rfl) (fits_drop 0 rfl rfl (by repeat' first | exact trivial | exact Sub.refl _ | exact rfl | apply And.intro))) ?_
  repeat (first
    | refine a_region ?_
    | (refine r_id ?_; first
      | refine r_ev tab_ok rfl rfl rfl rfl (by first | exact trivial | exact ⟨by omega, by omega⟩ | omega | exact ⟨by omega, by omega, by omega, by omega⟩ | exact Nat.le_of_ble_eq_true rfl) rfl ?_))
  refine r_call (parent_ok gs i hg) call46 rfl rfl ⟨Sub.refl _, Sub.refl _, trivial⟩ rfl rfl rfl rfl ?_
  refine r_rcall (elemM_ok gs _ hg hk) call26 rfl rfl ⟨Sub.refl _, Sub.refl _, trivial⟩ rfl rfl rfl rfl rfl rfl ?_
  repeat (first
    | (refine r_id ?_; first
      | refine r_mkfn rfl rfl rfl rfl rfl rfl ?_))
  refine r_mcall [0] (delete_ok (elemF gs (parF gs i)) (fun k => decide (i ≤ ((k : Nat) : Int))) 47 [.dptr [.val (.int .i64 i)]] (elemF_len hk) call47 rfl rfl (fun k _ => be1_ok k i)) call43 rfl rfl ⟨rfl, trivial⟩ (by decide) ⟨Sub.refl _, Sub.refl _, trivial⟩ rfl rfl rfl rfl rfl rfl rfl ?_
  repeat (first
    | refine awp_seq ?_
    | refine a_region ?_
    | refine r_done ?_
    | (refine r_id ?_; first
      | refine r_ev tab_ok rfl rfl rfl rfl (by first | exact trivial | exact ⟨by omega, by omega⟩ | omega | exact ⟨by omega, by omega, by omega, by omega⟩ | exact Nat.le_of_ble_eq_true rfl) rfl ?_))
  refine r_mcall [0] (reverse_ok ((elemF gs (parF gs i)).filter fun k => !decide (i ≤ ((k : Nat) : Int))) (Nat.le_trans (List.length_filter_le _ _) (elemF_len hk))) call48 rfl rfl ⟨rfl, trivial⟩ (by decide) ⟨Sub.refl _, trivial⟩ rfl rfl rfl rfl rfl rfl rfl ?_
  repeat (first
    | refine awp_seq ?_
    | refine thenA_normal ?_
    | refine a_region ?_
    | refine awp_ret ?_
    | refine r_done ?_
    | (refine r_id ?_; first
      | refine r_ev tab_ok rfl rfl rfl rfl (by first | exact trivial | exact ⟨by omega, by omega⟩ | omega | exact ⟨by omega, by omega, by omega, by omega⟩ | exact Nat.le_of_ble_eq_true rfl) rfl ?_)
    | refine ret1_row (by first | exact .inl rfl | exact .inr rfl) rfl rfl rfl ?_)
  exact Sub.refl _
end Go.Proofs.Ytklodolkgdmhoaa

/- dom: Order. -/
namespace Go.Proofs.Ytklodolkgdmhoaa
open Go Go.RowKit

theorem backward_ok (zs : List Int) : MCalls Try.prog 34 [] [.sl 1 (zs.map iD)] [.box 22 [.sl 1 (zs.map iD)]] (.cl 52 [.ptr 0 0]) := by
  refine mcalls_ofn Try.func34 Try.ntmps34 rfl rfl rfl 1 (by decide) fun S w β => ?_
  repeat (first
    | refine awp_seq ?_
    | refine thenA_normal ?_
    | refine a_region ?_
    | refine awp_ret ?_
    | refine r_done ?_
    | (refine r_id ?_; first
      | refine r_ev tab_ok rfl rfl rfl rfl (by first | exact trivial | exact ⟨by omega, by omega⟩ | omega | exact ⟨by omega, by omega, by omega, by omega⟩ | exact Nat.le_of_ble_eq_true rfl) rfl ?_
      | refine r_wr tab_ok rfl rfl rfl rfl rfl ?_
      | refine r_mkfn rfl rfl rfl rfl rfl rfl ?_)
    | refine retM1 (by first | exact .inl rfl | exact .inr rfl) rfl rfl rfl rfl rfl ?_)
  exact Sub.refl _
theorem okPar_of {gs : List Nt} {l : List Rw} (hgd : Good l gs) (hl : gs.length = l.length) : okPar l := fun i h0 h => ⟨(hgd.par i h0 (by omega)).1, (hgd.par i h0 (by omega)).2.1⟩
theorem nodup_le : ∀ {n : Nat} {l : List Nat}, l.Nodup → (∀ x ∈ l, x < n) → l.length ≤ n
  | 0, [], _, _ => Nat.le_refl _
  | 0, x :: _, _, hb => absurd (hb x List.mem_cons_self) (Nat.not_lt_zero _)
  | n + 1, l, h, hb => by
    by_cases hm : n ∈ l
    · have h1 := nodup_le (n := n) (h.erase n) fun x hx => by
        have h2 := (h.mem_erase_iff).1 hx
        have := hb x h2.2
        omega
      rw [List.length_erase_of_mem hm] at h1
      omega
    · have := nodup_le (n := n) h fun x hx => by
        have := hb x hx
        have : x ≠ n := fun e => hm (e ▸ hx)
        omega
      omega
theorem walk0_len {l : List Rw} (hp : okPar l) (h0 : 0 < l.length) : (walkP l 0).length ≤ l.length :=
  nodup_le (walk_nodup hp _ 0 (Nat.le_refl _) h0) fun x hx => (mem_walk0 hp h0 x).1 hx
theorem flat_len {l : List Rw} (hp : okPar l) : ∀ {left : List Nat}, (∀ k ∈ left, k < l.length) → left.length ≤ (left.flatMap (walkP l)).length
  | [], _ => Nat.le_refl _
  | k :: r, h => by
    rw [List.flatMap_cons, List.length_append, List.length_cons, walkP_eq hp (h k List.mem_cons_self), List.length_cons]
    have := flat_len hp (left := r) fun x hx => h x (List.mem_cons_of_mem _ hx)
    omega
theorem revs_kids {α : Type} (K : List α) : (revs K.length).map (fun x => K[x.1]) = K.reverse := by
  rw [revs, List.map_reverse]
  congr 1
  apply List.ext_getElem
  · simp
  · intro i h1 h2
    simp
theorem sealed_even : ∀ n : Nat, sealed (2 * n) = false
  | 0 => rfl
  | n + 1 => sealed_even n
structure OS (l : List Rw) where
  left : List Nat
  out : List Nat
  hlt : ∀ k ∈ left, k < l.length
  eq : out ++ left.reverse.flatMap (walkP l) = walkP l 0
def ordM (left out : List Nat) (v : Nat) : List AB := [.row v 3 1 (left.map nD), .box 22 [.row 0 v], .row 0 3 1 (out.map nD)]
set_option maxHeartbeats 4000000 in
theorem order_ok {gs : List Nt} {l : List Rw} (hg : gs.length ≤ 1099511627776) (hgd : Good l gs) (hl : gs.length = l.length) (h0 : 0 < l.length) : PCalls Try.prog 12 [trA gs] (.sl 1 ((walkP l 0).map nD)) := by
  have hp := okPar_of hgd hl
  have hw0 := walk0_len hp h0
  refine p_start Try.func12 Try.ntmps12 rfl rfl rfl fun S w => ?_
  repeat (first
    | refine awp_seq ?_
    | refine thenA_normal ?_
    | refine a_region ?_
    | refine r_done ?_
    | (refine r_id ?_; first
      | refine r_ev tab_ok rfl rfl rfl rfl (by first | exact trivial | exact ⟨by omega, by omega⟩ | omega | exact ⟨by omega, by omega, by omega, by omega⟩ | exact Nat.le_of_ble_eq_true rfl) rfl ?_)
    | refine r_call (len_ok _ hg) call18 rfl rfl ⟨Sub.refl _, trivial⟩ rfl rfl rfl rfl ?_)
  refine awp_cond_p rfl (fun h => absurd h (by omega)) (fun _ => ?_)
  repeat (first
    | refine awp_seq ?_
    | refine a_region ?_
    | refine awp_skip ?_)
  refine r_built_row tab_ok rfl rfl rfl rfl rfl rfl rfl rfl rfl ?_
  repeat (first
    | refine awp_seq ?_
    | refine awp_block ?_
    | refine r_done ?_
    | (refine r_id ?_; first
      | refine r_wr tab_ok rfl rfl rfl rfl rfl ?_
      | refine r_st tab_ok rfl rfl rfl rfl ?_))
  refine a_loop (σ := OS l) (fun x => ordM x.left x.out 0) (fun x => [(0, trA gs), (2, .row 2 0), (3, .ptr 1 0)]) (fun x => (x.left.reverse.flatMap (walkP l)).length) ⟨[0], [], fun k hk => by rw [List.mem_singleton.1 hk]; exact h0, by simp⟩ (fits_conv (by repeat' first | exact trivial | exact rfl | (rw [List.map_append]; first | done | rfl) | exact c_sub rfl (Sub.refl _) rfl | exact c_nil rfl rfl | exact c_thaw rfl rfl rfl | exact c_row rfl rfl rfl | exact c_row rfl rfl (by rw [List.map_append]; first | done | rfl) | exact c_ptr rfl rfl rfl rfl | exact Or.inl ⟨c_sub rfl (Sub.refl _) rfl, c_ptr rfl rfl rfl rfl⟩ | exact c_alt rfl rfl rfl rfl | exact c_ro rfl rfl | exact c_eo rfl rfl | exact c_sub rfl (Sub.altl _ _) rfl | exact c_sub rfl (Sub.nil _) rfl | refine ⟨_, _, rfl, ?_, ?_⟩ | apply And.intro) (by repeat' first | exact trivial | exact rfl | (rw [List.map_append]; first | done | rfl) | exact c_sub rfl (Sub.refl _) rfl | exact c_nil rfl rfl | exact c_thaw rfl rfl rfl | exact c_row rfl rfl rfl | exact c_row rfl rfl (by rw [List.map_append]; first | done | rfl) | exact c_ptr rfl rfl rfl rfl | exact Or.inl ⟨c_sub rfl (Sub.refl _) rfl, c_ptr rfl rfl rfl rfl⟩ | exact c_alt rfl rfl rfl rfl | exact c_ro rfl rfl | exact c_eo rfl rfl | exact c_sub rfl (Sub.altl _ _) rfl | exact c_sub rfl (Sub.nil _) rfl | refine ⟨_, _, rfl, ?_, ?_⟩ | apply And.intro)) ?_
  rintro ⟨left, out, hlt, heq⟩
  dsimp only
  have hlen : out.length + (left.reverse.flatMap (walkP l)).length ≤ l.length := by
    have := congrArg List.length heq
    rw [List.length_append] at this
    omega
  have hll : left.length ≤ (left.reverse.flatMap (walkP l)).length := by
    have := flat_len hp (left := left.reverse) fun k hk => hlt k (List.mem_reverse.1 hk)
    rwa [List.length_reverse] at this
  have hlm : (left.map nD).length = left.length := List.length_map _
  have hom : (out.map nD).length = out.length := List.length_map _
  rw [ordM]
  repeat (first
    | refine awp_seq ?_
    | refine thenA_normal ?_
    | refine a_region ?_
    | refine r_done ?_
    | (refine r_id ?_; first
      | refine r_ev tab_ok rfl rfl rfl rfl (by first | exact trivial | exact ⟨by omega, by omega⟩ | omega | exact ⟨by omega, by omega, by omega, by omega⟩ | exact Nat.le_of_ble_eq_true rfl) rfl ?_
      | refine r_ld tab_ok rfl rfl rfl rfl rfl ?_))
  refine awp_cond_p rfl (fun hpos => ?_) (fun hno => ?_)
  · rcases List.eq_nil_or_concat left with rfl | ⟨ini, i, rfl⟩
    · exact absurd hpos (by simp)
    rw [List.concat_eq_append] at *
    have hi : i < l.length := hlt i (by simp)
    have hgi : ∀ h, (ini ++ [i])[((((ini ++ [i]).map nD).length : Int) - 1).toNat]'h = i := fun h => by
      have e : ((((ini ++ [i]).map nD).length : Int) - 1).toNat = ini.length := by rw [hlm, List.length_append, List.length_singleton]; omega
      simp only [e]
      simp
    have hne : (ini ++ [i]).map nD ≠ [] := by simp
    have hcut : ((ini ++ [i]).map nD).take ini.length = ini.map nD := by
      rw [List.map_append, List.take_append_of_le_length (by rw [List.length_map]; exact Nat.le_refl _), List.take_of_length_le (by rw [List.length_map]; exact Nat.le_refl _)]
    have hil : ini.length + 1 ≤ l.length := by rw [List.length_append, List.length_singleton] at hll; omega
    have hol : out.length + 1 ≤ l.length := by rw [List.length_append, List.length_singleton] at hll; omega
    have hik : (ini.map nD).length = ini.length := List.length_map _
    repeat (first
      | refine awp_seq ?_
      | refine thenA_normal ?_
      | refine awp_block ?_
      | refine a_region ?_
      | refine awp_skip ?_
      | refine r_done ?_
      | (refine r_id ?_; first
        | refine r_ev tab_ok rfl rfl rfl rfl (by first | exact trivial | exact ⟨by omega, by omega⟩ | omega | exact ⟨by omega, by omega, by omega, by omega⟩ | exact Nat.le_of_ble_eq_true rfl) rfl ?_
        | refine r_ld tab_ok rfl rfl rfl rfl rfl ?_
        | refine r_idxr tab_ok rfl rfl rfl rfl rfl rfl rfl rfl (by first | exact ⟨by omega, by omega⟩ | (simp; omega)) rfl ?_
        | refine r_lde tab_ok rfl rfl rfl rfl rfl (by omega) rfl rfl rfl rfl ?_))
    rw [hgi]
    refine r_by2 (astep_cut_row tab_ok rfl rfl rfl rfl hne rfl rfl (m := ini.length) (by rw [hlm, List.length_append, List.length_singleton]; omega) (by rw [hlm, List.length_append]; omega)) rfl rfl rfl rfl rfl ?_
    rw [hcut]
    repeat (first
      | refine awp_seq ?_
      | refine a_region ?_
      | refine r_done ?_
      | (refine r_id ?_; first
        | refine r_ev tab_ok rfl rfl rfl rfl (by first | exact trivial | exact ⟨by omega, by omega⟩ | omega | exact ⟨by omega, by omega, by omega, by omega⟩ | exact Nat.le_of_ble_eq_true rfl) rfl ?_
        | refine r_idx tab_ok rfl rfl rfl rfl rfl rfl rfl (by first | exact ⟨by omega, by omega⟩ | (simp; omega)) rfl rfl ?_
        | refine r_st tab_ok rfl rfl rfl rfl ?_
        | refine r_built tab_ok rfl rfl rfl rfl rfl rfl rfl rfl rfl ?_
        | refine r_nilck rfl rfl rfl rfl rfl rfl rfl ?_
        | refine r_append tab_ok rfl rfl rfl rfl rfl rfl rfl rfl rfl (by first | omega | (simp; omega)) rfl ?_))
    simp only [Int.toNat_natCast]
    have hkk : (gs[i]'(by omega)).kids = kidsP l i := by rw [ntAt_get, hgd.kids i (by omega), hl]; rfl
    rw [hkk]
    obtain ⟨K, hK⟩ : ∃ K, K = kidsP l i := ⟨_, rfl⟩
    rw [← hK]
    have hKl : ini.length + K.length ≤ l.length := by
      have h1 := flat_len hp (left := K) fun k hk => by rw [hK] at hk; exact (mem_kidsP.1 hk).1
      have h2 := flat_len hp (left := ini.reverse) fun k hk => hlt k (by simp at hk ⊢; exact .inl hk)
      rw [List.reverse_append, List.reverse_singleton, List.singleton_append, List.flatMap_cons, List.length_append, walkP_eq hp hi, ← hK, List.length_cons] at hlen
      rw [List.length_reverse] at h2
      omega
    have hz : (K.map fun k => ((k : Nat) : Int)).map iD = K.map nD := by rw [List.map_map]; rfl
    have hzl : (K.map fun k => ((k : Nat) : Int)).length = K.length := List.length_map _
    rw [← hz]
    refine r_rcall (backward_ok (K.map fun k => ((k : Nat) : Int))) call34 rfl rfl ⟨Sub.refl _, trivial⟩ rfl rfl rfl rfl rfl rfl ?_
    repeat (first
      | refine thenA_normal ?_
      | refine awp_block ?_
      | refine r_done ?_)
    refine awp_fits (s' := ⟨[.row 0 3 1 (ini.map nD), .box 22 [.row 0 0], .row 0 3 1 (out.map nD ++ [nD i])], [(0, trA gs), (2, .row 2 0), (3, .ptr 1 0), (37, .cl 52 [.dptr [.sl 1 ((K.map fun k => ((k : Nat) : Int)).map iD)]])]⟩)
      (fits_tr (fits_sink (i := 3) (d := 37) rfl rfl rfl) (fits_tr (s' := ⟨[.row 2 3 1 (ini.map nD), .box 22 [.row 0 2], .row 2 3 1 (out.map nD ++ [nD i])], [(0, trA gs), (2, .row 2 2), (3, .ptr 1 0), (37, .cl 52 [.dptr [.sl 1 ((K.map fun k => ((k : Nat) : Int)).map iD)]])]⟩) (fits_drop 3 rfl rfl (by repeat' first | exact trivial | exact Sub.refl _ | exact rfl | apply And.intro)) (fits_conv (by repeat' first | exact trivial | exact rfl | (rw [List.map_append]; first | done | rfl) | exact c_sub rfl (Sub.refl _) rfl | exact c_nil rfl rfl | exact c_thaw rfl rfl rfl | exact c_row rfl rfl rfl | exact c_row rfl rfl (by rw [List.map_append]; first | done | rfl) | exact c_ptr rfl rfl rfl rfl | exact Or.inl ⟨c_sub rfl (Sub.refl _) rfl, c_ptr rfl rfl rfl rfl⟩ | exact c_alt rfl rfl rfl rfl | exact c_ro rfl rfl | exact c_eo rfl rfl | exact c_sub rfl (Sub.altl _ _) rfl | exact c_sub rfl (Sub.nil _) rfl | refine ⟨_, _, rfl, ?_, ?_⟩ | apply And.intro) (by repeat' first | exact trivial | exact rfl | (rw [List.map_append]; first | done | rfl) | exact c_sub rfl (Sub.refl _) rfl | exact c_nil rfl rfl | exact c_thaw rfl rfl rfl | exact c_row rfl rfl rfl | exact c_row rfl rfl (by rw [List.map_append]; first | done | rfl) | exact c_ptr rfl rfl rfl rfl | exact Or.inl ⟨c_sub rfl (Sub.refl _) rfl, c_ptr rfl rfl rfl rfl⟩ | exact c_alt rfl rfl rfl rfl | exact c_ro rfl rfl | exact c_eo rfl rfl | exact c_sub rfl (Sub.altl _ _) rfl | exact c_sub rfl (Sub.nil _) rfl | refine ⟨_, _, rfl, ?_, ?_⟩ | apply And.intro)))) ?_
    rw [← hzl] at hKl
    refine a_back1 (back_ints (K.map fun k => ((k : Nat) : Int))) call52 (g := .tmp 37) (p := 38) (q := 39) rfl rfl rfl rfl
      (fun pre => [.row (2 * pre.length) 3 1 (ini.map nD ++ pre.map fun x => iD (K.map fun k => ((k : Nat) : Int))[x.1]), .box 22 [.row 0 (2 * pre.length)], .row 0 3 1 (out.map nD ++ [nD i])])
      (fun pre => [.row (2 * pre.length) 3 1 (ini.map nD ++ pre.map fun x => iD (K.map fun k => ((k : Nat) : Int))[x.1]), .box 22 [.row 0 (2 * pre.length)], .row 0 3 1 (out.map nD ++ [nD i])])
      (fun _ => True) (fun _ => False) (by rw [List.map_nil, List.append_nil]; rfl) (fun _ => by simp [NoIter, AB.isIter]) (fun _ => by simp [NoIter, AB.isIter]) trivial (fun ll S w1 β1 pre x hg hgl => ?_) (fun _ => ?_) (fun _ _ h => h.elim)
    · repeat (first
        | refine awp_block ?_
        | refine a_region ?_
        | (refine r_id ?_; first
          | refine r_ev tab_ok rfl rfl rfl rfl (by first | exact trivial | exact ⟨by omega, by omega⟩ | omega | exact ⟨by omega, by omega, by omega, by omega⟩ | exact Nat.le_of_ble_eq_true rfl) rfl ?_
          | refine r_ld tab_ok rfl rfl rfl rfl rfl ?_))
      refine r_built tab_ok rfl rfl rfl rfl rfl rfl rfl rfl rfl ?_
      refine r_append tab_ok rfl rfl rfl rfl rfl rfl rfl rfl rfl (by rw [List.length_append, List.length_map, List.length_map]; simp; omega) rfl ?_
      refine r_st_row tab_ok rfl rfl rfl rfl rfl rfl rfl rfl rfl rfl rfl rfl ?_
      repeat (first
        | refine blockA_normal ?_
        | refine r_done ?_)
      refine .inl ⟨rfl, trivial, [], ?_⟩
      rw [List.length_append, List.length_singleton, List.map_append, ← List.append_assoc]
      exact fits_convM (by repeat' first | exact trivial | exact rfl | (rw [List.map_append]; first | done | rfl) | exact c_sub rfl (Sub.refl _) rfl | exact c_nil rfl rfl | exact c_thaw rfl rfl rfl | exact c_row rfl rfl rfl | exact c_row rfl rfl (by rw [List.map_append]; first | done | rfl) | exact c_ptr rfl rfl rfl rfl | exact Or.inl ⟨c_sub rfl (Sub.refl _) rfl, c_ptr rfl rfl rfl rfl⟩ | exact c_alt rfl rfl rfl rfl | exact c_ro rfl rfl | exact c_eo rfl rfl | exact c_sub rfl (Sub.altl _ _) rfl | exact c_sub rfl (Sub.nil _) rfl | refine ⟨_, _, rfl, ?_, ?_⟩ | apply And.intro) (by repeat' first | exact trivial | exact rfl | (rw [List.map_append]; first | done | rfl) | exact c_sub rfl (Sub.refl _) rfl | exact c_nil rfl rfl | exact c_thaw rfl rfl rfl | exact c_row rfl rfl rfl | exact c_row rfl rfl (by rw [List.map_append]; first | done | rfl) | exact c_ptr rfl rfl rfl rfl | exact Or.inl ⟨c_sub rfl (Sub.refl _) rfl, c_ptr rfl rfl rfl rfl⟩ | exact c_alt rfl rfl rfl rfl | exact c_ro rfl rfl | exact c_eo rfl rfl | exact c_sub rfl (Sub.altl _ _) rfl | exact c_sub rfl (Sub.nil _) rfl | refine ⟨_, _, rfl, ?_, ?_⟩ | apply And.intro) ⟨.inl rfl, trivial, .inl rfl, trivial⟩
    · have hrv : ((revs (K.map fun k => ((k : Nat) : Int)).length).map fun x => iD (K.map fun k => ((k : Nat) : Int))[x.1]) = K.reverse.map nD := by
        have := congrArg (List.map iD) (revs_kids (K.map fun k => ((k : Nat) : Int)))
        rw [List.map_map, ← List.map_reverse, List.map_map] at this
        exact this
      rw [hrv, ← List.map_append, show out.map nD ++ [nD i] = (out ++ [i]).map nD by rw [List.map_append]; rfl]
      repeat (first
        | refine thenA_normal ?_
        | refine blockA_normal ?_)
      have hrev : (ini ++ K.reverse).reverse.flatMap (walkP l) = K.flatMap (walkP l) ++ ini.reverse.flatMap (walkP l) := by
        rw [List.reverse_append, List.reverse_reverse, List.flatMap_append]
      have hwi : (ini ++ [i]).reverse.flatMap (walkP l) = i :: (K.flatMap (walkP l) ++ ini.reverse.flatMap (walkP l)) := by
        rw [List.reverse_append, List.reverse_singleton, List.singleton_append, List.flatMap_cons, walkP_eq hp hi, ← hK, List.cons_append]
      refine ⟨⟨ini ++ K.reverse, out ++ [i], fun k hk => ?_, by rw [hrev, ← heq, hwi]; simp⟩, ?_, ?_⟩
      · rcases List.mem_append.1 hk with h1 | h1
        · exact hlt k (List.mem_append_left _ h1)
        · rw [List.mem_reverse, hK] at h1
          exact (mem_kidsP.1 h1).1
      · dsimp only
        rw [hrev, hwi, List.length_cons]
        omega
      · dsimp only
        have hs : sealed 0 = sealed (2 * (revs (K.map fun k => ((k : Nat) : Int)).length).length) := (sealed_even _).symm
        exact fits_conv (by repeat' first | exact trivial | exact hs | exact rfl | exact c_sub rfl (Sub.refl _) rfl | exact c_row rfl rfl rfl | refine ⟨_, _, rfl, ?_, ?_⟩ | apply And.intro) (by repeat' first | exact trivial | exact rfl | (rw [List.map_append]; first | done | rfl) | exact c_sub rfl (Sub.refl _) rfl | exact c_nil rfl rfl | exact c_thaw rfl rfl rfl | exact c_row rfl rfl rfl | exact c_row rfl rfl (by rw [List.map_append]; first | done | rfl) | exact c_ptr rfl rfl rfl rfl | exact Or.inl ⟨c_sub rfl (Sub.refl _) rfl, c_ptr rfl rfl rfl rfl⟩ | exact c_alt rfl rfl rfl rfl | exact c_ro rfl rfl | exact c_eo rfl rfl | exact c_sub rfl (Sub.altl _ _) rfl | exact c_sub rfl (Sub.nil _) rfl | refine ⟨_, _, rfl, ?_, ?_⟩ | apply And.intro)
  · have hln : left = [] := by
      cases left with
      | nil => rfl
      | cons x r => exact absurd (by simp : (0 : Int) < (((x :: r).map nD).length : Int)) hno
    subst hln
    rw [List.reverse_nil, List.flatMap_nil, List.append_nil] at heq
    rw [← heq]
    repeat (first
      | refine awp_seq ?_
      | refine thenA_normal ?_
      | refine a_region ?_
      | refine awp_ret ?_
      | refine awp_exit ?_
      | refine r_done ?_
      | (refine r_id ?_; first
        | refine r_ev tab_ok rfl rfl rfl rfl (by first | exact trivial | exact ⟨by omega, by omega⟩ | omega | exact ⟨by omega, by omega, by omega, by omega⟩ | exact Nat.le_of_ble_eq_true rfl) rfl ?_)
      | refine ret1_row (by first | exact .inl rfl | exact .inr rfl) rfl rfl rfl ?_)
    exact Sub.refl _
end Go.Proofs.Ytklodolkgdmhoaa
