import Derived.Test.YtfmafehogfikmaaGreatDoorU5
import Derived.Test.YtfmafehogfikmaaGreatDoorF4
import Derived.Test.YtfmafehogfikmaaGreatDoorL0
import Derived.Test.YtfmafehogfikmaaGreatDoorWd
import Derived.Test.YtfmafehogfikmaaGreatDoorJa
/- nest.Copy as one handed back; slices.IndexFunc, DeleteFunc over nodes; nest.Tight. -/
namespace Go.Proofs.YtfmafehogfikmaaGreatDoor
open Go Go.RowKit
set_option maxRecDepth 20000

set_option maxHeartbeats 1000000 in
theorem copyM_ok (l : List Nd) (hn : nszs l < 1099511627776) : MCalls Tryz.prog 60 [] [.sl 7 (l.map nF)] [.row 0 50 7 (l.map nF)] (.row 0 0) := by
  refine mcalls_ofn Tryz.func60 Tryz.ntmps60 rfl rfl rfl 1 (by decide) fun S w β => ?_
  have hll := nszs_len l
  have hlm : (l.map nF).length = l.length := List.length_map _
  repeat (first | refine awp_seq ?_ | refine a_region ?_ | refine r_done ?_ | (refine r_id ?_; first | refine r_ev tab_ok rfl rfl rfl rfl byE rfl ?_))
  refine r_rcall (cloneN_ok l (by omega)) call93 rfl rfl ⟨Sub.refl _, trivial⟩ rfl rfl rfl rfl rfl rfl ?_
  repeat (first | refine awp_seq ?_ | refine thenA_normal ?_ | refine awp_block ?_ | refine a_region ?_ | refine r_done ?_ | (refine r_id ?_; first | refine r_ev tab_ok rfl rfl rfl rfl byE rfl ?_ | refine r_ld tab_ok rfl rfl rfl rfl rfl ?_))
  refine a_loop (σ := {i : Nat // i ≤ l.length}) (fun x => [.row 0 50 7 (l.map nF)]) (fun x => [(3, .row 0 0), (7, .row 0 0), (8, .val (.int .i64 l.length)), (9, .val (.int .i64 x.1))]) (fun x => l.length - x.1) ⟨0, Nat.zero_le _⟩ (fits_conv byV ⟨c_row rfl rfl rfl, c_row rfl rfl rfl, c_sub rfl (Sub.of_eq (by rw [← hlm]; rfl)) rfl, c_sub rfl (Sub.refl _) rfl, trivial⟩) ?_
  rintro ⟨i, hi⟩
  dsimp only
  repeat (first | refine awp_seq ?_ | refine a_region ?_ | refine r_done ?_ | (refine r_id ?_; first | refine r_ev tab_ok rfl rfl rfl rfl byE rfl ?_))
  refine awp_cond_p rfl (fun hlt => ?_) (fun hge => ?_)
  · have hlt' : i < l.length := by omega
    have hi' : ((i : Nat) : Int).toNat < l.length := by simp only [Int.toNat_natCast]; exact hlt'
    have hk := nszs_at hlt'
    have ih' : PCalls Tryz.prog 60 [.sl 7 ((l[((i : Nat) : Int).toNat]'hi').kids.map nD)] (.sl 7 ((l[((i : Nat) : Int).toNat]'hi').kids.map nD)) := by
      rw [nD_fun]
      refine copy_ok 1099511627776 _ ?_ (by omega)
      simp only [Int.toNat_natCast]
      omega
    repeat (first | refine awp_seq ?_ | refine thenA_normal ?_ | refine awp_block ?_ | refine a_region ?_ | refine awp_skip ?_ | refine r_done ?_ | (refine r_id ?_; first | refine r_ev tab_ok rfl rfl rfl rfl byE rfl ?_ | refine r_idxr tab_ok rfl rfl rfl rfl rfl rfl rfl rfl (by first | exact ⟨by omega, by omega⟩ | (simp; omega)) rfl ?_ | refine r_fielde tab_ok rfl rfl rfl rfl rfl rfl rfl rfl ?_ | refine r_lde tab_ok rfl rfl rfl rfl rfl (by omega) rfl rfl rfl rfl ?_))
    refine r_call ih' call60 rfl rfl ⟨Sub.refl _, trivial⟩ rfl rfl rfl rfl ?_
    repeat (first | (refine r_id ?_; first | refine r_idxr tab_ok rfl rfl rfl rfl rfl rfl rfl rfl (by first | exact ⟨by omega, by omega⟩ | (simp; omega)) rfl ?_ | refine r_fielde tab_ok rfl rfl rfl rfl rfl rfl rfl rfl ?_))
    refine r_ste tab_ok (l[((i : Nat) : Int).toNat]'hi') rfl rfl rfl rfl rfl hi' rfl rfl rfl rfl rfl rfl ?_
    rw [List.set_getElem_self]
    repeat (first | refine thenA_normal ?_ | refine a_region ?_ | refine r_done ?_ | (refine r_id ?_; first | refine r_ev tab_ok rfl rfl rfl rfl byE rfl ?_))
    exact ⟨⟨i + 1, hlt'⟩, by dsimp only; omega, fits_conv byV byV⟩
  · repeat (first | refine awp_seq ?_ | refine thenA_normal ?_ | refine a_region ?_ | refine awp_exit ?_ | refine r_done ?_ | (refine r_id ?_; first | refine r_ev tab_ok rfl rfl rfl rfl byE rfl ?_))
    refine awp_fits (s' := ⟨[.row 0 50 7 (l.map nF)], [(2, .row 0 0)]⟩) (fits_conv byV ⟨c_row rfl rfl rfl, trivial⟩) ?_
    repeat (first | refine awp_ret ?_ | refine retM1 byO rfl rfl rfl rfl rfl ?_)
    exact Sub.refl _

/-- The node that says nothing. -/
def nZ : D := .ag [.val (.int .i64 0), .val (.string ⟨#[]⟩), .val (.int .i64 0), .val (.bool false), .val (.bool false), .val (.bool false), .sl 7 []]
theorem nZ_den (w : World) (imm : Nat → Prop) : DenC w imm nZ [.int .i64 0, .string ⟨#[]⟩, .int .i64 0, .bool false, .bool false, .bool false, .slice none 0 0] :=
  ⟨[_], _, rfl, ⟨rfl, rfl⟩, [_], _, rfl, ⟨rfl, rfl⟩, [_], _, rfl, ⟨rfl, rfl⟩, [_], _, rfl, ⟨rfl, rfl⟩, [_], _, rfl, ⟨rfl, rfl⟩, [_], _, rfl, ⟨rfl, rfl⟩, [_], [], rfl, ⟨none, 0, 0, rfl, rfl, Nat.le_refl _, Nat.zero_le _, (fun _ h => nomatch h), fun h => absurd h (Nat.lt_irrefl 0)⟩, rfl⟩
theorem nZ_one : ∀ u ∈ [Value.int .i64 0, .string ⟨#[]⟩, .int .i64 0, .bool false, .bool false, .bool false, .slice none 0 0], u.oneCell' = true := by
  intro u hu
  simp only [List.mem_cons, List.not_mem_nil, or_false] at hu
  rcases hu with rfl | rfl | rfl | rfl | rfl | rfl | rfl <;> rfl
theorem findN_ok (l : List Nd) (p : Nd → Bool) (f : FuncId) (caps : List AV) (hl : l.length ≤ 4611686018427387904) (hcall : Callable Tryz.prog f) (hcf : AV.frees caps = true) (hp : ∀ s ∈ l, PCalls Tryz.prog f (nA s :: caps) (.val (.bool (p s)))) :
    PCalls Tryz.prog 101 [.sl 7 (l.map nF), .cl f caps] (.val (.int .i64 (findR p l))) := by
  refine p_start Tryz.func101 Tryz.ntmps101 rfl rfl rfl fun S w => ?_
  repeat (first | refine awp_seq ?_ | refine thenA_normal ?_ | refine awp_block ?_ | refine a_region ?_ | refine r_done ?_ | (refine r_id ?_; first | refine r_len tab_ok rfl rfl rfl rfl rfl rfl rfl ?_ | refine r_ev tab_ok rfl rfl rfl rfl byE rfl ?_))
  refine a_loop (σ := {i : Nat // i ≤ l.findIdx p}) (fun _ => []) (fun x => [(0, .sl 7 (l.map nF)), (1, .cl f caps), (7, .val (.int .i64 l.length)), (8, .val (.int .i64 x.1))]) (fun x => l.length - x.1) ⟨0, Nat.zero_le _⟩
    (fits_of rfl ⟨Sub.refl _, Sub.refl _, Sub.refl _, Sub.refl _, trivial⟩) ?_
  rintro ⟨i, hi⟩
  dsimp only
  have hle := List.findIdx_le_length (p := p) (xs := l)
  repeat (first | refine awp_seq ?_ | refine a_region ?_ | refine r_done ?_ | (refine r_id ?_; first | refine r_ev tab_ok rfl rfl rfl rfl byE rfl ?_))
  refine awp_cond_p rfl (fun hlt => ?_) (fun hge => ?_)
  · have hi' : i < l.length := by omega
    repeat (first | refine awp_seq ?_ | refine awp_block ?_ | refine a_region ?_ | refine awp_skip ?_ | refine r_done ?_ | (refine r_id ?_; first | refine r_ev tab_ok rfl rfl rfl rfl byE rfl ?_ | refine r_idx tab_ok rfl rfl rfl rfl rfl rfl rfl (by first | exact ⟨by omega, by omega⟩ | (simp; omega)) rfl rfl ?_))
    simp only [Int.toNat_natCast]
    refine r_callv (hp l[i] (List.getElem_mem hi')) hcall rfl rfl rfl ⟨Sub.refl _, subs_refl _⟩ (by simp [nA, ncl, AV.frees, AV.free, hcf]) rfl rfl rfl ?_
    repeat (first | refine thenA_normal ?_ | refine r_done ?_)
    refine awp_cond rfl (fun hb => ?_) (fun hb => ?_)
    · repeat (first | refine awp_seq ?_ | refine thenA_normal ?_ | refine a_region ?_ | refine awp_ret ?_ | refine thenA_ret ?_ | refine blockA_ret ?_ | refine r_done ?_ | (refine r_id ?_; first | refine r_ev tab_ok rfl rfl rfl rfl byE rfl ?_) | refine ret1 byO rfl rfl rfl ?_)
      have : l.findIdx p = i := by
        rcases Nat.lt_or_eq_of_le hi with h | h
        · have := List.not_of_lt_findIdx h
          simp_all
        · exact h.symm
      exact Sub.of_eq (by rw [findR, if_pos (by omega), this])
    · have : l.findIdx p ≠ i := fun h => by
        have := List.findIdx_getElem (p := p) (xs := l) (w := by omega)
        simp only [h] at this
        simp_all
      repeat (first | refine thenA_normal ?_ | refine a_region ?_ | refine awp_skip ?_ | refine r_done ?_ | (refine r_id ?_; first | refine r_ev tab_ok rfl rfl rfl rfl byE rfl ?_))
      exact ⟨⟨i + 1, by omega⟩, by dsimp only; omega, fits_of rfl ⟨Sub.refl _, Sub.refl _, Sub.refl _, Sub.refl _, trivial⟩⟩
  · repeat (first | refine awp_seq ?_ | refine thenA_normal ?_ | refine a_region ?_ | refine awp_ret ?_ | refine awp_exit ?_ | refine r_done ?_ | (refine r_id ?_; first | refine r_ev tab_ok rfl rfl rfl rfl byE rfl ?_) | refine ret1 byO rfl rfl rfl ?_)
    exact Sub.of_eq (by rw [findR, if_neg (by omega)])
/-- A row while elements are struck out. -/
structure DSn (p : Nd → Bool) (l : List Nd) where
  j : Nat
  X : List Nd
  hj : j ≤ l.length
  hl : ((l.take j).filter (fun x => !p x)).length + X.length = j
  hX : 0 < X.length
def DSn.K {p : Nd → Bool} {l : List Nd} (x : DSn p l) : List Nd := (l.take x.j).filter (fun x => !p x)
def DSn.cur {p : Nd → Bool} {l : List Nd} (x : DSn p l) : List Nd := x.K ++ (x.X ++ l.drop x.j)
theorem filter_findN {p : Nd → Bool} {l : List Nd} {i : Nat} (h : l.findIdx p = i) (hi : i < l.length) : ((l.take (i + 1)).filter (fun x => !p x)) = l.take i := by
  rw [List.take_add_one, List.getElem?_eq_getElem hi, List.filter_append, List.filter_eq_self.2]
  · have := List.findIdx_getElem (p := p) (xs := l) (w := by omega)
    simp only [h] at this
    simp [this]
  · intro a ha
    obtain ⟨k, hk, rfl⟩ := List.mem_take_iff_getElem.1 ha
    have : k < l.findIdx p := by omega
    have := List.not_of_lt_findIdx this
    simpa using this
set_option maxHeartbeats 1000000 in
theorem deleteN_ok (l : List Nd) (p : Nd → Bool) (f : FuncId) (caps : List AV) (hl : l.length ≤ 1099511627776) (hcall : Callable Tryz.prog f) (hcf : AV.frees caps = true) (hcu : AV.unders 1 caps = true) (hp : ∀ s ∈ l, PCalls Tryz.prog f (nA s :: caps) (.val (.bool (p s)))) :
    MCalls Tryz.prog 68 [.row 0 50 7 (l.map nF)] [.row 0 0, .cl f caps] [.row 2 50 7 ((l.filter (fun x => !p x)).map nF)] (.row 0 2) := by
  refine m_startF Tryz.func68 Tryz.ntmps68 rfl rfl rfl fun S w β => ?_
  have hlm : (l.map nF).length = l.length := List.length_map _
  have hle := List.findIdx_le_length (p := p) (xs := l)
  repeat (first | refine awp_seq ?_ | refine a_region ?_ | refine r_done ?_ | (refine r_id ?_; first | refine r_ev tab_ok rfl rfl rfl rfl byE rfl ?_))
  refine r_mro [0] (mcalls_lend (xs := [.row 0 0, .cl f caps]) (M0 := [.row 0 50 7 (l.map nF)]) (findN_ok l p f caps (by omega) hcall hcf hp) ⟨.inr ⟨0, 0, _, 7, _, rfl, rfl, rfl⟩, .inl ⟨rfl, hcf⟩, trivial⟩ rfl) call101 rfl rfl ⟨rfl, trivial⟩ (by decide) ⟨Sub.refl _, ?_, trivial⟩ ?_ rfl rfl rfl rfl rfl ?_
  · exact Sub.of_eq (by show AV.cl f caps = .cl f (AV.rens _ caps); rw [frees_ren _ _ hcf])
  · show (((true && (AV.unders 1 caps && true)) && true) = true)
    rw [hcu]
    rfl
  repeat (first | refine awp_seq ?_ | refine thenA_normal ?_ | refine a_region ?_ | refine r_done ?_ | (refine r_id ?_; first | refine r_ev tab_ok rfl rfl rfl rfl byE rfl ?_))
  refine awp_cond_p rfl (fun hno => ?_) (fun hyes => ?_)
  · have hall : l.filter (fun x => !p x) = l := by
      have : l.findIdx p = l.length := by
        rw [findR] at hno
        split at hno
        · omega
        · omega
      rw [List.filter_eq_self]
      intro a ha
      obtain ⟨k, hk, rfl⟩ := List.mem_iff_getElem.1 ha
      have := List.not_of_lt_findIdx (p := p) (xs := l) (i := k) (by omega)
      simpa using this
    rw [hall]
    repeat (first | refine awp_seq ?_ | refine thenA_normal ?_ | refine a_region ?_ | refine awp_ret ?_ | refine thenA_ret ?_ | refine r_done ?_ | (refine r_id ?_; first | refine r_ev tab_ok rfl rfl rfl rfl byE rfl ?_))
    exact retF1 [.row 2 50 7 (l.map nF)] [(4, .row 0 2)] (fits_convM byV byV ⟨.inr (by decide), trivial⟩) byO rfl rfl rfl rfl rfl (Sub.refl _)
  · obtain ⟨i, hi⟩ : ∃ i, l.findIdx p = i := ⟨_, rfl⟩
    have hil : i < l.length := by
      rw [findR, hi] at hyes
      split at hyes
      · assumption
      · exact absurd rfl hyes
    have hfr : findR p l = i := by rw [findR, hi, if_pos hil]
    have hfe := filter_findN hi hil
    have hti : (l.take i).length = i := by rw [List.length_take]; omega
    rw [hfr]
    repeat (first | refine awp_seq ?_ | refine thenA_normal ?_ | refine awp_block ?_ | refine a_region ?_ | refine awp_skip ?_ | refine r_done ?_ | (refine r_id ?_; first | refine r_ev tab_ok rfl rfl rfl rfl byE rfl ?_))
    refine a_loop (σ := DSn p l) (fun x => [.row 0 50 7 (x.cur.map nF)]) (fun x => [(0, .row 0 0), (1, .cl f caps), (5, .val (.int .i64 (x.K.length : Nat))), (6, .val (.int .i64 x.j))]) (fun x => l.length - x.j)
      ⟨i + 1, [l[i]], by omega, by rw [hfe, hti]; rfl, Nat.one_pos⟩ ?_ ?_
    · have hcur : (⟨i + 1, [l[i]], by omega, by rw [hfe, hti]; rfl, Nat.one_pos⟩ : DSn p l).cur = l := by
        show (l.take (i + 1)).filter (fun x => !p x) ++ ([l[i]] ++ l.drop (i + 1)) = l
        rw [hfe, List.singleton_append, List.getElem_cons_drop, List.take_append_drop]
      rw [hcur]
      exact fits_of rfl ⟨Sub.refl _, Sub.refl _, Sub.of_eq (by show AV.val (.int .i64 (i : Int)) = .val (.int .i64 ((((l.take (i + 1)).filter (fun x => !p x)).length : Nat) : Int)); rw [hfe, hti]), Sub.refl _, trivial⟩
    rintro ⟨j, X, hj, hlen, hX⟩
    dsimp only [DSn.cur, DSn.K]
    obtain ⟨K, hK⟩ : ∃ K, K = (l.take j).filter (fun x => !p x) := ⟨_, rfl⟩
    rw [← hK] at hlen ⊢
    have hcl : (K ++ (X ++ l.drop j)).length = l.length := by simp; omega
    have hclm : ((K ++ (X ++ l.drop j)).map nF).length = l.length := by rw [List.length_map, hcl]
    repeat (first | refine awp_seq ?_ | refine thenA_normal ?_ | refine a_region ?_ | refine r_done ?_ | (refine r_id ?_; first | refine r_ev tab_ok rfl rfl rfl rfl byE rfl ?_ | refine r_ld tab_ok rfl rfl rfl rfl rfl ?_))
    refine awp_cond_p rfl (fun hlt => ?_) (fun hge => ?_)
    · have hj' : j < l.length := by omega
      have hjc : j < (K ++ (X ++ l.drop j)).length := by omega
      have hget : (K ++ (X ++ l.drop j))[j]'hjc = l[j] := by
        rw [List.getElem_append_right (by omega), List.getElem_append_right (by omega), List.getElem_drop]
        congr 1
        omega
      repeat (first | refine awp_seq ?_ | refine awp_block ?_ | refine a_region ?_ | refine awp_skip ?_ | refine r_done ?_ | (refine r_id ?_; first | refine r_ev tab_ok rfl rfl rfl rfl byE rfl ?_ | refine r_ld tab_ok rfl rfl rfl rfl rfl ?_ | refine r_wr tab_ok rfl rfl rfl rfl rfl ?_ | refine r_st tab_ok rfl rfl rfl rfl ?_ | refine r_idxr tab_ok rfl rfl rfl rfl rfl rfl rfl rfl (by first | exact ⟨by omega, by omega⟩ | (simp; omega)) rfl ?_ | refine r_lde tab_ok rfl rfl rfl rfl rfl (by omega) rfl rfl rfl rfl ?_))
      simp only [Int.toNat_natCast]
      rw [hget]
      have htk : (l.take (j + 1)).filter (fun x => !p x) = K ++ (if p l[j] then [] else [l[j]]) := by
        rw [List.take_add_one, List.getElem?_eq_getElem hj', List.filter_append, ← hK]
        cases hq : p l[j] <;> simp [hq]
      have hdr : l.drop j = l[j] :: l.drop (j + 1) := List.drop_eq_getElem_cons hj'
      refine r_callv (hp l[j] (List.getElem_mem hj')) hcall rfl rfl rfl ⟨Sub.refl _, subs_refl _⟩ (by simp [nA, ncl, AV.frees, AV.free, hcf]) rfl rfl rfl ?_
      repeat (first | refine thenA_normal ?_ | refine r_done ?_ | (refine r_id ?_; first | refine r_ev tab_ok rfl rfl rfl rfl byE rfl ?_))
      cases hpj : p l[j] with
      | true =>
        rw [hpj, if_pos rfl, List.append_nil] at htk
        repeat (first | refine thenA_normal ?_ | refine a_region ?_ | refine awp_skip ?_ | refine r_done ?_ | (refine r_id ?_; first | refine r_ev tab_ok rfl rfl rfl rfl byE rfl ?_) | refine awp_cond_f rfl ?_)
        refine ⟨⟨j + 1, X ++ [l[j]], by omega, by rw [htk, List.length_append, List.length_singleton]; omega, by simp⟩, by dsimp only; omega, ?_⟩
        dsimp only [DSn.cur, DSn.K]
        have hh : X ++ [l[j]] ++ l.drop (j + 1) = X ++ l.drop j := by rw [List.append_assoc, List.singleton_append, ← hdr]
        rw [htk, hh]
        exact fits_drop 1 rfl rfl ⟨⟨rfl, Sub.refl _⟩, ⟨hcu, Sub.refl _⟩, ⟨rfl, Sub.refl _⟩, ⟨rfl, Sub.refl _⟩, trivial⟩
      | false =>
        rw [hpj, if_neg Bool.false_ne_true] at htk
        obtain ⟨x0, X2, rfl⟩ : ∃ x0 X2, X = x0 :: X2 := by
          cases X with
          | nil => exact absurd hX (by simp)
          | cons x X => exact ⟨x, X, rfl⟩
        have hset : (K ++ (x0 :: X2 ++ l.drop j)).set K.length l[j] = (K ++ [l[j]]) ++ ((X2 ++ [l[j]]) ++ l.drop (j + 1)) := by
          rw [List.set_append_right _ _ (Nat.le_refl _), Nat.sub_self, List.cons_append, List.set_cons_zero, hdr]
          simp
        repeat (first | refine awp_seq ?_ | refine a_region ?_ | (refine r_id ?_; first | refine r_ev tab_ok rfl rfl rfl rfl byE rfl ?_ | refine r_ld tab_ok rfl rfl rfl rfl rfl ?_ | refine r_idxr tab_ok rfl rfl rfl rfl rfl rfl rfl rfl (by first | exact ⟨by omega, by omega⟩ | (simp; omega)) rfl ?_) | refine awp_cond_t rfl ?_)
        refine r_ste tab_ok l[j] rfl rfl rfl rfl rfl (by simp only [Int.toNat_natCast]; simp) rfl rfl rfl rfl rfl rfl ?_
        simp only [Int.toNat_natCast]
        rw [hset]
        repeat (first | refine thenA_normal ?_ | refine a_region ?_ | refine r_done ?_ | (refine r_id ?_; first | refine r_ev tab_ok rfl rfl rfl rfl byE rfl ?_))
        refine ⟨⟨j + 1, X2 ++ [l[j]], by omega, by rw [htk, List.length_append, List.length_append, List.length_singleton]; simp at hlen ⊢; omega, by simp⟩, by dsimp only; omega, ?_⟩
        dsimp only [DSn.cur, DSn.K]
        rw [htk]
        exact fits_drop 1 rfl rfl ⟨⟨rfl, Sub.refl _⟩, ⟨hcu, Sub.refl _⟩, ⟨rfl, Sub.of_eq (by show AV.val (.int .i64 ((K.length : Int) + 1)) = .val (.int .i64 (((K ++ [l[j]]).length : Nat) : Int)); rw [List.length_append]; rfl)⟩, ⟨rfl, Sub.refl _⟩, trivial⟩
    · have hjl : j = l.length := by omega
      subst hjl
      rw [List.take_length] at hK
      rw [List.drop_length, List.append_nil] at hcl hclm ⊢
      rw [← hK]
      have hne : (K ++ X).map nF ≠ [] := by
        cases X with
        | nil => exact absurd hX (by simp)
        | cons x X => simp
      repeat (first | refine awp_seq ?_ | refine a_region ?_ | refine awp_exit ?_ | (refine r_id ?_; first | refine r_ev tab_ok rfl rfl rfl rfl byE rfl ?_))
      refine r_by1 (astep_sfx tab_ok rfl rfl rfl rfl hne rfl ⟨by omega, by rw [List.length_map, List.length_append]; omega⟩) rfl rfl rfl rfl rfl ?_
      refine r_by2n (astep_clear_n (zD := nZ) tab_ok rfl rfl (by decide) rfl rfl nZ_den nZ_one rfl (by simp only [Int.toNat_natCast]; rw [List.length_map, List.length_append]; omega) rfl rfl) rfl rfl rfl ?_
      simp only [Int.toNat_natCast]
      have he : (((K ++ X).map nF).take K.length ++ List.replicate (((K ++ X).map nF).length - K.length) nZ).take K.length = K.map nF := by
        rw [List.take_append_of_le_length (by rw [List.length_take, List.length_map, List.length_append]; omega), List.take_take, Nat.min_self, List.map_append, List.take_append_of_le_length (by rw [List.length_map]; exact Nat.le_refl _), List.take_of_length_le (by rw [List.length_map]; exact Nat.le_refl _)]
      have hne2 : ((K ++ X).map nF).take K.length ++ List.replicate (((K ++ X).map nF).length - K.length) nZ ≠ [] := by
        intro h
        have h2 := congrArg List.length h
        rw [List.length_append, List.length_take, List.length_replicate, List.length_map, List.length_append, List.length_nil] at h2
        omega
      repeat (first | refine awp_seq ?_ | refine a_region ?_ | refine r_done ?_ | (refine r_id ?_; first | refine r_ev tab_ok rfl rfl rfl rfl byE rfl ?_))
      refine r_by2 (astep_cut_row tab_ok rfl rfl rfl rfl hne2 rfl rfl (m := K.length) rfl (by rw [List.length_append, List.length_take, List.length_map, List.length_append]; omega)) rfl rfl rfl rfl rfl ?_
      rw [he]
      repeat (first | refine thenA_normal ?_ | refine awp_ret ?_ | refine r_done ?_ | (refine r_id ?_; first | refine r_ev tab_ok rfl rfl rfl rfl byE rfl ?_))
      exact retF1 [.row 2 50 7 (K.map nF)] [(4, .row 0 2)] (fits_of rfl ⟨Sub.refl _, trivial⟩) byO rfl rfl rfl rfl rfl (Sub.refl _)
/-- nest.Tight. -/
theorem tight_ok (l : List Nd) (hn : nszs l < 1099511627776) : PCalls Tryz.prog 37 [.sl 7 (l.map nF)] (.sl 7 ((l.filter (fun n => !whN n)).map nF)) := by
  refine p_start Tryz.func37 Tryz.ntmps37 rfl rfl rfl fun S w => ?_
  have hll := nszs_len l
  have hlm : (l.map nF).length = l.length := List.length_map _
  repeat (first | refine awp_seq ?_ | refine a_region ?_ | refine r_done ?_ | (refine r_id ?_; first | refine r_ev tab_ok rfl rfl rfl rfl byE rfl ?_))
  refine r_rcall (copyM_ok l hn) call60 rfl rfl ⟨Sub.refl _, trivial⟩ rfl rfl rfl rfl rfl rfl ?_
  refine r_mcall [0] (deleteN_ok l whN 59 [] (by omega) call59 rfl rfl (fun n _ => White_ok n)) call68 rfl rfl ⟨rfl, trivial⟩ (by decide) ⟨Sub.refl _, Sub.refl _, trivial⟩ rfl rfl rfl rfl rfl rfl rfl ?_
  repeat (first | refine thenA_normal ?_ | refine awp_ret ?_ | refine r_done ?_ | (refine r_id ?_; first | refine r_ev tab_ok rfl rfl rfl rfl byE rfl ?_) | refine ret1_row byO rfl rfl rfl ?_)
  exact Sub.refl _
end Go.Proofs.YtfmafehogfikmaaGreatDoor

/- define.among, Canon, Name; prop.style, listType; walked. -/
namespace Go.Proofs.YtfmafehogfikmaaGreatDoor
open Go Go.RowKit
set_option maxRecDepth 20000

theorem bnot_t {p : Prop} [Decidable p] (h : p) : (!decide p) = false := by rw [decide_eq_true h]; rfl
theorem bnot_f {p : Prop} [Decidable p] (h : ¬ p) : (!decide p) = true := by rw [decide_eq_false h]; rfl
def amgF (all w : ByteArray) : Bool := (fldF all).any fun x => decide (w = x)
theorem among_ok (all w : ByteArray) (hs : all.size ≤ 1099511627776) (hp : plainS all = true) : PCalls Tryz.prog 29 [.val (.string all), .val (.string w)] (.val (.bool (amgF all w))) := by
  have hl := fldF_sz all
  have hF := strFields_ok all hs hp
  have hI := contains_ok (fldF all) w (by omega)
  refine p_start Tryz.func29 Tryz.ntmps29 rfl rfl rfl fun S w0 => ?_
  repeat (first | refine awp_seq ?_ | refine a_region ?_ | refine r_done ?_ | (refine r_id ?_; first | refine r_ev tab_ok rfl rfl rfl rfl byE rfl ?_))
  refine r_call hF call62 rfl rfl ⟨Sub.refl _, trivial⟩ rfl rfl rfl rfl ?_
  repeat (first | (refine r_id ?_; first | refine r_ev tab_ok rfl rfl rfl rfl byE rfl ?_))
  refine r_call hI call61 rfl rfl ⟨Sub.refl _, Sub.refl _, trivial⟩ rfl rfl rfl rfl ?_
  repeat (first | refine thenA_normal ?_ | refine awp_ret ?_ | refine r_done ?_ | (refine r_id ?_; first | refine r_ev tab_ok rfl rfl rfl rfl byE rfl ?_) | refine ret1 byO rfl rfl rfl ?_)
  exact Sub.refl _
def ownN : ByteArray := ⟨([100, 101, 99, 105, 109, 97, 108, 32, 100, 101, 99, 105, 109, 97, 108, 45, 108, 101, 97, 100, 105, 110, 103, 45, 122, 101, 114, 111, 32, 108, 111, 119, 101, 114, 45, 97, 108, 112, 104, 97, 32, 117, 112, 112, 101, 114, 45, 97, 108, 112, 104, 97, 32].append [108, 111, 119, 101, 114, 45, 114, 111, 109, 97, 110, 32, 117, 112, 112, 101, 114, 45, 114, 111, 109, 97, 110, 32, 108, 111, 119, 101, 114, 45, 103, 114, 101, 101, 107, 32, 100, 105, 115, 99, 32, 99, 105, 114, 99, 108, 101, 32, 115, 113, 117, 97, 114, 101]).toArray⟩
def canF (s : ByteArray) : ByteArray := if amgF ownN (lowS s) then lowS s else s
theorem canon_ok (s : ByteArray) (h : s.size ≤ 1099511627776) : PCalls Tryz.prog 31 [.val (.string s)] (.val (.string (canF s))) := by
  refine p_start Tryz.func31 Tryz.ntmps31 rfl rfl rfl fun S w0 => ?_
  rw [canF]
  repeat (first | refine awp_seq ?_ | refine a_region ?_ | refine r_done ?_ | (refine r_id ?_; first | refine r_ev tab_ok rfl rfl rfl rfl byE rfl ?_))
  refine r_call (plower_ok s (by omega)) call30 rfl rfl ⟨Sub.refl _, trivial⟩ rfl rfl rfl rfl ?_
  repeat (first | refine awp_seq ?_ | refine a_region ?_ | refine r_done ?_ | (refine r_id ?_; first | refine r_ev tab_ok rfl rfl rfl rfl byE rfl ?_))
  refine r_call (among_ok ownN (lowS s) (by decide) (by kernel_rfl)) call29 rfl rfl ⟨Sub.refl _, Sub.refl _, trivial⟩ rfl rfl rfl rfl ?_
  repeat (first | refine thenA_normal ?_ | refine r_done ?_)
  refine awp_cond rfl (fun hc => ?_) (fun hc => ?_)
  · rw [if_pos hc]
    repeat (first | refine awp_seq ?_ | refine thenA_normal ?_ | refine a_region ?_ | refine awp_ret ?_ | refine thenA_ret ?_ | refine r_done ?_ | (refine r_id ?_; first | refine r_ev tab_ok rfl rfl rfl rfl byE rfl ?_) | refine ret1 byO rfl rfl rfl ?_)
    all_goals exact Sub.refl _
  · rw [hc, if_neg Bool.false_ne_true]
    repeat (first | refine awp_seq ?_ | refine thenA_normal ?_ | refine a_region ?_ | refine awp_ret ?_ | refine awp_skip ?_ | refine r_done ?_ | (refine r_id ?_; first | refine r_ev tab_ok rfl rfl rfl rfl byE rfl ?_) | refine ret1 byO rfl rfl rfl ?_)
    all_goals exact Sub.refl _
theorem trimF_sz (l : List Nd) : nszs (trimF l) ≤ nszs l := by
  have e : ∀ l : List Nd, nszs (l.dropWhile whN) ≤ nszs l := by
    intro l
    induction l with
    | nil => exact Nat.le_refl _
    | cons n r ih =>
      rw [List.dropWhile_cons]
      split
      · rw [nszs]; omega
      · exact Nat.le_refl _
  have r : ∀ l : List Nd, nszs l.reverse = nszs l := by
    intro l
    induction l with
    | nil => rfl
    | cons n q ih => rw [List.reverse_cons, nszs_append, ih, nszs, nszs, nszs]; omega
  rw [trimF, trimB, r]
  exact Nat.le_trans (e _) (by rw [r]; exact e _)
def badN : ByteArray := ⟨#[110, 111, 110, 101, 32, 105, 110, 105, 116, 105, 97, 108, 32, 105, 110, 104, 101, 114, 105, 116, 32, 117, 110, 115, 101, 116, 32, 100, 101, 102, 97, 117, 108, 116]⟩
def nmF1 : List Nd → ByteArray × Bool
  | [n] => if n.tok.kind = 1 then (if amgF badN (lowS n.tok.text) then (⟨#[]⟩, false) else (canF n.tok.text, true)) else (⟨#[]⟩, false)
  | _ => (⟨#[]⟩, false)
def nmF (l : List Nd) : ByteArray × Bool := nmF1 (trimF l)
set_option maxHeartbeats 1000000 in
theorem dname_ok (l : List Nd) (hl : nszs l < 1099511627776) (ht : ∀ n ∈ l, n.tok.text.size ≤ 1099511627776) : PCalls Tryz.prog 11 [.sl 7 (l.map nF)] (.tup [.val (.string (nmF l).1), .val (.bool (nmF l).2)]) := by
  refine p_start Tryz.func11 Tryz.ntmps11 rfl rfl rfl fun S w0 => ?_
  repeat (first | refine awp_seq ?_ | refine a_region ?_ | refine r_done ?_ | (refine r_id ?_; first | refine r_ev tab_ok rfl rfl rfl rfl byE rfl ?_))
  refine r_call (trim_ok 1099511627776 l hl (Nat.le_refl _)) call28 rfl rfl ⟨Sub.refl _, trivial⟩ rfl rfl rfl rfl ?_
  have hz := trimF_sz l
  have htt : ∀ n ∈ trimF l, n.tok.text.size ≤ 1099511627776 := fun n hn => ht n (trimF_mem n hn)
  rw [nmF]
  have hll := nszs_len (trimF l)
  obtain ⟨m, hm⟩ : ∃ m, m = trimF l := ⟨_, rfl⟩
  rw [← hm] at hz htt hll ⊢
  have hlm : (m.map nF).length = m.length := List.length_map _
  clear hm
  match m, hz, htt, hll, hlm with
  | [], _, _, _, _ =>
    repeat (first | refine awp_seq ?_ | refine thenA_normal ?_ | refine a_region ?_ | refine awp_ret ?_ | refine thenA_ret ?_ | refine r_done ?_ | (refine r_id ?_; first | refine r_len tab_ok rfl rfl rfl rfl rfl rfl rfl ?_ | refine r_ev tab_ok rfl rfl rfl rfl byE rfl ?_ | refine r_ev_cnd tab_ok rfl rfl rfl rfl rfl rfl byC (by first | exact fun _ => trivial | (intro h; simp at h; first | exact ⟨by omega, by omega⟩ | omega)) rfl ?_ | refine r_pick_t rfl rfl rfl rfl rfl rfl rfl ?_ | refine r_off rfl rfl rfl rfl rfl rfl ?_) | refine ret2 byO rfl rfl rfl rfl ?_ ?_ | refine awp_cond_t rfl ?_)
    all_goals exact Sub.refl _
  | [n], _, ht, _, _ =>
    rw [nmF1]
    have h1 := ht n (by simp)
    have hl1 : ((([n] : List Nd).length : Nat) : Int) = 1 := rfl
    by_cases hk : n.tok.kind = 1
    · rw [if_pos hk]
      have hk2 : ([n][Int.toNat 0]'(Nat.one_pos)).tok.kind = 1 := hk
      repeat (first | refine awp_seq ?_ | refine a_region ?_ | refine r_done ?_ | (refine r_id ?_; first | refine r_len tab_ok rfl rfl rfl rfl rfl rfl rfl ?_ | refine r_ev tab_ok rfl rfl rfl rfl byE rfl ?_ | refine r_idx tab_ok rfl rfl rfl rfl rfl rfl rfl (by first | exact ⟨by omega, by omega⟩ | (simp; omega)) rfl rfl ?_ | refine r_pick_f rfl rfl rfl rfl rfl rfl rfl ?_ | refine r_ev_on tab_ok rfl rfl rfl rfl rfl rfl (by first | exact trivial | exact ⟨by omega, by omega⟩ | omega) rfl ?_) | refine r_g rfl rfl rfl ?_ | refine r_g rfl rfl (congrArg (fun b => AV.val (.bool b)) (bnot_t (by omega))) ?_)
      refine r_call (plower_ok n.tok.text (by omega)) call30 rfl rfl ⟨Sub.refl _, trivial⟩ rfl rfl rfl rfl ?_
      repeat (first | refine r_g rfl rfl (congrArg (fun b => AV.val (.bool b)) (bnot_t (by omega))) ?_)
      refine r_call (among_ok badN (lowS n.tok.text) (by decide) (by kernel_rfl)) call29 rfl rfl ⟨Sub.refl _, Sub.refl _, trivial⟩ rfl rfl rfl rfl ?_
      repeat (first | refine thenA_normal ?_ | refine r_done ?_ | refine r_pick_f rfl rfl (congrArg (fun b => AV.val (.bool b)) (bnot_t (by omega))) rfl rfl rfl rfl ?_)
      refine awp_cond rfl (fun hc => ?_) (fun hc => ?_)
      · have e : amgF badN (lowS n.tok.text) = true := by simpa [hk] using hc
        rw [if_pos e]
        repeat (first | refine awp_seq ?_ | refine thenA_normal ?_ | refine a_region ?_ | refine awp_ret ?_ | refine thenA_ret ?_ | refine r_done ?_ | (refine r_id ?_; first | refine r_ev tab_ok rfl rfl rfl rfl byE rfl ?_) | refine ret2 byO rfl rfl rfl rfl ?_ ?_)
        all_goals exact Sub.refl _
      · have e : amgF badN (lowS n.tok.text) = false := by simpa [hk] using hc
        rw [e, if_neg Bool.false_ne_true]
        repeat (first | refine awp_seq ?_ | refine a_region ?_ | refine awp_skip ?_ | (refine r_id ?_; first | refine r_ev tab_ok rfl rfl rfl rfl byE rfl ?_ | refine r_idx tab_ok rfl rfl rfl rfl rfl rfl rfl (by first | exact ⟨by omega, by omega⟩ | (simp; omega)) rfl rfl ?_))
        refine r_call (canon_ok n.tok.text h1) call31 rfl rfl ⟨Sub.refl _, trivial⟩ rfl rfl rfl rfl ?_
        repeat (first | refine thenA_normal ?_ | refine awp_ret ?_ | refine r_done ?_ | (refine r_id ?_; first | refine r_ev tab_ok rfl rfl rfl rfl byE rfl ?_) | refine ret2 byO rfl rfl rfl rfl ?_ ?_)
        all_goals exact Sub.refl _
    · rw [if_neg hk]
      have hk2 : ¬ ([n][Int.toNat 0]'(Nat.one_pos)).tok.kind = 1 := hk
      repeat (first | refine awp_seq ?_ | refine thenA_normal ?_ | refine a_region ?_ | refine awp_ret ?_ | refine thenA_ret ?_ | refine r_done ?_ | (refine r_id ?_; first | refine r_len tab_ok rfl rfl rfl rfl rfl rfl rfl ?_ | refine r_ev tab_ok rfl rfl rfl rfl byE rfl ?_ | refine r_idx tab_ok rfl rfl rfl rfl rfl rfl rfl (by first | exact ⟨by omega, by omega⟩ | (simp; omega)) rfl rfl ?_ | refine r_pick_f rfl rfl rfl rfl rfl rfl rfl ?_ | refine r_ev_on tab_ok rfl rfl rfl rfl rfl rfl (by first | exact trivial | exact ⟨by omega, by omega⟩ | omega) rfl ?_) | refine ret2 byO rfl rfl rfl rfl ?_ ?_ | refine awp_cond_t rfl ?_ | refine r_g rfl rfl rfl ?_ | refine r_pick_t rfl rfl (congrArg (fun b => AV.val (.bool b)) (bnot_f (by omega))) rfl rfl rfl rfl ?_ | refine r_off rfl rfl (congrArg (fun b => AV.val (.bool b)) (bnot_f (by omega))) rfl rfl rfl ?_)
      all_goals exact Sub.refl _
  | a :: b :: r, _, _, hl, hlm =>
    have hne : ¬ (((a :: b :: r).length : Nat) : Int) = 1 := by simp only [List.length_cons]; omega
    repeat (first | refine awp_seq ?_ | refine thenA_normal ?_ | refine a_region ?_ | refine awp_ret ?_ | refine thenA_ret ?_ | refine r_done ?_ | (refine r_id ?_; first | refine r_len tab_ok rfl rfl rfl rfl rfl rfl rfl ?_ | refine r_ev tab_ok rfl rfl rfl rfl byE rfl ?_ | refine r_ev_cnd tab_ok rfl rfl rfl rfl rfl rfl byC (by first | exact fun _ => trivial | (intro h; simp at h; first | exact ⟨by omega, by omega⟩ | omega)) rfl ?_ | refine r_idx_cnd' tab_ok rfl rfl rfl rfl rfl rfl rfl byC rfl rfl (by first | (intro h; simp at h; exact ⟨by omega, by omega⟩) | (intro h; simp only [Bool.and_eq_true, Bool.or_eq_false_iff, beq_iff_eq, decide_eq_false_iff_not, decide_eq_true_eq] at h; exact ⟨by omega, by omega⟩)) rfl rfl ?_ | refine r_or rfl rfl rfl rfl rfl rfl rfl rfl ?_ | refine r_pick_t rfl rfl rfl rfl rfl rfl rfl ?_ | refine r_off rfl rfl rfl rfl rfl rfl ?_) | refine ret2 byO rfl rfl rfl rfl ?_ ?_ | refine awp_cond_t rfl ?_)
    all_goals exact Sub.refl _
def nonS : ByteArray := ⟨#[110, 111, 110, 101]⟩
def styF (l : List Nd) : ByteArray × Bool := if aloF l = nonS then (nonS, true) else nmF l
def ltyF1 : List Nd → ByteArray × Bool
  | [n] => if n.tok.kind = 5 then (⟨#[34]⟩ ++ n.tok.text, true) else styF [n]
  | l => styF l
end Go.Proofs.YtfmafehogfikmaaGreatDoor

/- prop.pair, pairs; walked. -/
namespace Go.Proofs.YtfmafehogfikmaaGreatDoor
open Go Go.RowKit
set_option maxRecDepth 20000

structure Pr where
  name : ByteArray
  n : Int
  rev : Bool
  auto : Bool
def prD (p : Pr) : D := .ag [.val (.string p.name), .val (.int .i64 p.n), .val (.bool p.rev), .val (.bool p.auto)]
def prA (p : Pr) : AV := .agg [.val (.string p.name), .val (.int .i64 p.n), .val (.bool p.rev), .val (.bool p.auto)]
def revS : ByteArray := ⟨#[114, 101, 118, 101, 114, 115, 101, 100]⟩
def isFn (n : Nd) (w : ByteArray) : Bool := decide (n.tok.kind = 2) && decide (lowS n.tok.text = w)
def tigF (l : List Nd) : List Nd := l.filter fun n => !whN n
def pairF1 : List Nd → Pr × Bool
  | [m] => (⟨(cntF m).1, 0, true, true⟩, (cntF m).2)
  | _ => (⟨⟨#[]⟩, 0, false, false⟩, false)
def pairF (n : Nd) (d : Int) (rev : Bool) : Pr × Bool :=
  if rev && isFn n revS then pairF1 (tigF n.kids) else (⟨(cntF n).1, d, false, false⟩, (cntF n).2)
theorem tigF_mem {l : List Nd} {n : Nd} (h : n ∈ tigF l) : n ∈ l := (List.mem_filter.1 h).1
theorem tigF_len (l : List Nd) : (tigF l).length ≤ l.length := List.length_filter_le _ _
/-- Pairs, one behind the other. -/
def prsF (d : Int) (rev : Bool) : List Nd → List Pr → Option (List Pr)
  | [], acc => some acc
  | [n], acc => if (pairF n d rev).2 then some (acc ++ [(pairF n d rev).1]) else none
  | n :: m :: r, acc =>
    if (pairF n d rev).2 then
      (if m.tok.kind = 10 then
        (if m.tok.whole then prsF d rev r (acc ++ [{ (pairF n d rev).1 with n := m.tok.int, auto := false }]) else none)
      else prsF d rev (m :: r) (acc ++ [(pairF n d rev).1]))
    else none
def nonS2 : ByteArray := ⟨#[110, 111, 110, 101]⟩
def pairsF (l : List Nd) (d : Int) (rev : Bool) : List Pr × Bool :=
  if aloF l = nonS2 then ([], true) else
  match prsF d rev l [] with
  | none => ([], false)
  | some a => (a, decide (1 ≤ a.length) && decide (a.length ≤ 32))
structure PrS (d : Int) (rev : Bool) (l : List Nd) where
  rest : List Nd
  acc : List Pr
  sub : ∀ n ∈ rest, n ∈ l
  sz : nszs rest ≤ nszs l
  ln : acc.length + rest.length ≤ l.length
  eq : prsF d rev rest acc = prsF d rev l []
end Go.Proofs.YtfmafehogfikmaaGreatDoor

/- nest.Split, for a seat without nest.Ones (XNb on its own). -/
namespace Go.Proofs.YtfmafehogfikmaaGreatDoor
open Go Go.RowKit
set_option maxRecDepth 20000

section
variable {P : Program} {o : Oper} {M M' : List AB} {ρ ρ' : Operand → AV} {out : AV}
/-- What is known of the operands may be weakened. -/
theorem AStep.sub (h : AStep P o M ρ' M' out) (hs : ∀ x ∈ o.op.operands, Sub (ρ x) (ρ' x)) : AStep P o M ρ M' out :=
  fun S B β a w hm hh K Q hK => h S B β a w hm (fun x hx => hs x hx _ _ _ _ _ (hh x hx)) K Q hK
theorem vals_sat_ {M : List AB} {β : Env} {w : World} {imm : Nat → Prop} : ∀ l : List Value, AVsats M β w imm (l.map .val) l
  | [] => rfl
  | v :: r => ⟨v, r, rfl, rfl, vals_sat_ r⟩
theorem sub_agg (cs : Array Value) : Sub (.val (.agg cs)) (.agg (cs.toList.map .val)) := fun M β w imm v h => by
  have h : v = .agg cs := h
  subst h
  exact ⟨cs, rfl, vals_sat_ _⟩
/-- A constant struct, taken apart. -/
def unagg (ρ : Operand → AV) (x : Operand) : AV := match ρ x with
  | .val (.agg cs) => .agg (cs.toList.map .val)
  | y => y
theorem unagg_sub (ρ : Operand → AV) (x : Operand) : Sub (ρ x) (unagg ρ x) := by
  unfold unagg
  split
  · rename_i cs h
    rw [h]
    exact sub_agg cs
  · exact Sub.refl _
end
def zD : D := .ag [.val (.int .i64 0), .val (.string ⟨#[]⟩), .val (.int .i64 0), .val (.bool false), .val (.bool false), .val (.bool false), .val (.slice none 0 0)]
def cmB (n : Nd) : Bool := decide (n.tok.kind = 18)
def splitG : List Nd → List (List Nd) → List Nd → List (List Nd)
  | [], pre, cur => pre ++ [cur]
  | n :: r, pre, cur => if cmB n = true then splitG r (pre ++ [cur]) [] else splitG r pre (cur ++ [n])
def splitF (l : List Nd) : List (List Nd) := splitG l [] []
theorem splitG_len : ∀ (l : List Nd) (pre : List (List Nd)) (cur : List Nd), (splitG l pre cur).length = pre.length + 1 + l.countP cmB
  | [], pre, cur => by rw [splitG, List.length_append, List.length_singleton]; rfl
  | n :: r, pre, cur => by
    rw [splitG, List.countP_cons]
    split
    · rw [splitG_len, List.length_append, List.length_singleton]; omega
    · rw [splitG_len]; omega
structure SS (l : List Nd) where
  i : Nat
  pre : List (List Nd)
  cur : List Nd
  hi : i ≤ l.length
  h1 : pre.length ≤ i
  h2 : cur.length ≤ i
  eq : splitG (l.drop i) pre cur = splitF l
def nds (l : List Nd) : D := .sl 7 (l.map nF)
theorem nds_fine (l : List Nd) : (nds l).fine := by rw [nds, D.fine]; trivial
set_option maxHeartbeats 2000000 in
theorem split_ok (n : Nat) (l : List Nd) (hn : nszs l < n) (hb : n ≤ 1099511627776) : PCalls Tryz.prog 71 [.sl 7 (l.map nF)] (.sl 1 ((splitF l).map nds)) := by
  refine p_start Tryz.func71 Tryz.ntmps71 rfl rfl rfl fun S w => ?_
  have hll := nszs_len l
  have hlm : (l.map nF).length = l.length := List.length_map _
  repeat (first | refine awp_seq ?_ | refine a_region ?_ | refine r_done ?_ | (refine r_id ?_; first | refine r_ev tab_ok rfl rfl rfl rfl byE rfl ?_))
  refine r_built_row tab_ok rfl rfl rfl rfl rfl rfl rfl rfl rfl ?_
  repeat (first | refine awp_seq ?_ | refine a_region ?_ | refine r_done ?_ | (refine r_id ?_; first | refine r_ev tab_ok rfl rfl rfl rfl byE rfl ?_))
  refine r_call (copy_ok n l hn hb) call60 rfl rfl ⟨Sub.refl _, trivial⟩ rfl rfl rfl rfl ?_
  repeat (first | refine thenA_normal ?_ | refine awp_block ?_ | refine r_done ?_ | (refine r_id ?_; first | refine r_len tab_ok rfl rfl rfl rfl rfl rfl rfl ?_ | refine r_ev tab_ok rfl rfl rfl rfl byE rfl ?_))
  refine a_loop (σ := SS l) (fun x => [.rowo 0 34 1 (x.pre.map nds) 1 [.row 1 0], .row 0 50 7 (x.cur.map nF)]) (fun x => [(3, .row 0 0), (8, .sl 7 (l.map nF)), (9, .val (.int .i64 l.length)), (10, .val (.int .i64 x.i))]) (fun x => l.length - x.i) ⟨0, [], [], Nat.zero_le _, Nat.le_refl _, Nat.le_refl _, rfl⟩
    (fits_trans (fits_open (i := 0) (pre := []) rfl) (fits_conv byV byV)) ?_
  rintro ⟨i, pre, cur, hi, h1, h2, heq⟩
  dsimp only
  have hpl : (pre.map nds).length = pre.length := List.length_map _
  have hcl : (cur.map nF).length = cur.length := List.length_map _
  repeat (first | refine awp_seq ?_ | refine a_region ?_ | refine r_done ?_ | (refine r_id ?_; first | refine r_ev tab_ok rfl rfl rfl rfl byE rfl ?_))
  refine awp_cond_p rfl (fun hlt => ?_) (fun hge => ?_)
  · have hlt' : i < l.length := by omega
    have hi' : ((i : Nat) : Int).toNat < l.length := by simp only [Int.toNat_natCast]; exact hlt'
    rw [List.drop_eq_getElem_cons hlt', splitG] at heq
    repeat (first | refine awp_seq ?_ | refine thenA_normal ?_ | refine awp_block ?_ | refine a_region ?_ | refine awp_skip ?_ | refine r_done ?_ | (refine r_id ?_; first | refine r_ev tab_ok rfl rfl rfl rfl byE rfl ?_ | refine r_ld tab_ok rfl rfl rfl rfl rfl ?_ | refine r_idx tab_ok rfl rfl rfl rfl rfl rfl rfl (by first | exact ⟨by omega, by omega⟩ | (simp; omega)) rfl rfl ?_ | refine r_wr tab_ok rfl rfl rfl rfl rfl ?_ | refine r_st tab_ok rfl rfl rfl rfl ?_))
    refine awp_cond rfl (fun hc => ?_) (fun hc => ?_)
    · simp only [Int.toNat_natCast] at hc
      rw [if_pos (show cmB l[i] = true from hc)] at heq
      refine awp_fits (s' := ⟨[.rowo 0 34 1 (pre.map nds) 1 [.row 1 0], .row 0 50 7 (cur.map nF)], [(3, .row 0 0), (5, .dptr (ncl (l[((i : Nat) : Int).toNat]'hi'))), (8, .sl 7 (l.map nF)), (9, .val (.int .i64 l.length)), (10, .val (.int .i64 i))]⟩) (fits_trans (fits_sinkp (i := 2) (d := 5) rfl rfl rfl) (fits_drop 2 rfl rfl ⟨⟨rfl, Sub.refl _⟩, ⟨rfl, Sub.refl _⟩, ⟨rfl, Sub.refl _⟩, ⟨rfl, Sub.refl _⟩, ⟨rfl, Sub.refl _⟩, trivial⟩)) ?_
      repeat (first | refine awp_seq ?_ | refine a_region ?_ | (refine r_id ?_; first | refine r_ev tab_ok rfl rfl rfl rfl byE rfl ?_ | refine r_built tab_ok rfl rfl rfl rfl rfl rfl rfl rfl rfl ?_))
      refine r_append_o tab_ok rfl rfl rfl rfl rfl rfl rfl rfl rfl (by rw [hpl]; show (pre.length + 1 + 1) * 24 ≤ 140737488355328; omega) rfl rfl ?_
      repeat (first | refine thenA_normal ?_ | refine a_region ?_ | refine awp_exit ?_ | refine r_done ?_ | (refine r_id ?_; first | refine r_ev tab_ok rfl rfl rfl rfl byE rfl ?_))
      refine ⟨⟨i + 1, pre ++ [cur], [], hlt', by rw [List.length_append, List.length_singleton]; omega, Nat.zero_le _, heq⟩, by dsimp only; omega, ?_⟩
      dsimp only
      rw [List.map_append]
      refine fits_trans (s' := ⟨[.rowo 0 34 1 (pre.map nds) 2 [.sl 7 (cur.map nF), .val (.slice none 0 0)], .gone], [(3, .row 0 0), (8, .sl 7 (l.map nF)), (9, .val (.int .i64 l.length)), (10, .val (.int .i64 ((i + 1 : Nat) : Int)))]⟩) (fits_conv byV byV) ?_
      refine fits_trans (fits_shut (i := 0) (nds cur) rfl (nds_fine cur) rfl) ?_
      refine fits_trans (s' := ⟨[.rowo 0 34 1 (pre.map nds ++ [nds cur]) 1 [.val (.slice none 0 0)]], [(3, .row 0 0), (8, .sl 7 (l.map nF)), (9, .val (.int .i64 l.length)), (10, .val (.int .i64 ((i + 1 : Nat) : Int)))]⟩) (fits_drop 1 rfl rfl ⟨⟨rfl, Sub.refl _⟩, ⟨rfl, Sub.refl _⟩, ⟨rfl, Sub.refl _⟩, ⟨rfl, Sub.refl _⟩, trivial⟩) ?_
      exact fits_conv byV byV
    · simp only [Int.toNat_natCast] at hc
      rw [if_neg (by rw [show cmB l[i] = false from hc]; decide)] at heq
      refine awp_fits (s' := ⟨[.rowo 0 34 1 (pre.map nds) 1 [.row 1 0], .row 0 50 7 (cur.map nF)], [(3, .row 0 0), (5, .dptr (ncl (l[((i : Nat) : Int).toNat]'hi'))), (8, .sl 7 (l.map nF)), (9, .val (.int .i64 l.length)), (10, .val (.int .i64 i))]⟩) (fits_trans (fits_sinkp (i := 2) (d := 5) rfl rfl rfl) (fits_drop 2 rfl rfl ⟨⟨rfl, Sub.refl _⟩, ⟨rfl, Sub.refl _⟩, ⟨rfl, Sub.refl _⟩, ⟨rfl, Sub.refl _⟩, ⟨rfl, Sub.refl _⟩, trivial⟩)) ?_
      repeat (first | refine awp_seq ?_ | refine awp_skip ?_)
      refine a_coin tab_ok mixed_ok rfl rfl rfl rfl rfl rfl rfl rfl rfl rfl rfl rfl rfl rfl rfl rfl rfl (by kernel_rfl) (by kernel_rfl) (by kernel_rfl) (by kernel_rfl) (by kernel_rfl) (by kernel_rfl) (fun b => rfl) (fun b => ?_)
      refine awp_fits (s' := ⟨[.rowo 0 34 1 (pre.map nds) 1 [.row 1 0], .row 0 50 7 (cur.map nF)], [(3, .row 0 0), (5, .dptr (ncl (l[((i : Nat) : Int).toNat]'hi'))), (8, .sl 7 (l.map nF)), (9, .val (.int .i64 l.length)), (10, .val (.int .i64 i)), (22, .val (.bool b))]⟩) (fits_drop 2 rfl rfl ⟨⟨rfl, Sub.refl _⟩, ⟨rfl, Sub.refl _⟩, ⟨rfl, Sub.refl _⟩, ⟨rfl, Sub.refl _⟩, ⟨rfl, Sub.refl _⟩, ⟨rfl, Sub.refl _⟩, trivial⟩) ?_
      have hj : ((((pre.map nds).length + 1 : Nat) : Int) - 1).toNat = (pre.map nds).length := by omega
      have hclt : ((((cur.map nF).length : Nat) : Int)).toNat = (cur.map nF).length := Int.toNat_natCast _
      refine awp_cond rfl (fun hb => ?_) (fun hb => ?_)
      · subst hb
        repeat (first | refine awp_seq ?_)
        refine a_draw rfl (List.replicate 13 1 ++ [2, 1, 2]) (by kernel_rfl) ?_
        repeat (first | (refine r_id ?_; first | refine r_ev tab_ok rfl rfl rfl rfl byE rfl ?_) | refine r_len_o tab_ok rfl rfl rfl rfl rfl rfl rfl rfl ?_)
        refine r_idx_o tab_ok rfl rfl rfl rfl rfl rfl rfl rfl (by omega) (by omega) rfl ?_
        rw [hj]
        refine r_ld_o tab_ok rfl rfl rfl rfl rfl (o' := 0) rfl rfl rfl rfl rfl ?_
        repeat (first | (refine r_id ?_; first | refine r_ev tab_ok rfl rfl rfl rfl byE rfl ?_ | refine r_ld tab_ok rfl rfl rfl rfl rfl ?_))
        refine r_by1 (AStep.sub (astep_buildSlice (ρ := unagg _) (ds := [zD]) tab_ok rfl rfl rfl rfl rfl) (fun x _ => unagg_sub _ x)) rfl rfl rfl rfl rfl ?_
        refine r_append tab_ok rfl rfl rfl rfl rfl rfl rfl rfl rfl (by rw [hcl]; simp; omega) rfl ?_
        refine r_idx_o tab_ok rfl rfl rfl rfl rfl rfl rfl rfl (by omega) (by omega) rfl ?_
        rw [hj]
        refine r_by2n (astep_store_o tab_ok rfl rfl rfl rfl (o' := 0) rfl rfl rfl rfl) rfl rfl rfl ?_
        repeat (first | refine thenA_normal ?_ | refine a_region ?_ | refine r_done' ?_)
        refine r_idxr tab_ok rfl rfl rfl rfl rfl rfl rfl rfl ⟨by omega, by rw [hclt, List.length_append]; exact Nat.lt_succ_self _⟩ rfl ?_
        refine r_by2n (astep_store_e (d := zD) (xd := nF (l[((i : Nat) : Int).toNat]'hi')) (r := nF (l[((i : Nat) : Int).toNat]'hi')) tab_ok rfl rfl rfl rfl (by rw [hclt, List.getElem?_append_right (Nat.le_refl _), Nat.sub_self]; rfl) rfl rfl rfl rfl rfl) rfl rfl rfl ?_
        repeat (first | refine thenA_normal ?_ | refine a_region ?_ | refine r_done ?_ | (refine r_id ?_; first | refine r_ev tab_ok rfl rfl rfl rfl byE rfl ?_))
        refine ⟨⟨i + 1, pre, cur ++ [l[i]], hlt', by omega, by rw [List.length_append, List.length_singleton]; omega, heq⟩, by dsimp only; omega, ?_⟩
        dsimp only
        rw [List.map_append]
        have e : (cur.map nF ++ [zD]).set ((((cur.map nF).length : Nat) : Int)).toNat (nF l[i]) = cur.map nF ++ [l[i]].map nF := by rw [hclt, List.set_append_right _ _ (Nat.le_refl _), Nat.sub_self]; rfl
        rw [← e]
        exact fits_conv byV byV
      · subst hb
        refine a_draw rfl [0, 0, 11, 0, 1, 1, 1, 1, 1, 1, 1, 1, 12, 1, 2] (by kernel_rfl) ?_
        repeat (first | (refine r_id ?_; first | refine r_ev tab_ok rfl rfl rfl rfl byE rfl ?_))
        refine r_byrd 1 (fun M2 h => astep_len_o tab_ok rfl rfl rfl (agree_at 0 h rfl rfl)) rfl rfl rfl rfl rfl ?_
        repeat (first | (refine r_id ?_; first | refine r_ev tab_ok rfl rfl rfl rfl byE rfl ?_) | refine r_len_o tab_ok rfl rfl rfl rfl rfl rfl rfl rfl ?_)
        refine r_idx_o tab_ok rfl rfl rfl rfl rfl rfl rfl rfl (by omega) (by omega) rfl ?_
        rw [hj]
        refine r_ld_o tab_ok rfl rfl rfl rfl rfl (o' := 0) rfl rfl rfl rfl rfl ?_
        repeat (first | (refine r_id ?_; first | refine r_ev tab_ok rfl rfl rfl rfl byE rfl ?_ | refine r_built tab_ok rfl rfl rfl rfl rfl rfl rfl rfl rfl ?_))
        refine r_bykp 1 (astep_append tab_ok rfl rfl rfl rfl rfl rfl (by rw [hcl]; simp; omega)) (agree_set rfl) rfl rfl rfl rfl rfl ?_
        refine r_idx_o tab_ok rfl rfl rfl rfl rfl rfl rfl rfl (by omega) (by omega) rfl ?_
        rw [hj]
        refine r_by2n (astep_store_o tab_ok rfl rfl rfl rfl (o' := 0) rfl rfl rfl rfl) rfl rfl rfl ?_
        repeat (first | refine thenA_normal ?_ | refine a_region ?_ | refine r_done ?_ | refine r_done' ?_ | (refine r_id ?_; first | refine r_ev tab_ok rfl rfl rfl rfl byE rfl ?_))
        refine ⟨⟨i + 1, pre, cur ++ [l[i]], hlt', by omega, by rw [List.length_append, List.length_singleton]; omega, heq⟩, by dsimp only; omega, ?_⟩
        dsimp only
        rw [List.map_append]
        exact fits_conv byV byV
  · rw [List.drop_of_length_le (by omega), splitG] at heq
    rw [← heq, List.map_append]
    refine awp_fits (s' := ⟨[.rowo 0 34 1 (pre.map nds) 1 [.sl 7 (cur.map nF)], .gone], [(3, .row 0 0)]⟩) (fits_conv byV byV) ?_
    refine awp_fits (fits_close (i := 0) (nds cur) 3 rfl rfl rfl (nds_fine cur)) ?_
    repeat (first | refine awp_seq ?_ | refine thenA_normal ?_ | refine a_region ?_ | refine awp_ret ?_ | refine awp_exit ?_ | refine r_done ?_ | (refine r_id ?_; first | refine r_ev tab_ok rfl rfl rfl rfl byE rfl ?_) | refine ret1 byO rfl rfl rfl ?_)
    exact Sub.refl _
end Go.Proofs.YtfmafehogfikmaaGreatDoor

/- prop.counted; walked. -/
namespace Go.Proofs.YtfmafehogfikmaaGreatDoor
open Go Go.RowKit
set_option maxRecDepth 20000

structure It where
  kind : Int
  text : ByteArray
  sep : ByteArray
  style : ByteArray
def itA (x : It) : AV := .agg [.val (.int .i64 x.kind), .val (.string x.text), .val (.string x.sep), .val (.string x.style)]
def itD (x : It) : D := .ag [.val (.int .i64 x.kind), .val (.string x.text), .val (.string x.sep), .val (.string x.style)]
def decS : ByteArray := ⟨#[100, 101, 99, 105, 109, 97, 108]⟩
/-- The style behind. -/
def ctSt (k : Int) (t s : ByteArray) : List (List Nd) → It × Bool
  | [] => (⟨k, t, s, decS⟩, true)
  | p :: _ => (⟨k, t, s, (styF p).1⟩, (styF p).2)
def ctP3 : List (List Nd) → It × Bool
  | [c] :: r => if r.length ≤ 1 then (if (cntF c).2 then ctSt 3 (cntF c).1 ⟨#[]⟩ r else (⟨3, (cntF c).1, ⟨#[]⟩, ⟨#[]⟩⟩, false)) else (⟨3, ⟨#[]⟩, ⟨#[]⟩, ⟨#[]⟩⟩, false)
  | _ => (⟨3, ⟨#[]⟩, ⟨#[]⟩, ⟨#[]⟩⟩, false)
def ctP4 : List (List Nd) → It × Bool
  | [c] :: b :: r =>
    if r.length ≤ 1 then
      (if (cntF c).2 then
        (match b with
        | [m] => if m.tok.kind = 5 then ctSt 4 (cntF c).1 m.tok.text r else (⟨4, (cntF c).1, ⟨#[]⟩, ⟨#[]⟩⟩, false)
        | _ => (⟨4, (cntF c).1, ⟨#[]⟩, ⟨#[]⟩⟩, false))
      else (⟨4, (cntF c).1, ⟨#[]⟩, ⟨#[]⟩⟩, false))
    else (⟨4, ⟨#[]⟩, ⟨#[]⟩, ⟨#[]⟩⟩, false)
  | _ => (⟨4, ⟨#[]⟩, ⟨#[]⟩, ⟨#[]⟩⟩, false)
theorem splitG_in : ∀ (l : List Nd) (pre : List (List Nd)) (cur : List Nd), ∀ p ∈ splitG l pre cur, p ∈ pre ∨ (nszs p ≤ nszs cur + nszs l ∧ ∀ n ∈ p, n ∈ cur ∨ n ∈ l)
  | [], pre, cur, p, h => by
    rw [splitG, List.mem_append, List.mem_singleton] at h
    rcases h with h | rfl
    · exact .inl h
    · exact .inr ⟨by omega, fun n hn => .inl hn⟩
  | n :: r, pre, cur, p, h => by
    rw [splitG] at h
    split at h
    · rcases splitG_in r _ _ p h with h2 | ⟨h2, h3⟩
      · rw [List.mem_append, List.mem_singleton] at h2
        rcases h2 with h2 | rfl
        · exact .inl h2
        · exact .inr ⟨by omega, fun n hn => .inl hn⟩
      · refine .inr ⟨by simp only [nszs] at h2 ⊢; omega, fun m hm => ?_⟩
        rcases h3 m hm with h4 | h4
        · cases h4
        · exact .inr (List.mem_cons_of_mem _ h4)
    · rcases splitG_in r _ _ p h with h2 | ⟨h2, h3⟩
      · exact .inl h2
      · refine .inr ⟨by rw [nszs_append] at h2; simp only [nszs] at h2 ⊢; omega, fun m hm => ?_⟩
        rcases h3 m hm with h4 | h4
        · rw [List.mem_append, List.mem_singleton] at h4
          rcases h4 with h4 | rfl
          · exact .inl h4
          · exact .inr (List.mem_cons_self)
        · exact .inr (List.mem_cons_of_mem _ h4)
theorem splitF_in {l p : List Nd} (h : p ∈ splitF l) : nszs p ≤ nszs l ∧ ∀ n ∈ p, n ∈ l := by
  rcases splitG_in l [] [] p h with h | ⟨h1, h2⟩
  · cases h
  · refine ⟨by simp only [nszs] at h1; omega, fun n hn => ?_⟩
    rcases h2 n hn with h | h
    · cases h
    · exact h
end Go.Proofs.YtfmafehogfikmaaGreatDoor

/- Styles; what prop says, plain. -/
namespace Go.Proofs.YtfmafehogfikmaaGreatDoor
open Go Go.RowKit
set_option maxRecDepth 20000

def qtS : ByteArray := ⟨#[111, 112, 101, 110, 45, 113, 117, 111, 116, 101, 32, 99, 108, 111, 115, 101, 45, 113, 117, 111, 116, 101, 32, 110, 111, 45, 111, 112, 101, 110, 45, 113, 117, 111, 116, 101, 32, 110, 111, 45, 99, 108, 111, 115, 101, 45, 113, 117, 111, 116, 101]⟩
def atS : ByteArray := ⟨#[97, 116, 116, 114]⟩
def ctrS : ByteArray := ⟨#[99, 111, 117, 110, 116, 101, 114]⟩
def ctsS : ByteArray := ⟨#[99, 111, 117, 110, 116, 101, 114, 115]⟩
def itZ : It := ⟨0, ⟨#[]⟩, ⟨#[]⟩, ⟨#[]⟩⟩
def itemF2 (n : Nd) (l : List Nd) : It × Bool :=
  if isFn n ctrS then ctP3 (splitF l) else
  if isFn n ctsS then ctP4 (splitF l) else (itZ, false)
def itemF1 (n : Nd) : List Nd → It × Bool
  | [m] => if isFn n atS then (⟨2, (idnF m).1, ⟨#[]⟩, ⟨#[]⟩⟩, (idnF m).2) else itemF2 n [m]
  | l => itemF2 n l
def itemF (n : Nd) : It × Bool :=
  if n.tok.kind = 5 then (⟨1, n.tok.text, ⟨#[]⟩, ⟨#[]⟩⟩, true) else
  if (idnF n).2 && inW qtS (idnF n).1 then (⟨4 + (idxF (fldF qtS) (idnF n).1 + 1), ⟨#[]⟩, ⟨#[]⟩, ⟨#[]⟩⟩, true) else
  itemF1 n (tigF n.kids)
theorem tigF_sz : ∀ l : List Nd, nszs (tigF l) ≤ nszs l
  | [] => Nat.le_refl _
  | n :: r => by
    have := tigF_sz r
    simp only [tigF, List.filter_cons] at this ⊢
    split
    · simp only [nszs]; omega
    · simp only [nszs]; omega
structure Sty where
  disp : ByteArray
  lty : ByteArray
  col : ByteArray
  cont : List It
  normal : Bool
  nothing : Bool
  quotes : List ByteArray
  auto : Bool
  reset : List Pr
  add : List Pr
  set : List Pr
def zS : Sty := ⟨⟨#[]⟩, ⟨#[]⟩, ⟨#[]⟩, [], false, false, [], false, [], [], []⟩
def stC (s : Sty) : List AV := [.val (.string s.disp), .val (.string s.lty), .val (.string s.col), .sl 4 (s.cont.map itD), .val (.bool s.normal), .val (.bool s.nothing), .sl 1 (s.quotes.map sF), .val (.bool s.auto), .sl 4 (s.reset.map prD), .sl 4 (s.add.map prD), .sl 4 (s.set.map prD)]
def stA (s : Sty) : AV := .agg (stC s)
def stD (s : Sty) : D := .ag [.val (.string s.disp), .val (.string s.lty), .val (.string s.col), .sl 4 (s.cont.map itD), .val (.bool s.normal), .val (.bool s.nothing), .sl 1 (s.quotes.map sF), .val (.bool s.auto), .sl 4 (s.reset.map prD), .sl 4 (s.add.map prD), .sl 4 (s.set.map prD)]
def norS : ByteArray := ⟨#[110, 111, 114, 109, 97, 108]⟩
def autS : ByteArray := ⟨#[97, 117, 116, 111]⟩
def conF1 : List Nd → List It → Option (List It)
  | [], acc => some acc
  | n :: r, acc => if (itemF n).2 then conF1 r (acc ++ [(itemF n).1]) else none
def conF (l : List Nd) : Option Sty :=
  if aloF l = norS then some { zS with normal := true } else
  if aloF l = nonS then some { zS with nothing := true } else
  match conF1 l [] with
  | none => none
  | some a => if l.length ≤ 32 then some { zS with cont := a } else none
def marF1 : List Nd → List ByteArray → Option (List ByteArray)
  | [], acc => some acc
  | n :: r, acc => if n.tok.kind = 5 then marF1 r (acc ++ [n.tok.text]) else none
def marF (l : List Nd) : Option Sty :=
  if aloF l = nonS then some zS else
  if aloF l = autS then some { zS with auto := true } else
  match marF1 l [] with
  | none => none
  | some a => if l.length % 2 = 0 ∧ l.length ≤ 32 then some { zS with quotes := a } else none
def colS : ByteArray := ⟨#[99, 111, 108, 111, 114]⟩
def conS : ByteArray := ⟨#[99, 111, 110, 116, 101, 110, 116]⟩
def incS : ByteArray := ⟨#[99, 111, 117, 110, 116, 101, 114, 45, 105, 110, 99, 114, 101, 109, 101, 110, 116]⟩
def rstS : ByteArray := ⟨#[99, 111, 117, 110, 116, 101, 114, 45, 114, 101, 115, 101, 116]⟩
def setS : ByteArray := ⟨#[99, 111, 117, 110, 116, 101, 114, 45, 115, 101, 116]⟩
def dspS : ByteArray := ⟨#[100, 105, 115, 112, 108, 97, 121]⟩
def lstS : ByteArray := ⟨#[108, 105, 115, 116, 45, 115, 116, 121, 108, 101, 45, 116, 121, 112, 101]⟩
def quoS : ByteArray := ⟨#[113, 117, 111, 116, 101, 115]⟩
def namN : ByteArray := ⟨([99, 111, 108, 111, 114, 32, 99, 111, 110, 116, 101, 110, 116, 32, 99, 111, 117, 110, 116, 101, 114, 45, 105, 110, 99, 114, 101, 109, 101, 110, 116, 32, 99, 111, 117, 110, 116, 101, 114, 45, 114, 101, 115, 101].append [116, 32, 99, 111, 117, 110, 116, 101, 114, 45, 115, 101, 116, 32, 100, 105, 115, 112, 108, 97, 121, 32, 108, 105, 115, 116, 45, 115, 116, 121, 108, 101, 45, 116, 121, 112, 101, 32, 113, 117, 111, 116, 101, 115]).toArray⟩
def widN : ByteArray := ⟨#[105, 110, 104, 101, 114, 105, 116, 32, 105, 110, 105, 116, 105, 97, 108, 32, 117, 110, 115, 101, 116]⟩
def disN : ByteArray := ⟨#[110, 111, 110, 101, 32, 98, 108, 111, 99, 107, 32, 105, 110, 108, 105, 110, 101, 32, 108, 105, 115, 116, 45, 105, 116, 101, 109]⟩
def colF : List Nd → Option Sty
  | [n] => if (idnF n).2 then some { zS with col := (idnF n).1 } else none
  | _ => none
def sayF (nm : ByteArray) (l : List Nd) : Option Sty :=
  if nm = colS then colF l else
  if nm = conS then conF l else
  if nm = incS then (if (pairsF l 1 false).2 then some { zS with add := (pairsF l 1 false).1 } else none) else
  if nm = rstS then (if (pairsF l 0 true).2 then some { zS with reset := (pairsF l 0 true).1 } else none) else
  if nm = setS then (if (pairsF l 0 false).2 then some { zS with set := (pairsF l 0 false).1 } else none) else
  if nm = dspS then (if inW disN (aloF l) then some { zS with disp := aloF l } else none) else
  if nm = lstS then (if (ltyF1 l).2 then some { zS with lty := (ltyF1 l).1 } else none) else
  if nm = quoS then marF l else none
def namL : List ByteArray := [colS, conS, incS, rstS, setS, dspS, lstS, quoS]
structure Val where
  name : ByteArray
  wide : Int
  sty : Sty
def vC (v : Val) : List AV := .val (.string v.name) :: .val (.int .i64 v.wide) :: stC v.sty
def vA (v : Val) : AV := .agg (vC v)
def zV : Val := ⟨⟨#[]⟩, 0, zS⟩
def parF1 (nm : ByteArray) (l : List Nd) : Val × Int :=
  if ¬ inW namN nm ∨ l.length = 0 then (zV, 2) else
  if idxF (fldF widN) (aloF l) + 1 = 0 then
    (match sayF nm l with
    | none => (zV, 2)
    | some s => (⟨nm, 0, s⟩, 0))
  else (⟨nm, idxF (fldF widN) (aloF l) + 1, zS⟩, 0)
def parF (nm : ByteArray) (v : List Nd) : Val × Int := parF1 nm (tigF v)
end Go.Proofs.YtfmafehogfikmaaGreatDoor
