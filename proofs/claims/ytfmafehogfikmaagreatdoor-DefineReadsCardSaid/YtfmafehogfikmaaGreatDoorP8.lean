import Derived.Test.YtfmafehogfikmaaGreatDoorU5
import Derived.Test.YtfmafehogfikmaaGreatDoorF4
import Derived.Test.YtfmafehogfikmaaGreatDoorL0
import Derived.Test.YtfmafehogfikmaaGreatDoorWd
import Derived.Test.YtfmafehogfikmaaGreatDoorJa
/- nest.Copy as one handed back; slices.IndexFunc, DeleteFunc over nodes; nest.Tight. -/
namespace Go.Proofs.YtfmafehogfikmaaGreatDoor
open Go Go.RowKit
set_option maxRecDepth 20000

set_option maxHeartbeats 1000000 in
theorem copyM_ok (l : List Nd) (hn : u4 l < 1099511627776) : u3 Tryz.prog 60 [] [.sl 7 (l.map nF)] [.row 0 50 7 (l.map nF)] (.row 0 0) := by
  refine mcalls_ofn Tryz.func60 Tryz.ntmps60 rfl rfl rfl 1 (by decide) fun S w β => ?_
  have hll := u7 l
  have hlm : (l.map nF).length = l.length := List.length_map _
  repeat (first | refine ue ?_ | refine ud ?_ | refine uf ?_ | (refine ug ?_; first | refine uh tab_ok rfl rfl rfl rfl byE rfl ?_))
  refine r_rcall (cloneN_ok l (by omega)) call93 rfl rfl ⟨Sub.refl _, trivial⟩ rfl rfl rfl rfl rfl rfl ?_
  repeat (first | refine ue ?_ | refine uc ?_ | refine um ?_ | refine ud ?_ | refine uf ?_ | (refine ug ?_; first | refine uh tab_ok rfl rfl rfl rfl byE rfl ?_ | refine uJ tab_ok rfl rfl rfl rfl rfl ?_))
  refine uV (σ := {i : Nat // i ≤ l.length}) (fun x => [.row 0 50 7 (l.map nF)]) (fun x => [(3, .row 0 0), (7, .row 0 0), (8, .val (.int .i64 l.length)), (9, .val (.int .i64 x.1))]) (fun x => l.length - x.1) ⟨0, Nat.zero_le _⟩ (uy byV ⟨xl rfl rfl rfl, xl rfl rfl rfl, vb rfl (Sub.of_eq (by rw [← hlm]; rfl)) rfl, vb rfl (Sub.refl _) rfl, trivial⟩) ?_
  rintro ⟨i, hi⟩
  dsimp only
  repeat (first | refine ue ?_ | refine ud ?_ | refine uf ?_ | (refine ug ?_; first | refine uh tab_ok rfl rfl rfl rfl byE rfl ?_))
  refine uo rfl (fun hlt => ?_) (fun hge => ?_)
  · have hlt' : i < l.length := by omega
    have hi' : ((i : Nat) : Int).toNat < l.length := by simp only [Int.toNat_natCast]; exact hlt'
    have hk := zL hlt'
    have ih' : uI Tryz.prog 60 [.sl 7 ((l[((i : Nat) : Int).toNat]'hi').kids.map nD)] (.sl 7 ((l[((i : Nat) : Int).toNat]'hi').kids.map nD)) := by
      rw [nD_fun]
      refine copy_ok 1099511627776 _ ?_ (by omega)
      simp only [Int.toNat_natCast]
      omega
    repeat (first | refine ue ?_ | refine uc ?_ | refine um ?_ | refine ud ?_ | refine uj ?_ | refine uf ?_ | (refine ug ?_; first | refine uh tab_ok rfl rfl rfl rfl byE rfl ?_ | refine w5 tab_ok rfl rfl rfl rfl rfl rfl rfl rfl (by first | exact ⟨by omega, by omega⟩ | (simp; omega)) rfl ?_ | refine xC tab_ok rfl rfl rfl rfl rfl rfl rfl rfl ?_ | refine qb tab_ok rfl rfl rfl rfl rfl (by omega) rfl rfl rfl rfl ?_))
    refine uw ih' kn rfl rfl ⟨Sub.refl _, trivial⟩ rfl rfl rfl rfl ?_
    repeat (first | (refine ug ?_; first | refine w5 tab_ok rfl rfl rfl rfl rfl rfl rfl rfl (by first | exact ⟨by omega, by omega⟩ | (simp; omega)) rfl ?_ | refine xC tab_ok rfl rfl rfl rfl rfl rfl rfl rfl ?_))
    refine r_ste tab_ok (l[((i : Nat) : Int).toNat]'hi') rfl rfl rfl rfl rfl hi' rfl rfl rfl rfl rfl rfl ?_
    rw [List.set_getElem_self]
    repeat (first | refine uc ?_ | refine ud ?_ | refine uf ?_ | (refine ug ?_; first | refine uh tab_ok rfl rfl rfl rfl byE rfl ?_))
    exact ⟨⟨i + 1, hlt'⟩, by dsimp only; omega, uy byV byV⟩
  · repeat (first | refine ue ?_ | refine uc ?_ | refine ud ?_ | refine uC ?_ | refine uf ?_ | (refine ug ?_; first | refine uh tab_ok rfl rfl rfl rfl byE rfl ?_))
    refine ve (s' := ⟨[.row 0 50 7 (l.map nF)], [(2, .row 0 0)]⟩) (uy byV ⟨xl rfl rfl rfl, trivial⟩) ?_
    repeat (first | refine uk ?_ | refine wA byO rfl rfl rfl rfl rfl ?_)
    exact Sub.refl _

/-- The node that says nothing. -/
def nZ : D := .ag [.val (.int .i64 0), .val (.string ⟨#[]⟩), .val (.int .i64 0), .val (.bool false), .val (.bool false), .val (.bool false), .sl 7 []]
theorem nZ_den (w : World) (imm : Nat → Prop) : DenC w imm nZ [.int .i64 0, .string ⟨#[]⟩, .int .i64 0, .bool false, .bool false, .bool false, .slice none 0 0] :=
  ⟨[_], _, rfl, ⟨rfl, rfl⟩, [_], _, rfl, ⟨rfl, rfl⟩, [_], _, rfl, ⟨rfl, rfl⟩, [_], _, rfl, ⟨rfl, rfl⟩, [_], _, rfl, ⟨rfl, rfl⟩, [_], _, rfl, ⟨rfl, rfl⟩, [_], [], rfl, ⟨none, 0, 0, rfl, rfl, Nat.le_refl _, Nat.zero_le _, (fun _ h => nomatch h), fun h => absurd h (Nat.lt_irrefl 0)⟩, rfl⟩
theorem nZ_one : ∀ u ∈ [Value.int .i64 0, .string ⟨#[]⟩, .int .i64 0, .bool false, .bool false, .bool false, .slice none 0 0], u.oneCell' = true := by
  intro u hu
  simp only [List.mem_cons, List.not_mem_nil, or_false] at hu
  rcases hu with rfl | rfl | rfl | rfl | rfl | rfl | rfl <;> rfl
theorem findN_ok (l : List Nd) (p : Nd → Bool) (f : FuncId) (caps : List AV) (hl : l.length ≤ 4611686018427387904) (hcall : uz Tryz.prog f) (hcf : AV.frees caps = true) (hp : ∀ s ∈ l, uI Tryz.prog f (nA s :: caps) (.val (.bool (p s)))) :
    uI Tryz.prog 101 [.sl 7 (l.map nF), .cl f caps] (.val (.int .i64 (zE p l))) := by
  refine uP Tryz.func101 Tryz.ntmps101 rfl rfl rfl fun S w => ?_
  repeat (first | refine ue ?_ | refine uc ?_ | refine um ?_ | refine ud ?_ | refine uf ?_ | (refine ug ?_; first | refine uG tab_ok rfl rfl rfl rfl rfl rfl rfl ?_ | refine uh tab_ok rfl rfl rfl rfl byE rfl ?_))
  refine uV (σ := {i : Nat // i ≤ l.findIdx p}) (fun _ => []) (fun x => [(0, .sl 7 (l.map nF)), (1, .cl f caps), (7, .val (.int .i64 l.length)), (8, .val (.int .i64 x.1))]) (fun x => l.length - x.1) ⟨0, Nat.zero_le _⟩
    (u5 rfl ⟨Sub.refl _, Sub.refl _, Sub.refl _, Sub.refl _, trivial⟩) ?_
  rintro ⟨i, hi⟩
  dsimp only
  have hle := List.findIdx_le_length (p := p) (xs := l)
  repeat (first | refine ue ?_ | refine ud ?_ | refine uf ?_ | (refine ug ?_; first | refine uh tab_ok rfl rfl rfl rfl byE rfl ?_))
  refine uo rfl (fun hlt => ?_) (fun hge => ?_)
  · have hi' : i < l.length := by omega
    repeat (first | refine ue ?_ | refine um ?_ | refine ud ?_ | refine uj ?_ | refine uf ?_ | (refine ug ?_; first | refine uh tab_ok rfl rfl rfl rfl byE rfl ?_ | refine vf tab_ok rfl rfl rfl rfl rfl rfl rfl (by first | exact ⟨by omega, by omega⟩ | (simp; omega)) rfl rfl ?_))
    simp only [Int.toNat_natCast]
    refine r_callv (hp l[i] (List.getElem_mem hi')) hcall rfl rfl rfl ⟨Sub.refl _, z8 _⟩ (by simp [nA, ncl, AV.frees, AV.free, hcf]) rfl rfl rfl ?_
    repeat (first | refine uc ?_ | refine uf ?_)
    refine uA rfl (fun hb => ?_) (fun hb => ?_)
    · repeat (first | refine ue ?_ | refine uc ?_ | refine ud ?_ | refine uk ?_ | refine un ?_ | refine uu ?_ | refine uf ?_ | (refine ug ?_; first | refine uh tab_ok rfl rfl rfl rfl byE rfl ?_) | refine vB byO rfl rfl rfl ?_)
      have : l.findIdx p = i := by
        rcases Nat.lt_or_eq_of_le hi with h | h
        · have := List.not_of_lt_findIdx h
          simp_all
        · exact h.symm
      exact Sub.of_eq (by rw [zE, if_pos (by omega), this])
    · have : l.findIdx p ≠ i := fun h => by
        have := List.findIdx_getElem (p := p) (xs := l) (w := by omega)
        simp only [h] at this
        simp_all
      repeat (first | refine uc ?_ | refine ud ?_ | refine uj ?_ | refine uf ?_ | (refine ug ?_; first | refine uh tab_ok rfl rfl rfl rfl byE rfl ?_))
      exact ⟨⟨i + 1, by omega⟩, by dsimp only; omega, u5 rfl ⟨Sub.refl _, Sub.refl _, Sub.refl _, Sub.refl _, trivial⟩⟩
  · repeat (first | refine ue ?_ | refine uc ?_ | refine ud ?_ | refine uk ?_ | refine uC ?_ | refine uf ?_ | (refine ug ?_; first | refine uh tab_ok rfl rfl rfl rfl byE rfl ?_) | refine vB byO rfl rfl rfl ?_)
    exact Sub.of_eq (by rw [zE, if_neg (by omega)])
/-- A row while elements are struck out. -/
structure DSn (p : Nd → Bool) (l : List Nd) where
  j : Nat
  X : List Nd
  hj : j ≤ l.length
  hl : ((l.take j).filter (fun x => !p x)).length + X.length = j
  hX : 0 < X.length
def DSn.K {p : Nd → Bool} {l : List Nd} (x : DSn p l) : List Nd := (l.take x.j).filter (fun x => !p x)
def DSn.cur {p : Nd → Bool} {l : List Nd} (x : DSn p l) : List Nd := x.K ++ (x.X ++ l.drop x.j)
theorem filter_findN {p : Nd → Bool} {l : List Nd} {i : Nat} (h : l.findIdx p = i) (hi : i < l.length) : ((l.take (i + 1)).filter (fun x => !p x)) = l.take i := by
  rw [List.take_add_one, List.getElem?_eq_getElem hi, List.filter_append, List.filter_eq_self.2]
  · have := List.findIdx_getElem (p := p) (xs := l) (w := by omega)
    simp only [h] at this
    simp [this]
  · intro a ha
    obtain ⟨k, hk, rfl⟩ := List.mem_take_iff_getElem.1 ha
    have : k < l.findIdx p := by omega
    have := List.not_of_lt_findIdx this
    simpa using this
set_option maxHeartbeats 1000000 in
theorem deleteN_ok (l : List Nd) (p : Nd → Bool) (f : FuncId) (caps : List AV) (hl : l.length ≤ 1099511627776) (hcall : uz Tryz.prog f) (hcf : AV.frees caps = true) (hcu : AV.unders 1 caps = true) (hp : ∀ s ∈ l, uI Tryz.prog f (nA s :: caps) (.val (.bool (p s)))) :
    u3 Tryz.prog 68 [.row 0 50 7 (l.map nF)] [.row 0 0, .cl f caps] [.row 2 50 7 ((l.filter (fun x => !p x)).map nF)] (.row 0 2) := by
  refine vu Tryz.func68 Tryz.ntmps68 rfl rfl rfl fun S w β => ?_
  have hlm : (l.map nF).length = l.length := List.length_map _
  have hle := List.findIdx_le_length (p := p) (xs := l)
  repeat (first | refine ue ?_ | refine ud ?_ | refine uf ?_ | (refine ug ?_; first | refine uh tab_ok rfl rfl rfl rfl byE rfl ?_))
  refine vV [0] (mcalls_lend (xs := [.row 0 0, .cl f caps]) (M0 := [.row 0 50 7 (l.map nF)]) (findN_ok l p f caps (by omega) hcall hcf hp) ⟨.inr ⟨0, 0, _, 7, _, rfl, rfl, rfl⟩, .inl ⟨rfl, hcf⟩, trivial⟩ rfl) call101 rfl rfl ⟨rfl, trivial⟩ (by decide) ⟨Sub.refl _, ?_, trivial⟩ ?_ rfl rfl rfl rfl rfl ?_
  · exact Sub.of_eq (by show AV.cl f caps = .cl f (AV.rens _ caps); rw [yJ _ _ hcf])
  · show (((true && (AV.unders 1 caps && true)) && true) = true)
    rw [hcu]
    rfl
  repeat (first | refine ue ?_ | refine uc ?_ | refine ud ?_ | refine uf ?_ | (refine ug ?_; first | refine uh tab_ok rfl rfl rfl rfl byE rfl ?_))
  refine uo rfl (fun hno => ?_) (fun hyes => ?_)
  · have hall : l.filter (fun x => !p x) = l := by
      have : l.findIdx p = l.length := by
        rw [zE] at hno
        split at hno
        · omega
        · omega
      rw [List.filter_eq_self]
      intro a ha
      obtain ⟨k, hk, rfl⟩ := List.mem_iff_getElem.1 ha
      have := List.not_of_lt_findIdx (p := p) (xs := l) (i := k) (by omega)
      simpa using this
    rw [hall]
    repeat (first | refine ue ?_ | refine uc ?_ | refine ud ?_ | refine uk ?_ | refine un ?_ | refine uf ?_ | (refine ug ?_; first | refine uh tab_ok rfl rfl rfl rfl byE rfl ?_))
    exact vj [.row 2 50 7 (l.map nF)] [(4, .row 0 2)] (ul byV byV ⟨.inr (by decide), trivial⟩) byO rfl rfl rfl rfl rfl (Sub.refl _)
  · obtain ⟨i, hi⟩ : ∃ i, l.findIdx p = i := ⟨_, rfl⟩
    have hil : i < l.length := by
      rw [zE, hi] at hyes
      split at hyes
      · assumption
      · exact absurd rfl hyes
    have hfr : zE p l = i := by rw [zE, hi, if_pos hil]
    have hfe := filter_findN hi hil
    have hti : (l.take i).length = i := by rw [List.length_take]; omega
    rw [hfr]
    repeat (first | refine ue ?_ | refine uc ?_ | refine um ?_ | refine ud ?_ | refine uj ?_ | refine uf ?_ | (refine ug ?_; first | refine uh tab_ok rfl rfl rfl rfl byE rfl ?_))
    refine uV (σ := DSn p l) (fun x => [.row 0 50 7 (x.cur.map nF)]) (fun x => [(0, .row 0 0), (1, .cl f caps), (5, .val (.int .i64 (x.K.length : Nat))), (6, .val (.int .i64 x.j))]) (fun x => l.length - x.j)
      ⟨i + 1, [l[i]], by omega, by rw [hfe, hti]; rfl, Nat.one_pos⟩ ?_ ?_
    · have hcur : (⟨i + 1, [l[i]], by omega, by rw [hfe, hti]; rfl, Nat.one_pos⟩ : DSn p l).cur = l := by
        show (l.take (i + 1)).filter (fun x => !p x) ++ ([l[i]] ++ l.drop (i + 1)) = l
        rw [hfe, List.singleton_append, List.getElem_cons_drop, List.take_append_drop]
      rw [hcur]
      exact u5 rfl ⟨Sub.refl _, Sub.refl _, Sub.of_eq (by show AV.val (.int .i64 (i : Int)) = .val (.int .i64 ((((l.take (i + 1)).filter (fun x => !p x)).length : Nat) : Int)); rw [hfe, hti]), Sub.refl _, trivial⟩
    rintro ⟨j, X, hj, hlen, hX⟩
    dsimp only [DSn.cur, DSn.K]
    obtain ⟨K, hK⟩ : ∃ K, K = (l.take j).filter (fun x => !p x) := ⟨_, rfl⟩
    rw [← hK] at hlen ⊢
    have hcl : (K ++ (X ++ l.drop j)).length = l.length := by simp; omega
    have hclm : ((K ++ (X ++ l.drop j)).map nF).length = l.length := by rw [List.length_map, hcl]
    repeat (first | refine ue ?_ | refine uc ?_ | refine ud ?_ | refine uf ?_ | (refine ug ?_; first | refine uh tab_ok rfl rfl rfl rfl byE rfl ?_ | refine uJ tab_ok rfl rfl rfl rfl rfl ?_))
    refine uo rfl (fun hlt => ?_) (fun hge => ?_)
    · have hj' : j < l.length := by omega
      have hjc : j < (K ++ (X ++ l.drop j)).length := by omega
      have hget : (K ++ (X ++ l.drop j))[j]'hjc = l[j] := by
        rw [List.getElem_append_right (by omega), List.getElem_append_right (by omega), List.getElem_drop]
        congr 1
        omega
      repeat (first | refine ue ?_ | refine um ?_ | refine ud ?_ | refine uj ?_ | refine uf ?_ | (refine ug ?_; first | refine uh tab_ok rfl rfl rfl rfl byE rfl ?_ | refine uJ tab_ok rfl rfl rfl rfl rfl ?_ | refine vp tab_ok rfl rfl rfl rfl rfl ?_ | refine uM tab_ok rfl rfl rfl rfl ?_ | refine w5 tab_ok rfl rfl rfl rfl rfl rfl rfl rfl (by first | exact ⟨by omega, by omega⟩ | (simp; omega)) rfl ?_ | refine qb tab_ok rfl rfl rfl rfl rfl (by omega) rfl rfl rfl rfl ?_))
      simp only [Int.toNat_natCast]
      rw [hget]
      have htk : (l.take (j + 1)).filter (fun x => !p x) = K ++ (if p l[j] then [] else [l[j]]) := by
        rw [List.take_add_one, List.getElem?_eq_getElem hj', List.filter_append, ← hK]
        cases hq : p l[j] <;> simp [hq]
      have hdr : l.drop j = l[j] :: l.drop (j + 1) := List.drop_eq_getElem_cons hj'
      refine r_callv (hp l[j] (List.getElem_mem hj')) hcall rfl rfl rfl ⟨Sub.refl _, z8 _⟩ (by simp [nA, ncl, AV.frees, AV.free, hcf]) rfl rfl rfl ?_
      repeat (first | refine uc ?_ | refine uf ?_ | (refine ug ?_; first | refine uh tab_ok rfl rfl rfl rfl byE rfl ?_))
      cases hpj : p l[j] with
      | true =>
        rw [hpj, if_pos rfl, List.append_nil] at htk
        repeat (first | refine uc ?_ | refine ud ?_ | refine uj ?_ | refine uf ?_ | (refine ug ?_; first | refine uh tab_ok rfl rfl rfl rfl byE rfl ?_) | refine ur rfl ?_)
        refine ⟨⟨j + 1, X ++ [l[j]], by omega, by rw [htk, List.length_append, List.length_singleton]; omega, by simp⟩, by dsimp only; omega, ?_⟩
        dsimp only [DSn.cur, DSn.K]
        have hh : X ++ [l[j]] ++ l.drop (j + 1) = X ++ l.drop j := by rw [List.append_assoc, List.singleton_append, ← hdr]
        rw [htk, hh]
        exact u2 1 rfl rfl ⟨⟨rfl, Sub.refl _⟩, ⟨hcu, Sub.refl _⟩, ⟨rfl, Sub.refl _⟩, ⟨rfl, Sub.refl _⟩, trivial⟩
      | false =>
        rw [hpj, if_neg Bool.false_ne_true] at htk
        obtain ⟨x0, X2, rfl⟩ : ∃ x0 X2, X = x0 :: X2 := by
          cases X with
          | nil => exact absurd hX (by simp)
          | cons x X => exact ⟨x, X, rfl⟩
        have hset : (K ++ (x0 :: X2 ++ l.drop j)).set K.length l[j] = (K ++ [l[j]]) ++ ((X2 ++ [l[j]]) ++ l.drop (j + 1)) := by
          rw [List.set_append_right _ _ (Nat.le_refl _), Nat.sub_self, List.cons_append, List.set_cons_zero, hdr]
          simp
        repeat (first | refine ue ?_ | refine ud ?_ | (refine ug ?_; first | refine uh tab_ok rfl rfl rfl rfl byE rfl ?_ | refine uJ tab_ok rfl rfl rfl rfl rfl ?_ | refine w5 tab_ok rfl rfl rfl rfl rfl rfl rfl rfl (by first | exact ⟨by omega, by omega⟩ | (simp; omega)) rfl ?_) | refine uq rfl ?_)
        refine r_ste tab_ok l[j] rfl rfl rfl rfl rfl (by simp only [Int.toNat_natCast]; simp) rfl rfl rfl rfl rfl rfl ?_
        simp only [Int.toNat_natCast]
        rw [hset]
        repeat (first | refine uc ?_ | refine ud ?_ | refine uf ?_ | (refine ug ?_; first | refine uh tab_ok rfl rfl rfl rfl byE rfl ?_))
        refine ⟨⟨j + 1, X2 ++ [l[j]], by omega, by rw [htk, List.length_append, List.length_append, List.length_singleton]; simp at hlen ⊢; omega, by simp⟩, by dsimp only; omega, ?_⟩
        dsimp only [DSn.cur, DSn.K]
        rw [htk]
        exact u2 1 rfl rfl ⟨⟨rfl, Sub.refl _⟩, ⟨hcu, Sub.refl _⟩, ⟨rfl, Sub.of_eq (by show AV.val (.int .i64 ((K.length : Int) + 1)) = .val (.int .i64 (((K ++ [l[j]]).length : Nat) : Int)); rw [List.length_append]; rfl)⟩, ⟨rfl, Sub.refl _⟩, trivial⟩
    · have hjl : j = l.length := by omega
      subst hjl
      rw [List.take_length] at hK
      rw [List.drop_length, List.append_nil] at hcl hclm ⊢
      rw [← hK]
      have hne : (K ++ X).map nF ≠ [] := by
        cases X with
        | nil => exact absurd hX (by simp)
        | cons x X => simp
      repeat (first | refine ue ?_ | refine ud ?_ | refine uC ?_ | (refine ug ?_; first | refine uh tab_ok rfl rfl rfl rfl byE rfl ?_))
      refine r_by1 (astep_sfx tab_ok rfl rfl rfl rfl hne rfl ⟨by omega, by rw [List.length_map, List.length_append]; omega⟩) rfl rfl rfl rfl rfl ?_
      refine r_by2n (astep_clear_n (zD := nZ) tab_ok rfl rfl (by decide) rfl rfl nZ_den nZ_one rfl (by simp only [Int.toNat_natCast]; rw [List.length_map, List.length_append]; omega) rfl rfl) rfl rfl rfl ?_
      simp only [Int.toNat_natCast]
      have he : (((K ++ X).map nF).take K.length ++ List.replicate (((K ++ X).map nF).length - K.length) nZ).take K.length = K.map nF := by
        rw [List.take_append_of_le_length (by rw [List.length_take, List.length_map, List.length_append]; omega), List.take_take, Nat.min_self, List.map_append, List.take_append_of_le_length (by rw [List.length_map]; exact Nat.le_refl _), List.take_of_length_le (by rw [List.length_map]; exact Nat.le_refl _)]
      have hne2 : ((K ++ X).map nF).take K.length ++ List.replicate (((K ++ X).map nF).length - K.length) nZ ≠ [] := by
        intro h
        have h2 := congrArg List.length h
        rw [List.length_append, List.length_take, List.length_replicate, List.length_map, List.length_append, List.length_nil] at h2
        omega
      repeat (first | refine ue ?_ | refine ud ?_ | refine uf ?_ | (refine ug ?_; first | refine uh tab_ok rfl rfl rfl rfl byE rfl ?_))
      refine r_by2 (astep_cut_row tab_ok rfl rfl rfl rfl hne2 rfl rfl (m := K.length) rfl (by rw [List.length_append, List.length_take, List.length_map, List.length_append]; omega)) rfl rfl rfl rfl rfl ?_
      rw [he]
      repeat (first | refine uc ?_ | refine uk ?_ | refine uf ?_ | (refine ug ?_; first | refine uh tab_ok rfl rfl rfl rfl byE rfl ?_))
      exact vj [.row 2 50 7 (K.map nF)] [(4, .row 0 2)] (u5 rfl ⟨Sub.refl _, trivial⟩) byO rfl rfl rfl rfl rfl (Sub.refl _)
/-- nest.Tight. -/
theorem tight_ok (l : List Nd) (hn : u4 l < 1099511627776) : uI Tryz.prog 37 [.sl 7 (l.map nF)] (.sl 7 ((l.filter (fun n => !whN n)).map nF)) := by
  refine uP Tryz.func37 Tryz.ntmps37 rfl rfl rfl fun S w => ?_
  have hll := u7 l
  have hlm : (l.map nF).length = l.length := List.length_map _
  repeat (first | refine ue ?_ | refine ud ?_ | refine uf ?_ | (refine ug ?_; first | refine uh tab_ok rfl rfl rfl rfl byE rfl ?_))
  refine r_rcall (copyM_ok l hn) kn rfl rfl ⟨Sub.refl _, trivial⟩ rfl rfl rfl rfl rfl rfl ?_
  refine vr [0] (deleteN_ok l whN 59 [] (by omega) call59 rfl rfl (fun n _ => White_ok n)) call68 rfl rfl ⟨rfl, trivial⟩ (by decide) ⟨Sub.refl _, Sub.refl _, trivial⟩ rfl rfl rfl rfl rfl rfl rfl ?_
  repeat (first | refine uc ?_ | refine uk ?_ | refine uf ?_ | (refine ug ?_; first | refine uh tab_ok rfl rfl rfl rfl byE rfl ?_) | refine wH byO rfl rfl rfl ?_)
  exact Sub.refl _
end Go.Proofs.YtfmafehogfikmaaGreatDoor

/- define.among, Canon, Name; prop.style, listType; walked. -/
namespace Go.Proofs.YtfmafehogfikmaaGreatDoor
open Go Go.RowKit
set_option maxRecDepth 20000

theorem v4 {p : Prop} [Decidable p] (h : p) : (!decide p) = false := by rw [decide_eq_true h]; rfl
theorem xg {p : Prop} [Decidable p] (h : ¬ p) : (!decide p) = true := by rw [decide_eq_false h]; rfl
def xq (all w : ByteArray) : Bool := (yZ all).any fun x => decide (w = x)
theorem among_ok (all w : ByteArray) (hs : all.size ≤ 1099511627776) (hp : plainS all = true) : uI Tryz.prog 29 [.val (.string all), .val (.string w)] (.val (.bool (xq all w))) := by
  have hl := fldF_sz all
  have hF := strFields_ok all hs hp
  have hI := contains_ok (yZ all) w (by omega)
  refine uP Tryz.func29 Tryz.ntmps29 rfl rfl rfl fun S w0 => ?_
  repeat (first | refine ue ?_ | refine ud ?_ | refine uf ?_ | (refine ug ?_; first | refine uh tab_ok rfl rfl rfl rfl byE rfl ?_))
  refine uw hF call62 rfl rfl ⟨Sub.refl _, trivial⟩ rfl rfl rfl rfl ?_
  repeat (first | (refine ug ?_; first | refine uh tab_ok rfl rfl rfl rfl byE rfl ?_))
  refine uw hI call61 rfl rfl ⟨Sub.refl _, Sub.refl _, trivial⟩ rfl rfl rfl rfl ?_
  repeat (first | refine uc ?_ | refine uk ?_ | refine uf ?_ | (refine ug ?_; first | refine uh tab_ok rfl rfl rfl rfl byE rfl ?_) | refine vB byO rfl rfl rfl ?_)
  exact Sub.refl _
def ownN : ByteArray := ⟨([100, 101, 99, 105, 109, 97, 108, 32, 100, 101, 99, 105, 109, 97, 108, 45, 108, 101, 97, 100, 105, 110, 103, 45, 122, 101, 114, 111, 32, 108, 111, 119, 101, 114, 45, 97, 108, 112, 104, 97, 32, 117, 112, 112, 101, 114, 45, 97, 108, 112, 104, 97, 32].append [108, 111, 119, 101, 114, 45, 114, 111, 109, 97, 110, 32, 117, 112, 112, 101, 114, 45, 114, 111, 109, 97, 110, 32, 108, 111, 119, 101, 114, 45, 103, 114, 101, 101, 107, 32, 100, 105, 115, 99, 32, 99, 105, 114, 99, 108, 101, 32, 115, 113, 117, 97, 114, 101]).toArray⟩
def canF (s : ByteArray) : ByteArray := if xq ownN (vk s) then vk s else s
theorem canon_ok (s : ByteArray) (h : s.size ≤ 1099511627776) : uI Tryz.prog 31 [.val (.string s)] (.val (.string (canF s))) := by
  refine uP Tryz.func31 Tryz.ntmps31 rfl rfl rfl fun S w0 => ?_
  rw [canF]
  repeat (first | refine ue ?_ | refine ud ?_ | refine uf ?_ | (refine ug ?_; first | refine uh tab_ok rfl rfl rfl rfl byE rfl ?_))
  refine uw (yE s (by omega)) call30 rfl rfl ⟨Sub.refl _, trivial⟩ rfl rfl rfl rfl ?_
  repeat (first | refine ue ?_ | refine ud ?_ | refine uf ?_ | (refine ug ?_; first | refine uh tab_ok rfl rfl rfl rfl byE rfl ?_))
  refine uw (among_ok ownN (vk s) (by decide) (by kernel_rfl)) call29 rfl rfl ⟨Sub.refl _, Sub.refl _, trivial⟩ rfl rfl rfl rfl ?_
  repeat (first | refine uc ?_ | refine uf ?_)
  refine uA rfl (fun hc => ?_) (fun hc => ?_)
  · rw [if_pos hc]
    repeat (first | refine ue ?_ | refine uc ?_ | refine ud ?_ | refine uk ?_ | refine un ?_ | refine uf ?_ | (refine ug ?_; first | refine uh tab_ok rfl rfl rfl rfl byE rfl ?_) | refine vB byO rfl rfl rfl ?_)
    all_goals exact Sub.refl _
  · rw [hc, if_neg Bool.false_ne_true]
    repeat (first | refine ue ?_ | refine uc ?_ | refine ud ?_ | refine uk ?_ | refine uj ?_ | refine uf ?_ | (refine ug ?_; first | refine uh tab_ok rfl rfl rfl rfl byE rfl ?_) | refine vB byO rfl rfl rfl ?_)
    all_goals exact Sub.refl _
theorem trimF_sz (l : List Nd) : u4 (uW l) ≤ u4 l := by
  have e : ∀ l : List Nd, u4 (l.dropWhile whN) ≤ u4 l := by
    intro l
    induction l with
    | nil => exact Nat.le_refl _
    | cons n r ih =>
      rw [List.dropWhile_cons]
      split
      · rw [u4]; omega
      · exact Nat.le_refl _
  have r : ∀ l : List Nd, u4 l.reverse = u4 l := by
    intro l
    induction l with
    | nil => rfl
    | cons n q ih => rw [List.reverse_cons, yT, ih, u4, u4, u4]; omega
  rw [uW, w8, r]
  exact Nat.le_trans (e _) (by rw [r]; exact e _)
def badN : ByteArray := ⟨#[110, 111, 110, 101, 32, 105, 110, 105, 116, 105, 97, 108, 32, 105, 110, 104, 101, 114, 105, 116, 32, 117, 110, 115, 101, 116, 32, 100, 101, 102, 97, 117, 108, 116]⟩
def nmF1 : List Nd → ByteArray × Bool
  | [n] => if n.tok.kind = 1 then (if xq badN (vk n.tok.text) then (⟨#[]⟩, false) else (canF n.tok.text, true)) else (⟨#[]⟩, false)
  | _ => (⟨#[]⟩, false)
def nmF (l : List Nd) : ByteArray × Bool := nmF1 (uW l)
set_option maxHeartbeats 1000000 in
theorem kh (l : List Nd) (hl : u4 l < 1099511627776) (ht : ∀ n ∈ l, n.tok.text.size ≤ 1099511627776) : uI Tryz.prog 11 [.sl 7 (l.map nF)] (.tup [.val (.string (nmF l).1), .val (.bool (nmF l).2)]) := by
  refine uP Tryz.func11 Tryz.ntmps11 rfl rfl rfl fun S w0 => ?_
  repeat (first | refine ue ?_ | refine ud ?_ | refine uf ?_ | (refine ug ?_; first | refine uh tab_ok rfl rfl rfl rfl byE rfl ?_))
  refine uw (trim_ok 1099511627776 l hl (Nat.le_refl _)) call28 rfl rfl ⟨Sub.refl _, trivial⟩ rfl rfl rfl rfl ?_
  have hz := trimF_sz l
  have htt : ∀ n ∈ uW l, n.tok.text.size ≤ 1099511627776 := fun n hn => ht n (xZ n hn)
  rw [nmF]
  have hll := u7 (uW l)
  obtain ⟨m, hm⟩ : ∃ m, m = uW l := ⟨_, rfl⟩
  rw [← hm] at hz htt hll ⊢
  have hlm : (m.map nF).length = m.length := List.length_map _
  clear hm
  match m, hz, htt, hll, hlm with
  | [], _, _, _, _ =>
    repeat (first | refine ue ?_ | refine uc ?_ | refine ud ?_ | refine uk ?_ | refine un ?_ | refine uf ?_ | (refine ug ?_; first | refine uG tab_ok rfl rfl rfl rfl rfl rfl rfl ?_ | refine uh tab_ok rfl rfl rfl rfl byE rfl ?_ | refine ux tab_ok rfl rfl rfl rfl rfl rfl byC (by first | exact fun _ => trivial | (intro h; simp at h; omega)) rfl ?_ | refine uN rfl rfl rfl rfl rfl rfl rfl ?_ | refine va rfl rfl rfl rfl rfl rfl ?_) | refine ww byO rfl rfl rfl rfl ?_ ?_ | refine uq rfl ?_)
    all_goals exact Sub.refl _
  | [n], _, ht, _, _ =>
    rw [nmF1]
    have h1 := ht n (by simp)
    have hl1 : ((([n] : List Nd).length : Nat) : Int) = 1 := rfl
    by_cases hk : n.tok.kind = 1
    · rw [if_pos hk]
      have hk2 : ([n][Int.toNat 0]'(Nat.one_pos)).tok.kind = 1 := hk
      repeat (first | refine ue ?_ | refine ud ?_ | refine uf ?_ | (refine ug ?_; first | refine uG tab_ok rfl rfl rfl rfl rfl rfl rfl ?_ | refine uh tab_ok rfl rfl rfl rfl byE rfl ?_ | refine vf tab_ok rfl rfl rfl rfl rfl rfl rfl (by first | exact ⟨by omega, by omega⟩ | (simp; omega)) rfl rfl ?_ | refine uD rfl rfl rfl rfl rfl rfl rfl ?_ | refine uY tab_ok rfl rfl rfl rfl rfl rfl (by first | exact trivial | omega) rfl ?_) | refine r_g rfl rfl rfl ?_ | refine r_g rfl rfl (congrArg (fun b => AV.val (.bool b)) (v4 (by omega))) ?_)
      refine uw (yE n.tok.text (by omega)) call30 rfl rfl ⟨Sub.refl _, trivial⟩ rfl rfl rfl rfl ?_
      repeat (first | refine r_g rfl rfl (congrArg (fun b => AV.val (.bool b)) (v4 (by omega))) ?_)
      refine uw (among_ok badN (vk n.tok.text) (by decide) (by kernel_rfl)) call29 rfl rfl ⟨Sub.refl _, Sub.refl _, trivial⟩ rfl rfl rfl rfl ?_
      repeat (first | refine uc ?_ | refine uf ?_ | refine uD rfl rfl (congrArg (fun b => AV.val (.bool b)) (v4 (by omega))) rfl rfl rfl rfl ?_)
      refine uA rfl (fun hc => ?_) (fun hc => ?_)
      · have e : xq badN (vk n.tok.text) = true := by simpa [hk] using hc
        rw [if_pos e]
        repeat (first | refine ue ?_ | refine uc ?_ | refine ud ?_ | refine uk ?_ | refine un ?_ | refine uf ?_ | (refine ug ?_; first | refine uh tab_ok rfl rfl rfl rfl byE rfl ?_) | refine ww byO rfl rfl rfl rfl ?_ ?_)
        all_goals exact Sub.refl _
      · have e : xq badN (vk n.tok.text) = false := by simpa [hk] using hc
        rw [e, if_neg Bool.false_ne_true]
        repeat (first | refine ue ?_ | refine ud ?_ | refine uj ?_ | (refine ug ?_; first | refine uh tab_ok rfl rfl rfl rfl byE rfl ?_ | refine vf tab_ok rfl rfl rfl rfl rfl rfl rfl (by first | exact ⟨by omega, by omega⟩ | (simp; omega)) rfl rfl ?_))
        refine uw (canon_ok n.tok.text h1) call31 rfl rfl ⟨Sub.refl _, trivial⟩ rfl rfl rfl rfl ?_
        repeat (first | refine uc ?_ | refine uk ?_ | refine uf ?_ | (refine ug ?_; first | refine uh tab_ok rfl rfl rfl rfl byE rfl ?_) | refine ww byO rfl rfl rfl rfl ?_ ?_)
        all_goals exact Sub.refl _
    · rw [if_neg hk]
      have hk2 : ¬ ([n][Int.toNat 0]'(Nat.one_pos)).tok.kind = 1 := hk
      repeat (first | refine ue ?_ | refine uc ?_ | refine ud ?_ | refine uk ?_ | refine un ?_ | refine uf ?_ | (refine ug ?_; first | refine uG tab_ok rfl rfl rfl rfl rfl rfl rfl ?_ | refine uh tab_ok rfl rfl rfl rfl byE rfl ?_ | refine vf tab_ok rfl rfl rfl rfl rfl rfl rfl (by first | exact ⟨by omega, by omega⟩ | (simp; omega)) rfl rfl ?_ | refine uD rfl rfl rfl rfl rfl rfl rfl ?_ | refine uY tab_ok rfl rfl rfl rfl rfl rfl (by first | exact trivial | omega) rfl ?_) | refine ww byO rfl rfl rfl rfl ?_ ?_ | refine uq rfl ?_ | refine r_g rfl rfl rfl ?_ | refine uN rfl rfl (congrArg (fun b => AV.val (.bool b)) (xg (by omega))) rfl rfl rfl rfl ?_ | refine va rfl rfl (congrArg (fun b => AV.val (.bool b)) (xg (by omega))) rfl rfl rfl ?_)
      all_goals exact Sub.refl _
  | a :: b :: r, _, _, hl, hlm =>
    have hne : ¬ (((a :: b :: r).length : Nat) : Int) = 1 := by simp only [List.length_cons]; omega
    repeat (first | refine ue ?_ | refine uc ?_ | refine ud ?_ | refine uk ?_ | refine un ?_ | refine uf ?_ | (refine ug ?_; first | refine uG tab_ok rfl rfl rfl rfl rfl rfl rfl ?_ | refine uh tab_ok rfl rfl rfl rfl byE rfl ?_ | refine ux tab_ok rfl rfl rfl rfl rfl rfl byC (by first | exact fun _ => trivial | (intro h; simp at h; omega)) rfl ?_ | refine wx tab_ok rfl rfl rfl rfl rfl rfl rfl byC rfl rfl (by first | (intro h; simp at h; exact ⟨by omega, by omega⟩) | (intro h; simp only [Bool.and_eq_true, Bool.or_eq_false_iff, beq_iff_eq, decide_eq_false_iff_not, decide_eq_true_eq] at h; exact ⟨by omega, by omega⟩)) rfl rfl ?_ | refine vI rfl rfl rfl rfl rfl rfl rfl rfl ?_ | refine uN rfl rfl rfl rfl rfl rfl rfl ?_ | refine va rfl rfl rfl rfl rfl rfl ?_) | refine ww byO rfl rfl rfl rfl ?_ ?_ | refine uq rfl ?_)
    all_goals exact Sub.refl _
def nonS : ByteArray := ⟨#[110, 111, 110, 101]⟩
def styF (l : List Nd) : ByteArray × Bool := if aloF l = nonS then (nonS, true) else nmF l
def ltyF1 : List Nd → ByteArray × Bool
  | [n] => if n.tok.kind = 5 then (⟨#[34]⟩ ++ n.tok.text, true) else styF [n]
  | l => styF l
end Go.Proofs.YtfmafehogfikmaaGreatDoor

/- prop.pair, pairs; walked. -/
namespace Go.Proofs.YtfmafehogfikmaaGreatDoor
open Go Go.RowKit
set_option maxRecDepth 20000

structure Pr where
  name : ByteArray
  n : Int
  rev : Bool
  auto : Bool
def prD (p : Pr) : D := .ag [.val (.string p.name), .val (.int .i64 p.n), .val (.bool p.rev), .val (.bool p.auto)]
def prA (p : Pr) : AV := .agg [.val (.string p.name), .val (.int .i64 p.n), .val (.bool p.rev), .val (.bool p.auto)]
def revS : ByteArray := ⟨#[114, 101, 118, 101, 114, 115, 101, 100]⟩
def isFn (n : Nd) (w : ByteArray) : Bool := decide (n.tok.kind = 2) && decide (vk n.tok.text = w)
def vc (l : List Nd) : List Nd := l.filter fun n => !whN n
def pairF1 : List Nd → Pr × Bool
  | [m] => (⟨(cntF m).1, 0, true, true⟩, (cntF m).2)
  | _ => (⟨⟨#[]⟩, 0, false, false⟩, false)
def pairF (n : Nd) (d : Int) (rev : Bool) : Pr × Bool :=
  if rev && isFn n revS then pairF1 (vc n.kids) else (⟨(cntF n).1, d, false, false⟩, (cntF n).2)
theorem w9 {l : List Nd} {n : Nd} (h : n ∈ vc l) : n ∈ l := (List.mem_filter.1 h).1
theorem wF (l : List Nd) : (vc l).length ≤ l.length := List.length_filter_le _ _
/-- Pairs, one behind the other. -/
def prsF (d : Int) (rev : Bool) : List Nd → List Pr → Option (List Pr)
  | [], acc => some acc
  | [n], acc => if (pairF n d rev).2 then some (acc ++ [(pairF n d rev).1]) else none
  | n :: m :: r, acc =>
    if (pairF n d rev).2 then
      (if m.tok.kind = 10 then
        (if m.tok.whole then prsF d rev r (acc ++ [{ (pairF n d rev).1 with n := m.tok.int, auto := false }]) else none)
      else prsF d rev (m :: r) (acc ++ [(pairF n d rev).1]))
    else none
def nonS2 : ByteArray := ⟨#[110, 111, 110, 101]⟩
def pairsF (l : List Nd) (d : Int) (rev : Bool) : List Pr × Bool :=
  if aloF l = nonS2 then ([], true) else
  match prsF d rev l [] with
  | none => ([], false)
  | some a => (a, decide (1 ≤ a.length) && decide (a.length ≤ 32))
structure PrS (d : Int) (rev : Bool) (l : List Nd) where
  rest : List Nd
  acc : List Pr
  sub : ∀ n ∈ rest, n ∈ l
  sz : u4 rest ≤ u4 l
  ln : acc.length + rest.length ≤ l.length
  eq : prsF d rev rest acc = prsF d rev l []
end Go.Proofs.YtfmafehogfikmaaGreatDoor

/- nest.Split, for a seat without nest.Ones (XNb on its own). -/
namespace Go.Proofs.YtfmafehogfikmaaGreatDoor
open Go Go.RowKit
set_option maxRecDepth 20000

section
variable {P : Program} {o : Oper} {M M' : List AB} {ρ ρ' : Operand → AV} {out : AV}
/-- What is known of the operands may be weakened. -/
theorem AStep.sub (h : AStep P o M ρ' M' out) (hs : ∀ x ∈ o.op.operands, Sub (ρ x) (ρ' x)) : AStep P o M ρ M' out :=
  fun S B β a w hm hh K Q hK => h S B β a w hm (fun x hx => hs x hx _ _ _ _ _ (hh x hx)) K Q hK
theorem vals_sat_ {M : List AB} {β : Env} {w : World} {imm : Nat → Prop} : ∀ l : List Value, AVsats M β w imm (l.map .val) l
  | [] => rfl
  | v :: r => ⟨v, r, rfl, rfl, vals_sat_ r⟩
theorem sub_agg (cs : Array Value) : Sub (.val (.agg cs)) (.agg (cs.toList.map .val)) := fun M β w imm v h => by
  have h : v = .agg cs := h
  subst h
  exact ⟨cs, rfl, vals_sat_ _⟩
/-- A constant struct, taken apart. -/
def unagg (ρ : Operand → AV) (x : Operand) : AV := match ρ x with
  | .val (.agg cs) => .agg (cs.toList.map .val)
  | y => y
theorem unagg_sub (ρ : Operand → AV) (x : Operand) : Sub (ρ x) (unagg ρ x) := by
  unfold unagg
  split
  · rename_i cs h
    rw [h]
    exact sub_agg cs
  · exact Sub.refl _
end
def zD : D := .ag [.val (.int .i64 0), .val (.string ⟨#[]⟩), .val (.int .i64 0), .val (.bool false), .val (.bool false), .val (.bool false), .val (.slice none 0 0)]
def cmB (n : Nd) : Bool := decide (n.tok.kind = 18)
def wP : List Nd → List (List Nd) → List Nd → List (List Nd)
  | [], pre, cur => pre ++ [cur]
  | n :: r, pre, cur => if cmB n = true then wP r (pre ++ [cur]) [] else wP r pre (cur ++ [n])
def vO (l : List Nd) : List (List Nd) := wP l [] []
theorem w4 : ∀ (l : List Nd) (pre : List (List Nd)) (cur : List Nd), (wP l pre cur).length = pre.length + 1 + l.countP cmB
  | [], pre, cur => by rw [wP, List.length_append, List.length_singleton]; rfl
  | n :: r, pre, cur => by
    rw [wP, List.countP_cons]
    split
    · rw [w4, List.length_append, List.length_singleton]; omega
    · rw [w4]; omega
structure SS (l : List Nd) where
  i : Nat
  pre : List (List Nd)
  cur : List Nd
  hi : i ≤ l.length
  h1 : pre.length ≤ i
  h2 : cur.length ≤ i
  eq : wP (l.drop i) pre cur = vO l
def nds (l : List Nd) : D := .sl 7 (l.map nF)
theorem nds_fine (l : List Nd) : (nds l).fine := by rw [nds, D.fine]; trivial
set_option maxHeartbeats 2000000 in
theorem split_ok (n : Nat) (l : List Nd) (hn : u4 l < n) (hb : n ≤ 1099511627776) : uI Tryz.prog 71 [.sl 7 (l.map nF)] (.sl 1 ((vO l).map nds)) := by
  refine uP Tryz.func71 Tryz.ntmps71 rfl rfl rfl fun S w => ?_
  have hll := u7 l
  have hlm : (l.map nF).length = l.length := List.length_map _
  repeat (first | refine ue ?_ | refine ud ?_ | refine uf ?_ | (refine ug ?_; first | refine uh tab_ok rfl rfl rfl rfl byE rfl ?_))
  refine qY tab_ok rfl rfl rfl rfl rfl rfl rfl rfl rfl ?_
  repeat (first | refine ue ?_ | refine ud ?_ | refine uf ?_ | (refine ug ?_; first | refine uh tab_ok rfl rfl rfl rfl byE rfl ?_))
  refine uw (copy_ok n l hn hb) kn rfl rfl ⟨Sub.refl _, trivial⟩ rfl rfl rfl rfl ?_
  repeat (first | refine uc ?_ | refine um ?_ | refine uf ?_ | (refine ug ?_; first | refine uG tab_ok rfl rfl rfl rfl rfl rfl rfl ?_ | refine uh tab_ok rfl rfl rfl rfl byE rfl ?_))
  refine uV (σ := SS l) (fun x => [.rowo 0 34 1 (x.pre.map nds) 1 [.row 1 0], .row 0 50 7 (x.cur.map nF)]) (fun x => [(3, .row 0 0), (8, .sl 7 (l.map nF)), (9, .val (.int .i64 l.length)), (10, .val (.int .i64 x.i))]) (fun x => l.length - x.i) ⟨0, [], [], Nat.zero_le _, Nat.le_refl _, Nat.le_refl _, rfl⟩
    (vN (fits_open (i := 0) (pre := []) rfl) (uy byV byV)) ?_
  rintro ⟨i, pre, cur, hi, h1, h2, heq⟩
  dsimp only
  have hpl : (pre.map nds).length = pre.length := List.length_map _
  have hcl : (cur.map nF).length = cur.length := List.length_map _
  repeat (first | refine ue ?_ | refine ud ?_ | refine uf ?_ | (refine ug ?_; first | refine uh tab_ok rfl rfl rfl rfl byE rfl ?_))
  refine uo rfl (fun hlt => ?_) (fun hge => ?_)
  · have hlt' : i < l.length := by omega
    have hi' : ((i : Nat) : Int).toNat < l.length := by simp only [Int.toNat_natCast]; exact hlt'
    rw [List.drop_eq_getElem_cons hlt', wP] at heq
    repeat (first | refine ue ?_ | refine uc ?_ | refine um ?_ | refine ud ?_ | refine uj ?_ | refine uf ?_ | (refine ug ?_; first | refine uh tab_ok rfl rfl rfl rfl byE rfl ?_ | refine uJ tab_ok rfl rfl rfl rfl rfl ?_ | refine vf tab_ok rfl rfl rfl rfl rfl rfl rfl (by first | exact ⟨by omega, by omega⟩ | (simp; omega)) rfl rfl ?_ | refine vp tab_ok rfl rfl rfl rfl rfl ?_ | refine uM tab_ok rfl rfl rfl rfl ?_))
    refine uA rfl (fun hc => ?_) (fun hc => ?_)
    · simp only [Int.toNat_natCast] at hc
      rw [if_pos (show cmB l[i] = true from hc)] at heq
      refine ve (s' := ⟨[.rowo 0 34 1 (pre.map nds) 1 [.row 1 0], .row 0 50 7 (cur.map nF)], [(3, .row 0 0), (5, .dptr (ncl (l[((i : Nat) : Int).toNat]'hi'))), (8, .sl 7 (l.map nF)), (9, .val (.int .i64 l.length)), (10, .val (.int .i64 i))]⟩) (vN (fits_sinkp (i := 2) (d := 5) rfl rfl rfl) (u2 2 rfl rfl ⟨⟨rfl, Sub.refl _⟩, ⟨rfl, Sub.refl _⟩, ⟨rfl, Sub.refl _⟩, ⟨rfl, Sub.refl _⟩, ⟨rfl, Sub.refl _⟩, trivial⟩)) ?_
      repeat (first | refine ue ?_ | refine ud ?_ | (refine ug ?_; first | refine uh tab_ok rfl rfl rfl rfl byE rfl ?_ | refine u9 tab_ok rfl rfl rfl rfl rfl rfl rfl rfl rfl ?_))
      refine r_append_o tab_ok rfl rfl rfl rfl rfl rfl rfl rfl rfl (by rw [hpl]; show (pre.length + 1 + 1) * 24 ≤ 140737488355328; omega) rfl rfl ?_
      repeat (first | refine uc ?_ | refine ud ?_ | refine uC ?_ | refine uf ?_ | (refine ug ?_; first | refine uh tab_ok rfl rfl rfl rfl byE rfl ?_))
      refine ⟨⟨i + 1, pre ++ [cur], [], hlt', by rw [List.length_append, List.length_singleton]; omega, Nat.zero_le _, heq⟩, by dsimp only; omega, ?_⟩
      dsimp only
      rw [List.map_append]
      refine vN (s' := ⟨[.rowo 0 34 1 (pre.map nds) 2 [.sl 7 (cur.map nF), .val (.slice none 0 0)], .gone], [(3, .row 0 0), (8, .sl 7 (l.map nF)), (9, .val (.int .i64 l.length)), (10, .val (.int .i64 ((i + 1 : Nat) : Int)))]⟩) (uy byV byV) ?_
      refine vN (fits_shut (i := 0) (nds cur) rfl (nds_fine cur) rfl) ?_
      refine vN (s' := ⟨[.rowo 0 34 1 (pre.map nds ++ [nds cur]) 1 [.val (.slice none 0 0)]], [(3, .row 0 0), (8, .sl 7 (l.map nF)), (9, .val (.int .i64 l.length)), (10, .val (.int .i64 ((i + 1 : Nat) : Int)))]⟩) (u2 1 rfl rfl ⟨⟨rfl, Sub.refl _⟩, ⟨rfl, Sub.refl _⟩, ⟨rfl, Sub.refl _⟩, ⟨rfl, Sub.refl _⟩, trivial⟩) ?_
      exact uy byV byV
    · simp only [Int.toNat_natCast] at hc
      rw [if_neg (by rw [show cmB l[i] = false from hc]; decide)] at heq
      refine ve (s' := ⟨[.rowo 0 34 1 (pre.map nds) 1 [.row 1 0], .row 0 50 7 (cur.map nF)], [(3, .row 0 0), (5, .dptr (ncl (l[((i : Nat) : Int).toNat]'hi'))), (8, .sl 7 (l.map nF)), (9, .val (.int .i64 l.length)), (10, .val (.int .i64 i))]⟩) (vN (fits_sinkp (i := 2) (d := 5) rfl rfl rfl) (u2 2 rfl rfl ⟨⟨rfl, Sub.refl _⟩, ⟨rfl, Sub.refl _⟩, ⟨rfl, Sub.refl _⟩, ⟨rfl, Sub.refl _⟩, ⟨rfl, Sub.refl _⟩, trivial⟩)) ?_
      repeat (first | refine ue ?_ | refine uj ?_)
      refine a_coin tab_ok vM rfl rfl rfl rfl rfl rfl rfl rfl rfl rfl rfl rfl rfl rfl rfl rfl rfl (by kernel_rfl) (by kernel_rfl) (by kernel_rfl) (by kernel_rfl) (by kernel_rfl) (by kernel_rfl) (fun b => rfl) (fun b => ?_)
      refine ve (s' := ⟨[.rowo 0 34 1 (pre.map nds) 1 [.row 1 0], .row 0 50 7 (cur.map nF)], [(3, .row 0 0), (5, .dptr (ncl (l[((i : Nat) : Int).toNat]'hi'))), (8, .sl 7 (l.map nF)), (9, .val (.int .i64 l.length)), (10, .val (.int .i64 i)), (22, .val (.bool b))]⟩) (u2 2 rfl rfl ⟨⟨rfl, Sub.refl _⟩, ⟨rfl, Sub.refl _⟩, ⟨rfl, Sub.refl _⟩, ⟨rfl, Sub.refl _⟩, ⟨rfl, Sub.refl _⟩, ⟨rfl, Sub.refl _⟩, trivial⟩) ?_
      have hj : ((((pre.map nds).length + 1 : Nat) : Int) - 1).toNat = (pre.map nds).length := by omega
      have hclt : ((((cur.map nF).length : Nat) : Int)).toNat = (cur.map nF).length := Int.toNat_natCast _
      refine uA rfl (fun hb => ?_) (fun hb => ?_)
      · subst hb
        repeat (first | refine ue ?_)
        refine a_draw rfl (List.replicate 13 1 ++ [2, 1, 2]) (by kernel_rfl) ?_
        repeat (first | (refine ug ?_; first | refine uh tab_ok rfl rfl rfl rfl byE rfl ?_) | refine r_len_o tab_ok rfl rfl rfl rfl rfl rfl rfl rfl ?_)
        refine r_idx_o tab_ok rfl rfl rfl rfl rfl rfl rfl rfl (by omega) (by omega) rfl ?_
        rw [hj]
        refine r_ld_o tab_ok rfl rfl rfl rfl rfl (o' := 0) rfl rfl rfl rfl rfl ?_
        repeat (first | (refine ug ?_; first | refine uh tab_ok rfl rfl rfl rfl byE rfl ?_ | refine uJ tab_ok rfl rfl rfl rfl rfl ?_))
        refine r_by1 (AStep.sub (yO (ρ := unagg _) (ds := [zD]) tab_ok rfl rfl rfl rfl rfl) (fun x _ => unagg_sub _ x)) rfl rfl rfl rfl rfl ?_
        refine u6 tab_ok rfl rfl rfl rfl rfl rfl rfl rfl rfl (by rw [hcl]; simp; omega) rfl ?_
        refine r_idx_o tab_ok rfl rfl rfl rfl rfl rfl rfl rfl (by omega) (by omega) rfl ?_
        rw [hj]
        refine r_by2n (astep_store_o tab_ok rfl rfl rfl rfl (o' := 0) rfl rfl rfl rfl) rfl rfl rfl ?_
        repeat (first | refine uc ?_ | refine ud ?_ | refine vG ?_)
        refine w5 tab_ok rfl rfl rfl rfl rfl rfl rfl rfl ⟨by omega, by rw [hclt, List.length_append]; exact Nat.lt_succ_self _⟩ rfl ?_
        refine r_by2n (astep_store_e (d := zD) (xd := nF (l[((i : Nat) : Int).toNat]'hi')) (r := nF (l[((i : Nat) : Int).toNat]'hi')) tab_ok rfl rfl rfl rfl (by rw [hclt, List.getElem?_append_right (Nat.le_refl _), Nat.sub_self]; rfl) rfl rfl rfl rfl rfl) rfl rfl rfl ?_
        repeat (first | refine uc ?_ | refine ud ?_ | refine uf ?_ | (refine ug ?_; first | refine uh tab_ok rfl rfl rfl rfl byE rfl ?_))
        refine ⟨⟨i + 1, pre, cur ++ [l[i]], hlt', by omega, by rw [List.length_append, List.length_singleton]; omega, heq⟩, by dsimp only; omega, ?_⟩
        dsimp only
        rw [List.map_append]
        have e : (cur.map nF ++ [zD]).set ((((cur.map nF).length : Nat) : Int)).toNat (nF l[i]) = cur.map nF ++ [l[i]].map nF := by rw [hclt, List.set_append_right _ _ (Nat.le_refl _), Nat.sub_self]; rfl
        rw [← e]
        exact uy byV byV
      · subst hb
        refine a_draw rfl [0, 0, 11, 0, 1, 1, 1, 1, 1, 1, 1, 1, 12, 1, 2] (by kernel_rfl) ?_
        repeat (first | (refine ug ?_; first | refine uh tab_ok rfl rfl rfl rfl byE rfl ?_))
        refine r_byrd 1 (fun M2 h => astep_len_o tab_ok rfl rfl rfl (agree_at 0 h rfl rfl)) rfl rfl rfl rfl rfl ?_
        repeat (first | (refine ug ?_; first | refine uh tab_ok rfl rfl rfl rfl byE rfl ?_) | refine r_len_o tab_ok rfl rfl rfl rfl rfl rfl rfl rfl ?_)
        refine r_idx_o tab_ok rfl rfl rfl rfl rfl rfl rfl rfl (by omega) (by omega) rfl ?_
        rw [hj]
        refine r_ld_o tab_ok rfl rfl rfl rfl rfl (o' := 0) rfl rfl rfl rfl rfl ?_
        repeat (first | (refine ug ?_; first | refine uh tab_ok rfl rfl rfl rfl byE rfl ?_ | refine u9 tab_ok rfl rfl rfl rfl rfl rfl rfl rfl rfl ?_))
        refine r_bykp 1 (astep_append tab_ok rfl rfl rfl rfl rfl rfl (by rw [hcl]; simp; omega)) (agree_set rfl) rfl rfl rfl rfl rfl ?_
        refine r_idx_o tab_ok rfl rfl rfl rfl rfl rfl rfl rfl (by omega) (by omega) rfl ?_
        rw [hj]
        refine r_by2n (astep_store_o tab_ok rfl rfl rfl rfl (o' := 0) rfl rfl rfl rfl) rfl rfl rfl ?_
        repeat (first | refine uc ?_ | refine ud ?_ | refine uf ?_ | refine vG ?_ | (refine ug ?_; first | refine uh tab_ok rfl rfl rfl rfl byE rfl ?_))
        refine ⟨⟨i + 1, pre, cur ++ [l[i]], hlt', by omega, by rw [List.length_append, List.length_singleton]; omega, heq⟩, by dsimp only; omega, ?_⟩
        dsimp only
        rw [List.map_append]
        exact uy byV byV
  · rw [List.drop_of_length_le (by omega), wP] at heq
    rw [← heq, List.map_append]
    refine ve (s' := ⟨[.rowo 0 34 1 (pre.map nds) 1 [.sl 7 (cur.map nF)], .gone], [(3, .row 0 0)]⟩) (uy byV byV) ?_
    refine ve (fits_close (i := 0) (nds cur) 3 rfl rfl rfl (nds_fine cur)) ?_
    repeat (first | refine ue ?_ | refine uc ?_ | refine ud ?_ | refine uk ?_ | refine uC ?_ | refine uf ?_ | (refine ug ?_; first | refine uh tab_ok rfl rfl rfl rfl byE rfl ?_) | refine vB byO rfl rfl rfl ?_)
    exact Sub.refl _
end Go.Proofs.YtfmafehogfikmaaGreatDoor

/- prop.counted; walked. -/
namespace Go.Proofs.YtfmafehogfikmaaGreatDoor
open Go Go.RowKit
set_option maxRecDepth 20000

structure It where
  kind : Int
  text : ByteArray
  sep : ByteArray
  style : ByteArray
def itA (x : It) : AV := .agg [.val (.int .i64 x.kind), .val (.string x.text), .val (.string x.sep), .val (.string x.style)]
def itD (x : It) : D := .ag [.val (.int .i64 x.kind), .val (.string x.text), .val (.string x.sep), .val (.string x.style)]
def decS : ByteArray := ⟨#[100, 101, 99, 105, 109, 97, 108]⟩
/-- The style behind. -/
def ctSt (k : Int) (t s : ByteArray) : List (List Nd) → It × Bool
  | [] => (⟨k, t, s, decS⟩, true)
  | p :: _ => (⟨k, t, s, (styF p).1⟩, (styF p).2)
def ctP3 : List (List Nd) → It × Bool
  | [c] :: r => if r.length ≤ 1 then (if (cntF c).2 then ctSt 3 (cntF c).1 ⟨#[]⟩ r else (⟨3, (cntF c).1, ⟨#[]⟩, ⟨#[]⟩⟩, false)) else (⟨3, ⟨#[]⟩, ⟨#[]⟩, ⟨#[]⟩⟩, false)
  | _ => (⟨3, ⟨#[]⟩, ⟨#[]⟩, ⟨#[]⟩⟩, false)
def ctP4 : List (List Nd) → It × Bool
  | [c] :: b :: r =>
    if r.length ≤ 1 then
      (if (cntF c).2 then
        (match b with
        | [m] => if m.tok.kind = 5 then ctSt 4 (cntF c).1 m.tok.text r else (⟨4, (cntF c).1, ⟨#[]⟩, ⟨#[]⟩⟩, false)
        | _ => (⟨4, (cntF c).1, ⟨#[]⟩, ⟨#[]⟩⟩, false))
      else (⟨4, (cntF c).1, ⟨#[]⟩, ⟨#[]⟩⟩, false))
    else (⟨4, ⟨#[]⟩, ⟨#[]⟩, ⟨#[]⟩⟩, false)
  | _ => (⟨4, ⟨#[]⟩, ⟨#[]⟩, ⟨#[]⟩⟩, false)
theorem splitG_in : ∀ (l : List Nd) (pre : List (List Nd)) (cur : List Nd), ∀ p ∈ wP l pre cur, p ∈ pre ∨ (u4 p ≤ u4 cur + u4 l ∧ ∀ n ∈ p, n ∈ cur ∨ n ∈ l)
  | [], pre, cur, p, h => by
    rw [wP, List.mem_append, List.mem_singleton] at h
    rcases h with h | rfl
    · exact .inl h
    · exact .inr ⟨by omega, fun n hn => .inl hn⟩
  | n :: r, pre, cur, p, h => by
    rw [wP] at h
    split at h
    · rcases splitG_in r _ _ p h with h2 | ⟨h2, h3⟩
      · rw [List.mem_append, List.mem_singleton] at h2
        rcases h2 with h2 | rfl
        · exact .inl h2
        · exact .inr ⟨by omega, fun n hn => .inl hn⟩
      · refine .inr ⟨by simp only [u4] at h2 ⊢; omega, fun m hm => ?_⟩
        rcases h3 m hm with h4 | h4
        · cases h4
        · exact .inr (List.mem_cons_of_mem _ h4)
    · rcases splitG_in r _ _ p h with h2 | ⟨h2, h3⟩
      · exact .inl h2
      · refine .inr ⟨by rw [yT] at h2; simp only [u4] at h2 ⊢; omega, fun m hm => ?_⟩
        rcases h3 m hm with h4 | h4
        · rw [List.mem_append, List.mem_singleton] at h4
          rcases h4 with h4 | rfl
          · exact .inl h4
          · exact .inr (List.mem_cons_self)
        · exact .inr (List.mem_cons_of_mem _ h4)
theorem zo {l p : List Nd} (h : p ∈ vO l) : u4 p ≤ u4 l ∧ ∀ n ∈ p, n ∈ l := by
  rcases splitG_in l [] [] p h with h | ⟨h1, h2⟩
  · cases h
  · refine ⟨by simp only [u4] at h1; omega, fun n hn => ?_⟩
    rcases h2 n hn with h | h
    · cases h
    · exact h
end Go.Proofs.YtfmafehogfikmaaGreatDoor

/- Styles; what prop says, plain. -/
namespace Go.Proofs.YtfmafehogfikmaaGreatDoor
open Go Go.RowKit
set_option maxRecDepth 20000

def qtS : ByteArray := ⟨#[111, 112, 101, 110, 45, 113, 117, 111, 116, 101, 32, 99, 108, 111, 115, 101, 45, 113, 117, 111, 116, 101, 32, 110, 111, 45, 111, 112, 101, 110, 45, 113, 117, 111, 116, 101, 32, 110, 111, 45, 99, 108, 111, 115, 101, 45, 113, 117, 111, 116, 101]⟩
def atS : ByteArray := ⟨#[97, 116, 116, 114]⟩
def ctrS : ByteArray := ⟨#[99, 111, 117, 110, 116, 101, 114]⟩
def ctsS : ByteArray := ⟨#[99, 111, 117, 110, 116, 101, 114, 115]⟩
def itZ : It := ⟨0, ⟨#[]⟩, ⟨#[]⟩, ⟨#[]⟩⟩
def itemF2 (n : Nd) (l : List Nd) : It × Bool :=
  if isFn n ctrS then ctP3 (vO l) else
  if isFn n ctsS then ctP4 (vO l) else (itZ, false)
def itemF1 (n : Nd) : List Nd → It × Bool
  | [m] => if isFn n atS then (⟨2, (idnF m).1, ⟨#[]⟩, ⟨#[]⟩⟩, (idnF m).2) else itemF2 n [m]
  | l => itemF2 n l
def itemF (n : Nd) : It × Bool :=
  if n.tok.kind = 5 then (⟨1, n.tok.text, ⟨#[]⟩, ⟨#[]⟩⟩, true) else
  if (idnF n).2 && inW qtS (idnF n).1 then (⟨4 + (idxF (yZ qtS) (idnF n).1 + 1), ⟨#[]⟩, ⟨#[]⟩, ⟨#[]⟩⟩, true) else
  itemF1 n (vc n.kids)
theorem yi : ∀ l : List Nd, u4 (vc l) ≤ u4 l
  | [] => Nat.le_refl _
  | n :: r => by
    have := yi r
    simp only [vc, List.filter_cons] at this ⊢
    split
    · simp only [u4]; omega
    · simp only [u4]; omega
structure Sty where
  disp : ByteArray
  lty : ByteArray
  col : ByteArray
  cont : List It
  normal : Bool
  nothing : Bool
  quotes : List ByteArray
  auto : Bool
  reset : List Pr
  add : List Pr
  set : List Pr
def zS : Sty := ⟨⟨#[]⟩, ⟨#[]⟩, ⟨#[]⟩, [], false, false, [], false, [], [], []⟩
def stC (s : Sty) : List AV := [.val (.string s.disp), .val (.string s.lty), .val (.string s.col), .sl 4 (s.cont.map itD), .val (.bool s.normal), .val (.bool s.nothing), .sl 1 (s.quotes.map sF), .val (.bool s.auto), .sl 4 (s.reset.map prD), .sl 4 (s.add.map prD), .sl 4 (s.set.map prD)]
def stA (s : Sty) : AV := .agg (stC s)
def stD (s : Sty) : D := .ag [.val (.string s.disp), .val (.string s.lty), .val (.string s.col), .sl 4 (s.cont.map itD), .val (.bool s.normal), .val (.bool s.nothing), .sl 1 (s.quotes.map sF), .val (.bool s.auto), .sl 4 (s.reset.map prD), .sl 4 (s.add.map prD), .sl 4 (s.set.map prD)]
def norS : ByteArray := ⟨#[110, 111, 114, 109, 97, 108]⟩
def autS : ByteArray := ⟨#[97, 117, 116, 111]⟩
def conF1 : List Nd → List It → Option (List It)
  | [], acc => some acc
  | n :: r, acc => if (itemF n).2 then conF1 r (acc ++ [(itemF n).1]) else none
def conF (l : List Nd) : Option Sty :=
  if aloF l = norS then some { zS with normal := true } else
  if aloF l = nonS then some { zS with nothing := true } else
  match conF1 l [] with
  | none => none
  | some a => if l.length ≤ 32 then some { zS with cont := a } else none
def marF1 : List Nd → List ByteArray → Option (List ByteArray)
  | [], acc => some acc
  | n :: r, acc => if n.tok.kind = 5 then marF1 r (acc ++ [n.tok.text]) else none
def marF (l : List Nd) : Option Sty :=
  if aloF l = nonS then some zS else
  if aloF l = autS then some { zS with auto := true } else
  match marF1 l [] with
  | none => none
  | some a => if l.length % 2 = 0 ∧ l.length ≤ 32 then some { zS with quotes := a } else none
def colS : ByteArray := ⟨#[99, 111, 108, 111, 114]⟩
def conS : ByteArray := ⟨#[99, 111, 110, 116, 101, 110, 116]⟩
def incS : ByteArray := ⟨#[99, 111, 117, 110, 116, 101, 114, 45, 105, 110, 99, 114, 101, 109, 101, 110, 116]⟩
def rstS : ByteArray := ⟨#[99, 111, 117, 110, 116, 101, 114, 45, 114, 101, 115, 101, 116]⟩
def setS : ByteArray := ⟨#[99, 111, 117, 110, 116, 101, 114, 45, 115, 101, 116]⟩
def dspS : ByteArray := ⟨#[100, 105, 115, 112, 108, 97, 121]⟩
def lstS : ByteArray := ⟨#[108, 105, 115, 116, 45, 115, 116, 121, 108, 101, 45, 116, 121, 112, 101]⟩
def quoS : ByteArray := ⟨#[113, 117, 111, 116, 101, 115]⟩
def namN : ByteArray := ⟨([99, 111, 108, 111, 114, 32, 99, 111, 110, 116, 101, 110, 116, 32, 99, 111, 117, 110, 116, 101, 114, 45, 105, 110, 99, 114, 101, 109, 101, 110, 116, 32, 99, 111, 117, 110, 116, 101, 114, 45, 114, 101, 115, 101].append [116, 32, 99, 111, 117, 110, 116, 101, 114, 45, 115, 101, 116, 32, 100, 105, 115, 112, 108, 97, 121, 32, 108, 105, 115, 116, 45, 115, 116, 121, 108, 101, 45, 116, 121, 112, 101, 32, 113, 117, 111, 116, 101, 115]).toArray⟩
def widN : ByteArray := ⟨#[105, 110, 104, 101, 114, 105, 116, 32, 105, 110, 105, 116, 105, 97, 108, 32, 117, 110, 115, 101, 116]⟩
def disN : ByteArray := ⟨#[110, 111, 110, 101, 32, 98, 108, 111, 99, 107, 32, 105, 110, 108, 105, 110, 101, 32, 108, 105, 115, 116, 45, 105, 116, 101, 109]⟩
def colF : List Nd → Option Sty
  | [n] => if (idnF n).2 then some { zS with col := (idnF n).1 } else none
  | _ => none
def sayF (nm : ByteArray) (l : List Nd) : Option Sty :=
  if nm = colS then colF l else
  if nm = conS then conF l else
  if nm = incS then (if (pairsF l 1 false).2 then some { zS with add := (pairsF l 1 false).1 } else none) else
  if nm = rstS then (if (pairsF l 0 true).2 then some { zS with reset := (pairsF l 0 true).1 } else none) else
  if nm = setS then (if (pairsF l 0 false).2 then some { zS with set := (pairsF l 0 false).1 } else none) else
  if nm = dspS then (if inW disN (aloF l) then some { zS with disp := aloF l } else none) else
  if nm = lstS then (if (ltyF1 l).2 then some { zS with lty := (ltyF1 l).1 } else none) else
  if nm = quoS then marF l else none
def namL : List ByteArray := [colS, conS, incS, rstS, setS, dspS, lstS, quoS]
structure Val where
  name : ByteArray
  wide : Int
  sty : Sty
def vC (v : Val) : List AV := .val (.string v.name) :: .val (.int .i64 v.wide) :: stC v.sty
def vA (v : Val) : AV := .agg (vC v)
def zV : Val := ⟨⟨#[]⟩, 0, zS⟩
def parF1 (nm : ByteArray) (l : List Nd) : Val × Int :=
  if ¬ inW namN nm ∨ l.length = 0 then (zV, 2) else
  if idxF (yZ widN) (aloF l) + 1 = 0 then
    (match sayF nm l with
    | none => (zV, 2)
    | some s => (⟨nm, 0, s⟩, 0))
  else (⟨nm, idxF (yZ widN) (aloF l) + 1, zS⟩, 0)
def parF (nm : ByteArray) (v : List Nd) : Val × Int := parF1 nm (vc v)
end Go.Proofs.YtfmafehogfikmaaGreatDoor
