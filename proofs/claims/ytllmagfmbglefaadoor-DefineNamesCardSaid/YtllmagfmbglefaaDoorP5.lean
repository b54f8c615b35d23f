import Derived.Test.YtllmagfmbglefaaDoorU5
import Derived.Test.YtllmagfmbglefaaDoorF4
import Derived.Test.YtllmagfmbglefaaDoorL0
import Derived.Test.YtllmagfmbglefaaDoorWd
import Derived.Test.YtllmagfmbglefaaDoorJa
/- nest.Copy as one handed back; slices.IndexFunc, DeleteFunc over nodes; nest.Tight. -/
namespace Go.Proofs.YtllmagfmbglefaaDoor
open Go Go.RowKit
set_option maxRecDepth 20000

set_option maxHeartbeats 1000000 in
theorem copyM_ok (l : List Nd) (hn : vu l < 1099511627776) : vo Tryd.prog 66 [] [.sl 7 (l.map nF)] [.row 0 80 7 (l.map nF)] (.row 0 0) := by
  refine mcalls_ofn Tryd.func66 Tryd.ntmps66 rfl rfl rfl 1 (by decide) fun S w β => ?_
  have hll := wa l
  have hlm : (l.map nF).length = l.length := List.length_map _
  repeat (first | refine uf ?_ | refine ud ?_ | refine ug ?_ | (refine uk ?_; first | refine ul tab_ok rfl rfl rfl rfl (by first | exact trivial | omega | exact nl rfl) rfl ?_))
  refine r_rcall (cloneN_ok l (by omega)) call94 rfl rfl ⟨Sub.refl _, trivial⟩ rfl rfl rfl rfl rfl rfl ?_
  repeat (first | refine uf ?_ | refine uc ?_ | refine uw ?_ | refine ud ?_ | refine ug ?_ | (refine uk ?_; first | refine ul tab_ok rfl rfl rfl rfl (by first | exact trivial | omega | exact nl rfl) rfl ?_ | refine u9 tab_ok rfl rfl rfl rfl rfl ?_))
  refine vk (σ := {i : Nat // i ≤ l.length}) (fun x => [.row 0 80 7 (l.map nF)]) (fun x => [(3, .row 0 0), (7, .row 0 0), (8, .val (.int .i64 l.length)), (9, .val (.int .i64 x.1))]) (fun x => l.length - x.1) ⟨0, Nat.zero_le _⟩ (uK (by repeat' first | exact trivial | exact rfl | (rw [List.map_append]; first | done | rfl) | exact ue rfl (Sub.refl _) rfl | exact ut rfl rfl | exact uo rfl rfl rfl | exact uj rfl rfl rfl | exact uj rfl rfl (by rw [List.map_append]; first | done | rfl) | exact uh rfl rfl rfl rfl | exact Or.inl ⟨ue rfl (Sub.refl _) rfl, uh rfl rfl rfl rfl⟩ | exact uu rfl rfl rfl rfl | exact uC rfl rfl | exact uD rfl rfl | exact ue rfl (Sub.altl _ _) rfl | exact ue rfl (Sub.nil _) rfl | refine ⟨_, _, rfl, ?_, ?_⟩ | apply And.intro) ⟨uj rfl rfl rfl, uj rfl rfl rfl, ue rfl (Sub.of_eq (by rw [← hlm]; rfl)) rfl, ue rfl (Sub.refl _) rfl, trivial⟩) ?_
  rintro ⟨i, hi⟩
  dsimp only
  repeat (first | refine uf ?_ | refine ud ?_ | refine ug ?_ | (refine uk ?_; first | refine ul tab_ok rfl rfl rfl rfl (by first | exact trivial | omega | exact nl rfl) rfl ?_))
  refine uz rfl (fun hlt => ?_) (fun hge => ?_)
  · have hlt' : i < l.length := by omega
    have hi' : ((i : Nat) : Int).toNat < l.length := by simp only [Int.toNat_natCast]; exact hlt'
    have hk := qA hlt'
    have ih' : uV Tryd.prog 66 [.sl 7 ((l[((i : Nat) : Int).toNat]'hi').kids.map nD)] (.sl 7 ((l[((i : Nat) : Int).toNat]'hi').kids.map nD)) := by
      rw [nD_fun]
      refine zZ 1099511627776 _ ?_ (by omega)
      simp only [Int.toNat_natCast]
      omega
    repeat (first | refine uf ?_ | refine uc ?_ | refine uw ?_ | refine ud ?_ | refine uq ?_ | refine ug ?_ | (refine uk ?_; first | refine ul tab_ok rfl rfl rfl rfl (by first | exact trivial | omega | exact nl rfl) rfl ?_ | refine yq tab_ok rfl rfl rfl rfl rfl rfl rfl rfl (by first | exact ⟨by omega, by omega⟩ | (simp; omega)) rfl ?_ | refine qw tab_ok rfl rfl rfl rfl rfl rfl rfl rfl ?_ | refine r_lde tab_ok rfl rfl rfl rfl rfl (by omega) rfl rfl rfl rfl ?_))
    refine um ih' zL rfl rfl ⟨Sub.refl _, trivial⟩ rfl rfl rfl rfl ?_
    repeat (first | (refine uk ?_; first | refine yq tab_ok rfl rfl rfl rfl rfl rfl rfl rfl (by first | exact ⟨by omega, by omega⟩ | (simp; omega)) rfl ?_ | refine qw tab_ok rfl rfl rfl rfl rfl rfl rfl rfl ?_))
    refine r_ste tab_ok (l[((i : Nat) : Int).toNat]'hi') rfl rfl rfl rfl rfl hi' rfl rfl rfl rfl rfl rfl ?_
    rw [List.set_getElem_self]
    repeat (first | refine uc ?_ | refine ud ?_ | refine ug ?_ | (refine uk ?_; first | refine ul tab_ok rfl rfl rfl rfl (by first | exact trivial | omega | exact nl rfl) rfl ?_))
    exact ⟨⟨i + 1, hlt'⟩, by dsimp only; omega, uK (by repeat' first | exact trivial | exact rfl | (rw [List.map_append]; first | done | rfl) | exact ue rfl (Sub.refl _) rfl | exact ut rfl rfl | exact uo rfl rfl rfl | exact uj rfl rfl rfl | exact uj rfl rfl (by rw [List.map_append]; first | done | rfl) | exact uh rfl rfl rfl rfl | exact Or.inl ⟨ue rfl (Sub.refl _) rfl, uh rfl rfl rfl rfl⟩ | exact uu rfl rfl rfl rfl | exact uC rfl rfl | exact uD rfl rfl | exact ue rfl (Sub.altl _ _) rfl | exact ue rfl (Sub.nil _) rfl | refine ⟨_, _, rfl, ?_, ?_⟩ | apply And.intro) (by repeat' first | exact trivial | exact rfl | (rw [List.map_append]; first | done | rfl) | exact ue rfl (Sub.refl _) rfl | exact ut rfl rfl | exact uo rfl rfl rfl | exact uj rfl rfl rfl | exact uj rfl rfl (by rw [List.map_append]; first | done | rfl) | exact uh rfl rfl rfl rfl | exact Or.inl ⟨ue rfl (Sub.refl _) rfl, uh rfl rfl rfl rfl⟩ | exact uu rfl rfl rfl rfl | exact uC rfl rfl | exact uD rfl rfl | exact ue rfl (Sub.altl _ _) rfl | exact ue rfl (Sub.nil _) rfl | refine ⟨_, _, rfl, ?_, ?_⟩ | apply And.intro)⟩
  · repeat (first | refine uf ?_ | refine uc ?_ | refine ud ?_ | refine uP ?_ | refine ug ?_ | (refine uk ?_; first | refine ul tab_ok rfl rfl rfl rfl (by first | exact trivial | omega | exact nl rfl) rfl ?_))
    refine vM (s' := ⟨[.row 0 80 7 (l.map nF)], [(2, .row 0 0)]⟩) (uK (by repeat' first | exact trivial | exact rfl | (rw [List.map_append]; first | done | rfl) | exact ue rfl (Sub.refl _) rfl | exact ut rfl rfl | exact uo rfl rfl rfl | exact uj rfl rfl rfl | exact uj rfl rfl (by rw [List.map_append]; first | done | rfl) | exact uh rfl rfl rfl rfl | exact Or.inl ⟨ue rfl (Sub.refl _) rfl, uh rfl rfl rfl rfl⟩ | exact uu rfl rfl rfl rfl | exact uC rfl rfl | exact uD rfl rfl | exact ue rfl (Sub.altl _ _) rfl | exact ue rfl (Sub.nil _) rfl | refine ⟨_, _, rfl, ?_, ?_⟩ | apply And.intro) ⟨uj rfl rfl rfl, trivial⟩) ?_
    repeat (first | refine un ?_ | refine wU (by simp) rfl rfl rfl rfl rfl ?_)
    exact Sub.refl _

/-- The node that says nothing. -/
def nZ : D := .ag [.val (.int .i64 0), .val (.string ⟨#[]⟩), .val (.int .i64 0), .val (.bool false), .val (.bool false), .val (.bool false), .sl 7 []]
theorem nZ_den (w : World) (imm : Nat → Prop) : DenC w imm nZ [.int .i64 0, .string ⟨#[]⟩, .int .i64 0, .bool false, .bool false, .bool false, .slice none 0 0] :=
  ⟨[_], _, rfl, ⟨rfl, rfl⟩, [_], _, rfl, ⟨rfl, rfl⟩, [_], _, rfl, ⟨rfl, rfl⟩, [_], _, rfl, ⟨rfl, rfl⟩, [_], _, rfl, ⟨rfl, rfl⟩, [_], _, rfl, ⟨rfl, rfl⟩, [_], [], rfl, ⟨none, 0, 0, rfl, rfl, Nat.le_refl _, Nat.zero_le _, (fun _ h => nomatch h), fun h => absurd h (Nat.lt_irrefl 0)⟩, rfl⟩
theorem nZ_one : ∀ u ∈ [Value.int .i64 0, .string ⟨#[]⟩, .int .i64 0, .bool false, .bool false, .bool false, .slice none 0 0], u.oneCell' = true := by
  intro u hu
  simp only [List.mem_cons, List.not_mem_nil, or_false] at hu
  rcases hu with rfl | rfl | rfl | rfl | rfl | rfl | rfl <;> rfl
theorem findN_ok (l : List Nd) (p : Nd → Bool) (f : FuncId) (caps : List AV) (hl : l.length ≤ 4611686018427387904) (hcall : uG Tryd.prog f) (hcf : AV.frees caps = true) (hp : ∀ s ∈ l, uV Tryd.prog f (nA s :: caps) (.val (.bool (p s)))) :
    uV Tryd.prog 111 [.sl 7 (l.map nF), .cl f caps] (.val (.int .i64 (yv p l))) := by
  refine u1 Tryd.func111 Tryd.ntmps111 rfl rfl rfl fun S w => ?_
  repeat (first | refine uf ?_ | refine uc ?_ | refine uw ?_ | refine ud ?_ | refine ug ?_ | (refine uk ?_; first | refine vf tab_ok rfl rfl rfl rfl rfl rfl rfl ?_ | refine ul tab_ok rfl rfl rfl rfl (by first | exact trivial | omega | exact nl rfl) rfl ?_))
  refine vk (σ := {i : Nat // i ≤ l.findIdx p}) (fun _ => []) (fun x => [(0, .sl 7 (l.map nF)), (1, .cl f caps), (7, .val (.int .i64 l.length)), (8, .val (.int .i64 x.1))]) (fun x => l.length - x.1) ⟨0, Nat.zero_le _⟩
    (vg rfl ⟨Sub.refl _, Sub.refl _, Sub.refl _, Sub.refl _, trivial⟩) ?_
  rintro ⟨i, hi⟩
  dsimp only
  have hle := List.findIdx_le_length (p := p) (xs := l)
  repeat (first | refine uf ?_ | refine ud ?_ | refine ug ?_ | (refine uk ?_; first | refine ul tab_ok rfl rfl rfl rfl (by first | exact trivial | omega | exact nl rfl) rfl ?_))
  refine uz rfl (fun hlt => ?_) (fun hge => ?_)
  · have hi' : i < l.length := by omega
    repeat (first | refine uf ?_ | refine uw ?_ | refine ud ?_ | refine uq ?_ | refine ug ?_ | (refine uk ?_; first | refine ul tab_ok rfl rfl rfl rfl (by first | exact trivial | omega | exact nl rfl) rfl ?_ | refine wk tab_ok rfl rfl rfl rfl rfl rfl rfl (by first | exact ⟨by omega, by omega⟩ | (simp; omega)) rfl rfl ?_))
    simp only [Int.toNat_natCast]
    refine qx (hp l[i] (List.getElem_mem hi')) hcall rfl rfl rfl ⟨Sub.refl _, yX _⟩ (by simp [nA, ncl, AV.frees, AV.free, hcf]) rfl rfl rfl ?_
    repeat (first | refine uc ?_ | refine ug ?_)
    refine uH rfl (fun hb => ?_) (fun hb => ?_)
    · repeat (first | refine uf ?_ | refine uc ?_ | refine ud ?_ | refine un ?_ | refine ur ?_ | refine uE ?_ | refine ug ?_ | (refine uk ?_; first | refine ul tab_ok rfl rfl rfl rfl (by first | exact trivial | omega | exact nl rfl) rfl ?_) | refine vh (by simp) rfl rfl rfl ?_)
      have : l.findIdx p = i := by
        rcases Nat.lt_or_eq_of_le hi with h | h
        · have := List.not_of_lt_findIdx h
          simp_all
        · exact h.symm
      exact Sub.of_eq (by rw [yv, if_pos (by omega), this])
    · have : l.findIdx p ≠ i := fun h => by
        have := List.findIdx_getElem (p := p) (xs := l) (w := by omega)
        simp only [h] at this
        simp_all
      repeat (first | refine uc ?_ | refine ud ?_ | refine uq ?_ | refine ug ?_ | (refine uk ?_; first | refine ul tab_ok rfl rfl rfl rfl (by first | exact trivial | omega | exact nl rfl) rfl ?_))
      exact ⟨⟨i + 1, by omega⟩, by dsimp only; omega, vg rfl ⟨Sub.refl _, Sub.refl _, Sub.refl _, Sub.refl _, trivial⟩⟩
  · repeat (first | refine uf ?_ | refine uc ?_ | refine ud ?_ | refine un ?_ | refine uP ?_ | refine ug ?_ | (refine uk ?_; first | refine ul tab_ok rfl rfl rfl rfl (by first | exact trivial | omega | exact nl rfl) rfl ?_) | refine vh (by simp) rfl rfl rfl ?_)
    exact Sub.of_eq (by rw [yv, if_neg (by omega)])
/-- A row while elements are struck out. -/
structure DSn (p : Nd → Bool) (l : List Nd) where
  j : Nat
  X : List Nd
  hj : j ≤ l.length
  hl : ((l.take j).filter (fun x => !p x)).length + X.length = j
  hX : 0 < X.length
def DSn.K {p : Nd → Bool} {l : List Nd} (x : DSn p l) : List Nd := (l.take x.j).filter (fun x => !p x)
def DSn.cur {p : Nd → Bool} {l : List Nd} (x : DSn p l) : List Nd := x.K ++ (x.X ++ l.drop x.j)
theorem filter_findN {p : Nd → Bool} {l : List Nd} {i : Nat} (h : l.findIdx p = i) (hi : i < l.length) : ((l.take (i + 1)).filter (fun x => !p x)) = l.take i := by
  rw [List.take_add_one, List.getElem?_eq_getElem hi, List.filter_append, List.filter_eq_self.2]
  · have := List.findIdx_getElem (p := p) (xs := l) (w := by omega)
    simp only [h] at this
    simp [this]
  · intro a ha
    obtain ⟨k, hk, rfl⟩ := List.mem_take_iff_getElem.1 ha
    have : k < l.findIdx p := by omega
    have := List.not_of_lt_findIdx this
    simpa using this
set_option maxHeartbeats 1000000 in
theorem deleteN_ok (l : List Nd) (p : Nd → Bool) (f : FuncId) (caps : List AV) (hl : l.length ≤ 1099511627776) (hcall : uG Tryd.prog f) (hcf : AV.frees caps = true) (hcu : AV.unders 1 caps = true) (hp : ∀ s ∈ l, uV Tryd.prog f (nA s :: caps) (.val (.bool (p s)))) :
    vo Tryd.prog 78 [.row 0 80 7 (l.map nF)] [.row 0 0, .cl f caps] [.row 2 80 7 ((l.filter (fun x => !p x)).map nF)] (.row 0 2) := by
  refine wL Tryd.func78 Tryd.ntmps78 rfl rfl rfl fun S w β => ?_
  have hlm : (l.map nF).length = l.length := List.length_map _
  have hle := List.findIdx_le_length (p := p) (xs := l)
  repeat (first | refine uf ?_ | refine ud ?_ | refine ug ?_ | (refine uk ?_; first | refine ul tab_ok rfl rfl rfl rfl (by first | exact trivial | omega | exact nl rfl) rfl ?_))
  refine vW [0] (mcalls_lend (xs := [.row 0 0, .cl f caps]) (M0 := [.row 0 80 7 (l.map nF)]) (findN_ok l p f caps (by omega) hcall hcf hp) ⟨.inr ⟨0, 0, _, 7, _, rfl, rfl, rfl⟩, .inl ⟨rfl, hcf⟩, trivial⟩ rfl) call111 rfl rfl ⟨rfl, trivial⟩ (by decide) ⟨Sub.refl _, ?_, trivial⟩ ?_ rfl rfl rfl rfl rfl ?_
  · exact Sub.of_eq (by show AV.cl f caps = .cl f (AV.rens _ caps); rw [xI _ _ hcf])
  · show (((true && (AV.unders 1 caps && true)) && true) = true)
    rw [hcu]
    rfl
  repeat (first | refine uf ?_ | refine uc ?_ | refine ud ?_ | refine ug ?_ | (refine uk ?_; first | refine ul tab_ok rfl rfl rfl rfl (by first | exact trivial | omega | exact nl rfl) rfl ?_))
  refine uz rfl (fun hno => ?_) (fun hyes => ?_)
  · have hall : l.filter (fun x => !p x) = l := by
      have : l.findIdx p = l.length := by
        rw [yv] at hno
        split at hno
        · omega
        · omega
      rw [List.filter_eq_self]
      intro a ha
      obtain ⟨k, hk, rfl⟩ := List.mem_iff_getElem.1 ha
      have := List.not_of_lt_findIdx (p := p) (xs := l) (i := k) (by omega)
      simpa using this
    rw [hall]
    repeat (first | refine uf ?_ | refine uc ?_ | refine ud ?_ | refine un ?_ | refine ur ?_ | refine ug ?_ | (refine uk ?_; first | refine ul tab_ok rfl rfl rfl rfl (by first | exact trivial | omega | exact nl rfl) rfl ?_))
    exact vB [.row 2 80 7 (l.map nF)] [(4, .row 0 2)] (uv (by repeat' first | exact trivial | exact rfl | (rw [List.map_append]; first | done | rfl) | exact ue rfl (Sub.refl _) rfl | exact ut rfl rfl | exact uo rfl rfl rfl | exact uj rfl rfl rfl | exact uj rfl rfl (by rw [List.map_append]; first | done | rfl) | exact uh rfl rfl rfl rfl | exact Or.inl ⟨ue rfl (Sub.refl _) rfl, uh rfl rfl rfl rfl⟩ | exact uu rfl rfl rfl rfl | exact uC rfl rfl | exact uD rfl rfl | exact ue rfl (Sub.altl _ _) rfl | exact ue rfl (Sub.nil _) rfl | refine ⟨_, _, rfl, ?_, ?_⟩ | apply And.intro) (by repeat' first | exact trivial | exact rfl | (rw [List.map_append]; first | done | rfl) | exact ue rfl (Sub.refl _) rfl | exact ut rfl rfl | exact uo rfl rfl rfl | exact uj rfl rfl rfl | exact uj rfl rfl (by rw [List.map_append]; first | done | rfl) | exact uh rfl rfl rfl rfl | exact Or.inl ⟨ue rfl (Sub.refl _) rfl, uh rfl rfl rfl rfl⟩ | exact uu rfl rfl rfl rfl | exact uC rfl rfl | exact uD rfl rfl | exact ue rfl (Sub.altl _ _) rfl | exact ue rfl (Sub.nil _) rfl | refine ⟨_, _, rfl, ?_, ?_⟩ | apply And.intro) ⟨.inr (by decide), trivial⟩) (by simp) rfl rfl rfl rfl rfl (Sub.refl _)
  · obtain ⟨i, hi⟩ : ∃ i, l.findIdx p = i := ⟨_, rfl⟩
    have hil : i < l.length := by
      rw [yv, hi] at hyes
      split at hyes
      · assumption
      · exact absurd rfl hyes
    have hfr : yv p l = i := by rw [yv, hi, if_pos hil]
    have hfe := filter_findN hi hil
    have hti : (l.take i).length = i := by rw [List.length_take]; omega
    rw [hfr]
    repeat (first | refine uf ?_ | refine uc ?_ | refine uw ?_ | refine ud ?_ | refine uq ?_ | refine ug ?_ | (refine uk ?_; first | refine ul tab_ok rfl rfl rfl rfl (by first | exact trivial | omega | exact nl rfl) rfl ?_))
    refine vk (σ := DSn p l) (fun x => [.row 0 80 7 (x.cur.map nF)]) (fun x => [(0, .row 0 0), (1, .cl f caps), (5, .val (.int .i64 (x.K.length : Nat))), (6, .val (.int .i64 x.j))]) (fun x => l.length - x.j)
      ⟨i + 1, [l[i]], by omega, by rw [hfe, hti]; rfl, Nat.one_pos⟩ ?_ ?_
    · have hcur : (⟨i + 1, [l[i]], by omega, by rw [hfe, hti]; rfl, Nat.one_pos⟩ : DSn p l).cur = l := by
        show (l.take (i + 1)).filter (fun x => !p x) ++ ([l[i]] ++ l.drop (i + 1)) = l
        rw [hfe, List.singleton_append, List.getElem_cons_drop, List.take_append_drop]
      rw [hcur]
      exact vg rfl ⟨Sub.refl _, Sub.refl _, Sub.of_eq (by show AV.val (.int .i64 (i : Int)) = .val (.int .i64 ((((l.take (i + 1)).filter (fun x => !p x)).length : Nat) : Int)); rw [hfe, hti]), Sub.refl _, trivial⟩
    rintro ⟨j, X, hj, hlen, hX⟩
    dsimp only [DSn.cur, DSn.K]
    obtain ⟨K, hK⟩ : ∃ K, K = (l.take j).filter (fun x => !p x) := ⟨_, rfl⟩
    rw [← hK] at hlen ⊢
    have hcl : (K ++ (X ++ l.drop j)).length = l.length := by simp; omega
    have hclm : ((K ++ (X ++ l.drop j)).map nF).length = l.length := by rw [List.length_map, hcl]
    repeat (first | refine uf ?_ | refine uc ?_ | refine ud ?_ | refine ug ?_ | (refine uk ?_; first | refine ul tab_ok rfl rfl rfl rfl (by first | exact trivial | omega | exact nl rfl) rfl ?_ | refine u9 tab_ok rfl rfl rfl rfl rfl ?_))
    refine uz rfl (fun hlt => ?_) (fun hge => ?_)
    · have hj' : j < l.length := by omega
      have hjc : j < (K ++ (X ++ l.drop j)).length := by omega
      have hget : (K ++ (X ++ l.drop j))[j]'hjc = l[j] := by
        rw [List.getElem_append_right (by omega), List.getElem_append_right (by omega), List.getElem_drop]
        congr 1
        omega
      repeat (first | refine uf ?_ | refine uw ?_ | refine ud ?_ | refine uq ?_ | refine ug ?_ | (refine uk ?_; first | refine ul tab_ok rfl rfl rfl rfl (by first | exact trivial | omega | exact nl rfl) rfl ?_ | refine u9 tab_ok rfl rfl rfl rfl rfl ?_ | refine vI tab_ok rfl rfl rfl rfl rfl ?_ | refine u3 tab_ok rfl rfl rfl rfl ?_ | refine yq tab_ok rfl rfl rfl rfl rfl rfl rfl rfl (by first | exact ⟨by omega, by omega⟩ | (simp; omega)) rfl ?_ | refine r_lde tab_ok rfl rfl rfl rfl rfl (by omega) rfl rfl rfl rfl ?_))
      simp only [Int.toNat_natCast]
      rw [hget]
      have htk : (l.take (j + 1)).filter (fun x => !p x) = K ++ (if p l[j] then [] else [l[j]]) := by
        rw [List.take_add_one, List.getElem?_eq_getElem hj', List.filter_append, ← hK]
        cases hq : p l[j] <;> simp [hq]
      have hdr : l.drop j = l[j] :: l.drop (j + 1) := List.drop_eq_getElem_cons hj'
      refine qx (hp l[j] (List.getElem_mem hj')) hcall rfl rfl rfl ⟨Sub.refl _, yX _⟩ (by simp [nA, ncl, AV.frees, AV.free, hcf]) rfl rfl rfl ?_
      repeat (first | refine uc ?_ | refine ug ?_ | (refine uk ?_; first | refine ul tab_ok rfl rfl rfl rfl (by first | exact trivial | omega | exact nl rfl) rfl ?_))
      cases hpj : p l[j] with
      | true =>
        rw [hpj, if_pos rfl, List.append_nil] at htk
        repeat (first | refine uc ?_ | refine ud ?_ | refine uq ?_ | refine ug ?_ | (refine uk ?_; first | refine ul tab_ok rfl rfl rfl rfl (by first | exact trivial | omega | exact nl rfl) rfl ?_) | refine uF rfl ?_)
        refine ⟨⟨j + 1, X ++ [l[j]], by omega, by rw [htk, List.length_append, List.length_singleton]; omega, by simp⟩, by dsimp only; omega, ?_⟩
        dsimp only [DSn.cur, DSn.K]
        have hh : X ++ [l[j]] ++ l.drop (j + 1) = X ++ l.drop j := by rw [List.append_assoc, List.singleton_append, ← hdr]
        rw [htk, hh]
        exact vz 1 rfl rfl ⟨⟨rfl, Sub.refl _⟩, ⟨hcu, Sub.refl _⟩, ⟨rfl, Sub.refl _⟩, ⟨rfl, Sub.refl _⟩, trivial⟩
      | false =>
        rw [hpj, if_neg Bool.false_ne_true] at htk
        obtain ⟨x0, X2, rfl⟩ : ∃ x0 X2, X = x0 :: X2 := by
          cases X with
          | nil => exact absurd hX (by simp)
          | cons x X => exact ⟨x, X, rfl⟩
        have hset : (K ++ (x0 :: X2 ++ l.drop j)).set K.length l[j] = (K ++ [l[j]]) ++ ((X2 ++ [l[j]]) ++ l.drop (j + 1)) := by
          rw [List.set_append_right _ _ (Nat.le_refl _), Nat.sub_self, List.cons_append, List.set_cons_zero, hdr]
          simp
        repeat (first | refine uf ?_ | refine ud ?_ | (refine uk ?_; first | refine ul tab_ok rfl rfl rfl rfl (by first | exact trivial | omega | exact nl rfl) rfl ?_ | refine u9 tab_ok rfl rfl rfl rfl rfl ?_ | refine yq tab_ok rfl rfl rfl rfl rfl rfl rfl rfl (by first | exact ⟨by omega, by omega⟩ | (simp; omega)) rfl ?_) | refine uA rfl ?_)
        refine r_ste tab_ok l[j] rfl rfl rfl rfl rfl (by simp only [Int.toNat_natCast]; simp) rfl rfl rfl rfl rfl rfl ?_
        simp only [Int.toNat_natCast]
        rw [hset]
        repeat (first | refine uc ?_ | refine ud ?_ | refine ug ?_ | (refine uk ?_; first | refine ul tab_ok rfl rfl rfl rfl (by first | exact trivial | omega | exact nl rfl) rfl ?_))
        refine ⟨⟨j + 1, X2 ++ [l[j]], by omega, by rw [htk, List.length_append, List.length_append, List.length_singleton]; simp at hlen ⊢; omega, by simp⟩, by dsimp only; omega, ?_⟩
        dsimp only [DSn.cur, DSn.K]
        rw [htk]
        exact vz 1 rfl rfl ⟨⟨rfl, Sub.refl _⟩, ⟨hcu, Sub.refl _⟩, ⟨rfl, Sub.of_eq (by show AV.val (.int .i64 ((K.length : Int) + 1)) = .val (.int .i64 (((K ++ [l[j]]).length : Nat) : Int)); rw [List.length_append]; rfl)⟩, ⟨rfl, Sub.refl _⟩, trivial⟩
    · have hjl : j = l.length := by omega
      subst hjl
      rw [List.take_length] at hK
      rw [List.drop_length, List.append_nil] at hcl hclm ⊢
      rw [← hK]
      have hne : (K ++ X).map nF ≠ [] := by
        cases X with
        | nil => exact absurd hX (by simp)
        | cons x X => simp
      repeat (first | refine uf ?_ | refine ud ?_ | refine uP ?_ | (refine uk ?_; first | refine ul tab_ok rfl rfl rfl rfl (by first | exact trivial | omega | exact nl rfl) rfl ?_))
      refine r_by1 (astep_sfx tab_ok rfl rfl rfl rfl hne rfl ⟨by omega, by rw [List.length_map, List.length_append]; omega⟩) rfl rfl rfl rfl rfl ?_
      refine r_by2n (astep_clear_n (zD := nZ) tab_ok rfl rfl (by decide) rfl rfl nZ_den nZ_one rfl (by simp only [Int.toNat_natCast]; rw [List.length_map, List.length_append]; omega) rfl rfl) rfl rfl rfl ?_
      simp only [Int.toNat_natCast]
      have he : (((K ++ X).map nF).take K.length ++ List.replicate (((K ++ X).map nF).length - K.length) nZ).take K.length = K.map nF := by
        rw [List.take_append_of_le_length (by rw [List.length_take, List.length_map, List.length_append]; omega), List.take_take, Nat.min_self, List.map_append, List.take_append_of_le_length (by rw [List.length_map]; exact Nat.le_refl _), List.take_of_length_le (by rw [List.length_map]; exact Nat.le_refl _)]
      have hne2 : ((K ++ X).map nF).take K.length ++ List.replicate (((K ++ X).map nF).length - K.length) nZ ≠ [] := by
        intro h
        have h2 := congrArg List.length h
        rw [List.length_append, List.length_take, List.length_replicate, List.length_map, List.length_append, List.length_nil] at h2
        omega
      repeat (first | refine uf ?_ | refine ud ?_ | refine ug ?_ | (refine uk ?_; first | refine ul tab_ok rfl rfl rfl rfl (by first | exact trivial | omega | exact nl rfl) rfl ?_))
      refine r_by2 (astep_cut_row tab_ok rfl rfl rfl rfl hne2 rfl rfl (m := K.length) rfl (by rw [List.length_append, List.length_take, List.length_map, List.length_append]; omega)) rfl rfl rfl rfl rfl ?_
      rw [he]
      repeat (first | refine uc ?_ | refine un ?_ | refine ug ?_ | (refine uk ?_; first | refine ul tab_ok rfl rfl rfl rfl (by first | exact trivial | omega | exact nl rfl) rfl ?_))
      exact vB [.row 2 80 7 (K.map nF)] [(4, .row 0 2)] (vg rfl ⟨Sub.refl _, trivial⟩) (by simp) rfl rfl rfl rfl rfl (Sub.refl _)
/-- nest.Tight. -/
theorem tight_ok (l : List Nd) (hn : vu l < 1099511627776) : uV Tryd.prog 52 [.sl 7 (l.map nF)] (.sl 7 ((l.filter (fun n => !whN n)).map nF)) := by
  refine u1 Tryd.func52 Tryd.ntmps52 rfl rfl rfl fun S w => ?_
  have hll := wa l
  have hlm : (l.map nF).length = l.length := List.length_map _
  repeat (first | refine uf ?_ | refine ud ?_ | refine ug ?_ | (refine uk ?_; first | refine ul tab_ok rfl rfl rfl rfl (by first | exact trivial | omega | exact nl rfl) rfl ?_))
  refine r_rcall (copyM_ok l hn) zL rfl rfl ⟨Sub.refl _, trivial⟩ rfl rfl rfl rfl rfl rfl ?_
  refine vJ [0] (deleteN_ok l whN 65 [] (by omega) call65 rfl rfl (fun n _ => qS n)) call78 rfl rfl ⟨rfl, trivial⟩ (by decide) ⟨Sub.refl _, Sub.refl _, trivial⟩ rfl rfl rfl rfl rfl rfl rfl ?_
  repeat (first | refine uc ?_ | refine un ?_ | refine ug ?_ | (refine uk ?_; first | refine ul tab_ok rfl rfl rfl rfl (by first | exact trivial | omega | exact nl rfl) rfl ?_) | refine xL (by simp) rfl rfl rfl ?_)
  exact Sub.refl _
end Go.Proofs.YtllmagfmbglefaaDoor

/- define.among, Canon, Name; prop.style, listType; walked. -/
namespace Go.Proofs.YtllmagfmbglefaaDoor
open Go Go.RowKit
set_option maxRecDepth 20000

theorem xf {p : Prop} [Decidable p] (h : p) : (!decide p) = false := by rw [decide_eq_true h]; rfl
theorem xw {p : Prop} [Decidable p] (h : ¬ p) : (!decide p) = true := by rw [decide_eq_false h]; rfl
def qo (all w : ByteArray) : Bool := (yQ all).any fun x => decide (w = x)
theorem qR (all w : ByteArray) (hs : all.size ≤ 1099511627776) (hp : plainS all = true) : uV Tryd.prog 43 [.val (.string all), .val (.string w)] (.val (.bool (qo all w))) := by
  have hl := fldF_sz all
  have hF := strFields_ok all hs hp
  have hI := contains_ok (yQ all) w (by omega)
  refine u1 Tryd.func43 Tryd.ntmps43 rfl rfl rfl fun S w0 => ?_
  repeat (first | refine uf ?_ | refine ud ?_ | refine ug ?_ | (refine uk ?_; first | refine ul tab_ok rfl rfl rfl rfl (by first | exact trivial | omega | exact nl rfl) rfl ?_))
  refine um hF call26 rfl rfl ⟨Sub.refl _, trivial⟩ rfl rfl rfl rfl ?_
  repeat (first | (refine uk ?_; first | refine ul tab_ok rfl rfl rfl rfl (by first | exact trivial | omega | exact nl rfl) rfl ?_))
  refine um hI call67 rfl rfl ⟨Sub.refl _, Sub.refl _, trivial⟩ rfl rfl rfl rfl ?_
  repeat (first | refine uc ?_ | refine un ?_ | refine ug ?_ | (refine uk ?_; first | refine ul tab_ok rfl rfl rfl rfl (by first | exact trivial | omega | exact nl rfl) rfl ?_) | refine vh (by simp) rfl rfl rfl ?_)
  exact Sub.refl _
def ownN : ByteArray := ⟨([100, 101, 99, 105, 109, 97, 108, 32, 100, 101, 99, 105, 109, 97, 108, 45, 108, 101, 97, 100, 105, 110, 103, 45, 122, 101, 114, 111, 32, 108, 111, 119, 101, 114, 45, 97, 108, 112, 104, 97, 32, 117, 112, 112, 101, 114, 45, 97, 108, 112, 104, 97, 32].append [108, 111, 119, 101, 114, 45, 114, 111, 109, 97, 110, 32, 117, 112, 112, 101, 114, 45, 114, 111, 109, 97, 110, 32, 108, 111, 119, 101, 114, 45, 103, 114, 101, 101, 107, 32, 100, 105, 115, 99, 32, 99, 105, 114, 99, 108, 101, 32, 115, 113, 117, 97, 114, 101]).toArray⟩
def canF (s : ByteArray) : ByteArray := if qo ownN (v7 s) then v7 s else s
theorem canon_ok (s : ByteArray) (h : s.size ≤ 1099511627776) : uV Tryd.prog 45 [.val (.string s)] (.val (.string (canF s))) := by
  refine u1 Tryd.func45 Tryd.ntmps45 rfl rfl rfl fun S w0 => ?_
  rw [canF]
  repeat (first | refine uf ?_ | refine ud ?_ | refine ug ?_ | (refine uk ?_; first | refine ul tab_ok rfl rfl rfl rfl (by first | exact trivial | omega | exact nl rfl) rfl ?_))
  refine um (xE s (by omega)) qm rfl rfl ⟨Sub.refl _, trivial⟩ rfl rfl rfl rfl ?_
  repeat (first | refine uf ?_ | refine ud ?_ | refine ug ?_ | (refine uk ?_; first | refine ul tab_ok rfl rfl rfl rfl (by first | exact trivial | omega | exact nl rfl) rfl ?_))
  refine um (qR ownN (v7 s) (by decide) (by kernel_rfl)) call43 rfl rfl ⟨Sub.refl _, Sub.refl _, trivial⟩ rfl rfl rfl rfl ?_
  repeat (first | refine uc ?_ | refine ug ?_)
  refine uH rfl (fun hc => ?_) (fun hc => ?_)
  · rw [if_pos hc]
    repeat (first | refine uf ?_ | refine uc ?_ | refine ud ?_ | refine un ?_ | refine ur ?_ | refine ug ?_ | (refine uk ?_; first | refine ul tab_ok rfl rfl rfl rfl (by first | exact trivial | omega | exact nl rfl) rfl ?_) | refine vh (by simp) rfl rfl rfl ?_)
    all_goals exact Sub.refl _
  · rw [hc, if_neg Bool.false_ne_true]
    repeat (first | refine uf ?_ | refine uc ?_ | refine ud ?_ | refine un ?_ | refine uq ?_ | refine ug ?_ | (refine uk ?_; first | refine ul tab_ok rfl rfl rfl rfl (by first | exact trivial | omega | exact nl rfl) rfl ?_) | refine vh (by simp) rfl rfl rfl ?_)
    all_goals exact Sub.refl _
theorem trimF_sz (l : List Nd) : vu (vp l) ≤ vu l := by
  have e : ∀ l : List Nd, vu (l.dropWhile whN) ≤ vu l := by
    intro l
    induction l with
    | nil => exact Nat.le_refl _
    | cons n r ih =>
      rw [List.dropWhile_cons]
      split
      · rw [vu]; omega
      · exact Nat.le_refl _
  have r : ∀ l : List Nd, vu l.reverse = vu l := by
    intro l
    induction l with
    | nil => rfl
    | cons n q ih => rw [List.reverse_cons, yE, ih, vu, vu, vu]; omega
  rw [vp, xW, r]
  exact Nat.le_trans (e _) (by rw [r]; exact e _)
def badN : ByteArray := ⟨#[110, 111, 110, 101, 32, 105, 110, 105, 116, 105, 97, 108, 32, 105, 110, 104, 101, 114, 105, 116, 32, 117, 110, 115, 101, 116, 32, 100, 101, 102, 97, 117, 108, 116]⟩
def nmF1 : List Nd → ByteArray × Bool
  | [n] => if n.tok.kind = 1 then (if qo badN (v7 n.tok.text) then (⟨#[]⟩, false) else (canF n.tok.text, true)) else (⟨#[]⟩, false)
  | _ => (⟨#[]⟩, false)
def nmF (l : List Nd) : ByteArray × Bool := nmF1 (vp l)
set_option maxHeartbeats 1000000 in
theorem qH (l : List Nd) (hl : vu l < 1099511627776) (ht : ∀ n ∈ l, n.tok.text.size ≤ 1099511627776) : uV Tryd.prog 24 [.sl 7 (l.map nF)] (.tup [.val (.string (nmF l).1), .val (.bool (nmF l).2)]) := by
  refine u1 Tryd.func24 Tryd.ntmps24 rfl rfl rfl fun S w0 => ?_
  repeat (first | refine uf ?_ | refine ud ?_ | refine ug ?_ | (refine uk ?_; first | refine ul tab_ok rfl rfl rfl rfl (by first | exact trivial | omega | exact nl rfl) rfl ?_))
  refine um (trim_ok 1099511627776 l hl (Nat.le_refl _)) call42 rfl rfl ⟨Sub.refl _, trivial⟩ rfl rfl rfl rfl ?_
  have hz := trimF_sz l
  have htt : ∀ n ∈ vp l, n.tok.text.size ≤ 1099511627776 := fun n hn => ht n (trimF_mem n hn)
  rw [nmF]
  have hll := wa (vp l)
  obtain ⟨m, hm⟩ : ∃ m, m = vp l := ⟨_, rfl⟩
  rw [← hm] at hz htt hll ⊢
  have hlm : (m.map nF).length = m.length := List.length_map _
  clear hm
  match m, hz, htt, hll, hlm with
  | [], _, _, _, _ =>
    repeat (first | refine uf ?_ | refine uc ?_ | refine ud ?_ | refine un ?_ | refine ur ?_ | refine ug ?_ | (refine uk ?_; first | refine vf tab_ok rfl rfl rfl rfl rfl rfl rfl ?_ | refine ul tab_ok rfl rfl rfl rfl (by first | exact trivial | omega | exact nl rfl) rfl ?_ | refine uB tab_ok rfl rfl rfl rfl rfl rfl (by first | exact fun _ => rfl | exact cs1 | exact cs2 | exact cs3) (by first | exact fun _ => trivial | (intro h; simp at h; omega)) rfl ?_ | refine ux rfl rfl rfl rfl rfl rfl rfl ?_ | refine vG rfl rfl rfl rfl rfl rfl ?_) | refine yp (by simp) rfl rfl rfl rfl ?_ ?_ | refine uA rfl ?_)
    all_goals exact Sub.refl _
  | [n], _, ht, _, _ =>
    rw [nmF1]
    have h1 := ht n (by simp)
    have hl1 : ((([n] : List Nd).length : Nat) : Int) = 1 := rfl
    by_cases hk : n.tok.kind = 1
    · rw [if_pos hk]
      have hk2 : ([n][Int.toNat 0]'(Nat.one_pos)).tok.kind = 1 := hk
      repeat (first | refine uf ?_ | refine ud ?_ | refine ug ?_ | (refine uk ?_; first | refine vf tab_ok rfl rfl rfl rfl rfl rfl rfl ?_ | refine ul tab_ok rfl rfl rfl rfl (by first | exact trivial | omega | exact nl rfl) rfl ?_ | refine wk tab_ok rfl rfl rfl rfl rfl rfl rfl (by first | exact ⟨by omega, by omega⟩ | (simp; omega)) rfl rfl ?_ | refine uX rfl rfl rfl rfl rfl rfl rfl ?_ | refine u2 tab_ok rfl rfl rfl rfl rfl rfl (by first | exact trivial | omega) rfl ?_) | refine r_g rfl rfl rfl ?_ | refine r_g rfl rfl (congrArg (fun b => AV.val (.bool b)) (xf (by omega))) ?_)
      refine um (xE n.tok.text (by omega)) qm rfl rfl ⟨Sub.refl _, trivial⟩ rfl rfl rfl rfl ?_
      repeat (first | refine r_g rfl rfl (congrArg (fun b => AV.val (.bool b)) (xf (by omega))) ?_)
      refine um (qR badN (v7 n.tok.text) (by decide) (by kernel_rfl)) call43 rfl rfl ⟨Sub.refl _, Sub.refl _, trivial⟩ rfl rfl rfl rfl ?_
      repeat (first | refine uc ?_ | refine ug ?_ | refine uX rfl rfl (congrArg (fun b => AV.val (.bool b)) (xf (by omega))) rfl rfl rfl rfl ?_)
      refine uH rfl (fun hc => ?_) (fun hc => ?_)
      · have e : qo badN (v7 n.tok.text) = true := by simpa [hk] using hc
        rw [if_pos e]
        repeat (first | refine uf ?_ | refine uc ?_ | refine ud ?_ | refine un ?_ | refine ur ?_ | refine ug ?_ | (refine uk ?_; first | refine ul tab_ok rfl rfl rfl rfl (by first | exact trivial | omega | exact nl rfl) rfl ?_) | refine yp (by simp) rfl rfl rfl rfl ?_ ?_)
        all_goals exact Sub.refl _
      · have e : qo badN (v7 n.tok.text) = false := by simpa [hk] using hc
        rw [e, if_neg Bool.false_ne_true]
        repeat (first | refine uf ?_ | refine ud ?_ | refine uq ?_ | (refine uk ?_; first | refine ul tab_ok rfl rfl rfl rfl (by first | exact trivial | omega | exact nl rfl) rfl ?_ | refine wk tab_ok rfl rfl rfl rfl rfl rfl rfl (by first | exact ⟨by omega, by omega⟩ | (simp; omega)) rfl rfl ?_))
        refine um (canon_ok n.tok.text h1) call45 rfl rfl ⟨Sub.refl _, trivial⟩ rfl rfl rfl rfl ?_
        repeat (first | refine uc ?_ | refine un ?_ | refine ug ?_ | (refine uk ?_; first | refine ul tab_ok rfl rfl rfl rfl (by first | exact trivial | omega | exact nl rfl) rfl ?_) | refine yp (by simp) rfl rfl rfl rfl ?_ ?_)
        all_goals exact Sub.refl _
    · rw [if_neg hk]
      have hk2 : ¬ ([n][Int.toNat 0]'(Nat.one_pos)).tok.kind = 1 := hk
      repeat (first | refine uf ?_ | refine uc ?_ | refine ud ?_ | refine un ?_ | refine ur ?_ | refine ug ?_ | (refine uk ?_; first | refine vf tab_ok rfl rfl rfl rfl rfl rfl rfl ?_ | refine ul tab_ok rfl rfl rfl rfl (by first | exact trivial | omega | exact nl rfl) rfl ?_ | refine wk tab_ok rfl rfl rfl rfl rfl rfl rfl (by first | exact ⟨by omega, by omega⟩ | (simp; omega)) rfl rfl ?_ | refine uX rfl rfl rfl rfl rfl rfl rfl ?_ | refine u2 tab_ok rfl rfl rfl rfl rfl rfl (by first | exact trivial | omega) rfl ?_) | refine yp (by simp) rfl rfl rfl rfl ?_ ?_ | refine uA rfl ?_ | refine r_g rfl rfl rfl ?_ | refine ux rfl rfl (congrArg (fun b => AV.val (.bool b)) (xw (by omega))) rfl rfl rfl rfl ?_ | refine vG rfl rfl (congrArg (fun b => AV.val (.bool b)) (xw (by omega))) rfl rfl rfl ?_)
      all_goals exact Sub.refl _
  | a :: b :: r, _, _, hl, hlm =>
    have hne : ¬ (((a :: b :: r).length : Nat) : Int) = 1 := by simp only [List.length_cons]; omega
    repeat (first | refine uf ?_ | refine uc ?_ | refine ud ?_ | refine un ?_ | refine ur ?_ | refine ug ?_ | (refine uk ?_; first | refine vf tab_ok rfl rfl rfl rfl rfl rfl rfl ?_ | refine ul tab_ok rfl rfl rfl rfl (by first | exact trivial | omega | exact nl rfl) rfl ?_ | refine uB tab_ok rfl rfl rfl rfl rfl rfl (by first | exact fun _ => rfl | exact cs1 | exact cs2 | exact cs3) (by first | exact fun _ => trivial | (intro h; simp at h; omega)) rfl ?_ | refine ze tab_ok rfl rfl rfl rfl rfl rfl rfl (by first | exact fun _ => rfl | exact cs1 | exact cs2 | exact cs3) rfl rfl (by first | (intro h; simp at h; exact ⟨by omega, by omega⟩) | (intro h; simp only [Bool.and_eq_true, Bool.or_eq_false_iff, beq_iff_eq, decide_eq_false_iff_not, decide_eq_true_eq] at h; exact ⟨by omega, by omega⟩)) rfl rfl ?_ | refine we rfl rfl rfl rfl rfl rfl rfl rfl ?_ | refine ux rfl rfl rfl rfl rfl rfl rfl ?_ | refine vG rfl rfl rfl rfl rfl rfl ?_) | refine yp (by simp) rfl rfl rfl rfl ?_ ?_ | refine uA rfl ?_)
    all_goals exact Sub.refl _
def nonS : ByteArray := ⟨#[110, 111, 110, 101]⟩
def styF (l : List Nd) : ByteArray × Bool := if aloF l = nonS then (nonS, true) else nmF l
def ltyF1 : List Nd → ByteArray × Bool
  | [n] => if n.tok.kind = 5 then (⟨#[34]⟩ ++ n.tok.text, true) else styF [n]
  | l => styF l
end Go.Proofs.YtllmagfmbglefaaDoor

/- prop.pair, pairs; walked. -/
namespace Go.Proofs.YtllmagfmbglefaaDoor
open Go Go.RowKit
set_option maxRecDepth 20000

structure Pr where
  name : ByteArray
  n : Int
  rev : Bool
  auto : Bool
def prD (p : Pr) : D := .ag [.val (.string p.name), .val (.int .i64 p.n), .val (.bool p.rev), .val (.bool p.auto)]
def prA (p : Pr) : AV := .agg [.val (.string p.name), .val (.int .i64 p.n), .val (.bool p.rev), .val (.bool p.auto)]
def revS : ByteArray := ⟨#[114, 101, 118, 101, 114, 115, 101, 100]⟩
def isFn (n : Nd) (w : ByteArray) : Bool := decide (n.tok.kind = 2) && decide (v7 n.tok.text = w)
def tigF (l : List Nd) : List Nd := l.filter fun n => !whN n
def pairF1 : List Nd → Pr × Bool
  | [m] => (⟨(cntF m).1, 0, true, true⟩, (cntF m).2)
  | _ => (⟨⟨#[]⟩, 0, false, false⟩, false)
def pairF (n : Nd) (d : Int) (rev : Bool) : Pr × Bool :=
  if rev && isFn n revS then pairF1 (tigF n.kids) else (⟨(cntF n).1, d, false, false⟩, (cntF n).2)
theorem tigF_mem {l : List Nd} {n : Nd} (h : n ∈ tigF l) : n ∈ l := (List.mem_filter.1 h).1
/-- Pairs, one behind the other. -/
def prsF (d : Int) (rev : Bool) : List Nd → List Pr → Option (List Pr)
  | [], acc => some acc
  | [n], acc => if (pairF n d rev).2 then some (acc ++ [(pairF n d rev).1]) else none
  | n :: m :: r, acc =>
    if (pairF n d rev).2 then
      (if m.tok.kind = 10 then
        (if m.tok.whole then prsF d rev r (acc ++ [{ (pairF n d rev).1 with n := m.tok.int, auto := false }]) else none)
      else prsF d rev (m :: r) (acc ++ [(pairF n d rev).1]))
    else none
def nonS2 : ByteArray := ⟨#[110, 111, 110, 101]⟩
def kf (l : List Nd) (d : Int) (rev : Bool) : List Pr × Bool :=
  if aloF l = nonS2 then ([], true) else
  match prsF d rev l [] with
  | none => ([], false)
  | some a => (a, decide (1 ≤ a.length) && decide (a.length ≤ 32))
structure PrS (d : Int) (rev : Bool) (l : List Nd) where
  rest : List Nd
  acc : List Pr
  sub : ∀ n ∈ rest, n ∈ l
  sz : vu rest ≤ vu l
  ln : acc.length + rest.length ≤ l.length
  eq : prsF d rev rest acc = prsF d rev l []
end Go.Proofs.YtllmagfmbglefaaDoor

/- nest.Split, for a seat without nest.Ones (XNb on its own). -/
namespace Go.Proofs.YtllmagfmbglefaaDoor
open Go Go.RowKit
set_option maxRecDepth 20000

section
variable {P : Program} {o : Oper} {M M' : List AB} {ρ ρ' : Operand → AV} {out : AV}
/-- What is known of the operands may be weakened. -/
theorem AStep.sub (h : AStep P o M ρ' M' out) (hs : ∀ x ∈ o.op.operands, Sub (ρ x) (ρ' x)) : AStep P o M ρ M' out :=
  fun S B β a w hm hh K Q hK => h S B β a w hm (fun x hx => hs x hx _ _ _ _ _ (hh x hx)) K Q hK
theorem vals_sat_ {M : List AB} {β : Env} {w : World} {imm : Nat → Prop} : ∀ l : List Value, AVsats M β w imm (l.map .val) l
  | [] => rfl
  | v :: r => ⟨v, r, rfl, rfl, vals_sat_ r⟩
theorem sub_agg (cs : Array Value) : Sub (.val (.agg cs)) (.agg (cs.toList.map .val)) := fun M β w imm v h => by
  have h : v = .agg cs := h
  subst h
  exact ⟨cs, rfl, vals_sat_ _⟩
/-- A constant struct, taken apart. -/
def unagg (ρ : Operand → AV) (x : Operand) : AV := match ρ x with
  | .val (.agg cs) => .agg (cs.toList.map .val)
  | y => y
theorem unagg_sub (ρ : Operand → AV) (x : Operand) : Sub (ρ x) (unagg ρ x) := by
  unfold unagg
  split
  · rename_i cs h
    rw [h]
    exact sub_agg cs
  · exact Sub.refl _
end
def zD : D := .ag [.val (.int .i64 0), .val (.string ⟨#[]⟩), .val (.int .i64 0), .val (.bool false), .val (.bool false), .val (.bool false), .val (.slice none 0 0)]
def cmB (n : Nd) : Bool := decide (n.tok.kind = 18)
def xR : List Nd → List (List Nd) → List Nd → List (List Nd)
  | [], pre, cur => pre ++ [cur]
  | n :: r, pre, cur => if cmB n = true then xR r (pre ++ [cur]) [] else xR r pre (cur ++ [n])
def wT (l : List Nd) : List (List Nd) := xR l [] []
theorem yn : ∀ (l : List Nd) (pre : List (List Nd)) (cur : List Nd), (xR l pre cur).length = pre.length + 1 + l.countP cmB
  | [], pre, cur => by rw [xR, List.length_append, List.length_singleton]; rfl
  | n :: r, pre, cur => by
    rw [xR, List.countP_cons]
    split
    · rw [yn, List.length_append, List.length_singleton]; omega
    · rw [yn]; omega
structure SS (l : List Nd) where
  i : Nat
  pre : List (List Nd)
  cur : List Nd
  hi : i ≤ l.length
  h1 : pre.length ≤ i
  h2 : cur.length ≤ i
  eq : xR (l.drop i) pre cur = wT l
def nds (l : List Nd) : D := .sl 7 (l.map nF)
theorem nds_fine (l : List Nd) : (nds l).fine := by rw [nds, D.fine]; trivial
set_option maxHeartbeats 2000000 in
theorem split_ok (n : Nat) (l : List Nd) (hn : vu l < n) (hb : n ≤ 1099511627776) : uV Tryd.prog 117 [.sl 7 (l.map nF)] (.sl 1 ((wT l).map nds)) := by
  refine u1 Tryd.func117 Tryd.ntmps117 rfl rfl rfl fun S w => ?_
  have hll := wa l
  have hlm : (l.map nF).length = l.length := List.length_map _
  repeat (first | refine uf ?_ | refine ud ?_ | refine ug ?_ | (refine uk ?_; first | refine ul tab_ok rfl rfl rfl rfl (by first | exact trivial | omega | exact nl rfl) rfl ?_))
  refine zA tab_ok rfl rfl rfl rfl rfl rfl rfl rfl rfl ?_
  repeat (first | refine uf ?_ | refine ud ?_ | refine ug ?_ | (refine uk ?_; first | refine ul tab_ok rfl rfl rfl rfl (by first | exact trivial | omega | exact nl rfl) rfl ?_))
  refine um (zZ n l hn hb) zL rfl rfl ⟨Sub.refl _, trivial⟩ rfl rfl rfl rfl ?_
  repeat (first | refine uc ?_ | refine uw ?_ | refine ug ?_ | (refine uk ?_; first | refine vf tab_ok rfl rfl rfl rfl rfl rfl rfl ?_ | refine ul tab_ok rfl rfl rfl rfl (by first | exact trivial | omega | exact nl rfl) rfl ?_))
  refine vk (σ := SS l) (fun x => [.rowo 0 56 1 (x.pre.map nds) 1 [.row 1 0], .row 0 80 7 (x.cur.map nF)]) (fun x => [(3, .row 0 0), (8, .sl 7 (l.map nF)), (9, .val (.int .i64 l.length)), (10, .val (.int .i64 x.i))]) (fun x => l.length - x.i) ⟨0, [], [], Nat.zero_le _, Nat.le_refl _, Nat.le_refl _, rfl⟩
    (wu (fits_open (i := 0) (pre := []) rfl) (uK (by repeat' first | exact trivial | exact rfl | (rw [List.map_append]; first | done | rfl) | exact ue rfl (Sub.refl _) rfl | exact ut rfl rfl | exact uo rfl rfl rfl | exact uj rfl rfl rfl | exact uj rfl rfl (by rw [List.map_append]; first | done | rfl) | exact uh rfl rfl rfl rfl | exact Or.inl ⟨ue rfl (Sub.refl _) rfl, uh rfl rfl rfl rfl⟩ | exact uu rfl rfl rfl rfl | exact uC rfl rfl | exact uD rfl rfl | exact ue rfl (Sub.altl _ _) rfl | exact ue rfl (Sub.nil _) rfl | refine ⟨_, _, rfl, ?_, ?_⟩ | apply And.intro) (by repeat' first | exact trivial | exact rfl | (rw [List.map_append]; first | done | rfl) | exact ue rfl (Sub.refl _) rfl | exact ut rfl rfl | exact uo rfl rfl rfl | exact uj rfl rfl rfl | exact uj rfl rfl (by rw [List.map_append]; first | done | rfl) | exact uh rfl rfl rfl rfl | exact Or.inl ⟨ue rfl (Sub.refl _) rfl, uh rfl rfl rfl rfl⟩ | exact uu rfl rfl rfl rfl | exact uC rfl rfl | exact uD rfl rfl | exact ue rfl (Sub.altl _ _) rfl | exact ue rfl (Sub.nil _) rfl | refine ⟨_, _, rfl, ?_, ?_⟩ | apply And.intro))) ?_
  rintro ⟨i, pre, cur, hi, h1, h2, heq⟩
  dsimp only
  have hpl : (pre.map nds).length = pre.length := List.length_map _
  have hcl : (cur.map nF).length = cur.length := List.length_map _
  repeat (first | refine uf ?_ | refine ud ?_ | refine ug ?_ | (refine uk ?_; first | refine ul tab_ok rfl rfl rfl rfl (by first | exact trivial | omega | exact nl rfl) rfl ?_))
  refine uz rfl (fun hlt => ?_) (fun hge => ?_)
  · have hlt' : i < l.length := by omega
    have hi' : ((i : Nat) : Int).toNat < l.length := by simp only [Int.toNat_natCast]; exact hlt'
    rw [List.drop_eq_getElem_cons hlt', xR] at heq
    repeat (first | refine uf ?_ | refine uc ?_ | refine uw ?_ | refine ud ?_ | refine uq ?_ | refine ug ?_ | (refine uk ?_; first | refine ul tab_ok rfl rfl rfl rfl (by first | exact trivial | omega | exact nl rfl) rfl ?_ | refine u9 tab_ok rfl rfl rfl rfl rfl ?_ | refine wk tab_ok rfl rfl rfl rfl rfl rfl rfl (by first | exact ⟨by omega, by omega⟩ | (simp; omega)) rfl rfl ?_ | refine vI tab_ok rfl rfl rfl rfl rfl ?_ | refine u3 tab_ok rfl rfl rfl rfl ?_))
    refine uH rfl (fun hc => ?_) (fun hc => ?_)
    · simp only [Int.toNat_natCast] at hc
      rw [if_pos (show cmB l[i] = true from hc)] at heq
      refine vM (s' := ⟨[.rowo 0 56 1 (pre.map nds) 1 [.row 1 0], .row 0 80 7 (cur.map nF)], [(3, .row 0 0), (5, .dptr (ncl (l[((i : Nat) : Int).toNat]'hi'))), (8, .sl 7 (l.map nF)), (9, .val (.int .i64 l.length)), (10, .val (.int .i64 i))]⟩) (wu (fits_sinkp (i := 2) (d := 5) rfl rfl rfl) (vz 2 rfl rfl ⟨⟨rfl, Sub.refl _⟩, ⟨rfl, Sub.refl _⟩, ⟨rfl, Sub.refl _⟩, ⟨rfl, Sub.refl _⟩, ⟨rfl, Sub.refl _⟩, trivial⟩)) ?_
      repeat (first | refine uf ?_ | refine ud ?_ | (refine uk ?_; first | refine ul tab_ok rfl rfl rfl rfl (by first | exact trivial | omega | exact nl rfl) rfl ?_ | refine vd tab_ok rfl rfl rfl rfl rfl rfl rfl rfl rfl ?_))
      refine r_append_o tab_ok rfl rfl rfl rfl rfl rfl rfl rfl rfl (by rw [hpl]; show (pre.length + 1 + 1) * 24 ≤ 140737488355328; omega) rfl rfl ?_
      repeat (first | refine uc ?_ | refine ud ?_ | refine uP ?_ | refine ug ?_ | (refine uk ?_; first | refine ul tab_ok rfl rfl rfl rfl (by first | exact trivial | omega | exact nl rfl) rfl ?_))
      refine ⟨⟨i + 1, pre ++ [cur], [], hlt', by rw [List.length_append, List.length_singleton]; omega, Nat.zero_le _, heq⟩, by dsimp only; omega, ?_⟩
      dsimp only
      rw [List.map_append]
      refine wu (s' := ⟨[.rowo 0 56 1 (pre.map nds) 2 [.sl 7 (cur.map nF), .val (.slice none 0 0)], .gone], [(3, .row 0 0), (8, .sl 7 (l.map nF)), (9, .val (.int .i64 l.length)), (10, .val (.int .i64 ((i + 1 : Nat) : Int)))]⟩) (uK (by repeat' first | exact trivial | exact rfl | (rw [List.map_append]; first | done | rfl) | exact ue rfl (Sub.refl _) rfl | exact ut rfl rfl | exact uo rfl rfl rfl | exact uj rfl rfl rfl | exact uj rfl rfl (by rw [List.map_append]; first | done | rfl) | exact uh rfl rfl rfl rfl | exact Or.inl ⟨ue rfl (Sub.refl _) rfl, uh rfl rfl rfl rfl⟩ | exact uu rfl rfl rfl rfl | exact uC rfl rfl | exact uD rfl rfl | exact ue rfl (Sub.altl _ _) rfl | exact ue rfl (Sub.nil _) rfl | refine ⟨_, _, rfl, ?_, ?_⟩ | apply And.intro) (by repeat' first | exact trivial | exact rfl | (rw [List.map_append]; first | done | rfl) | exact ue rfl (Sub.refl _) rfl | exact ut rfl rfl | exact uo rfl rfl rfl | exact uj rfl rfl rfl | exact uj rfl rfl (by rw [List.map_append]; first | done | rfl) | exact uh rfl rfl rfl rfl | exact Or.inl ⟨ue rfl (Sub.refl _) rfl, uh rfl rfl rfl rfl⟩ | exact uu rfl rfl rfl rfl | exact uC rfl rfl | exact uD rfl rfl | exact ue rfl (Sub.altl _ _) rfl | exact ue rfl (Sub.nil _) rfl | refine ⟨_, _, rfl, ?_, ?_⟩ | apply And.intro)) ?_
      refine wu (fits_shut (i := 0) (nds cur) rfl (nds_fine cur) rfl) ?_
      refine wu (s' := ⟨[.rowo 0 56 1 (pre.map nds ++ [nds cur]) 1 [.val (.slice none 0 0)]], [(3, .row 0 0), (8, .sl 7 (l.map nF)), (9, .val (.int .i64 l.length)), (10, .val (.int .i64 ((i + 1 : Nat) : Int)))]⟩) (vz 1 rfl rfl ⟨⟨rfl, Sub.refl _⟩, ⟨rfl, Sub.refl _⟩, ⟨rfl, Sub.refl _⟩, ⟨rfl, Sub.refl _⟩, trivial⟩) ?_
      exact uK (by repeat' first | exact trivial | exact rfl | (rw [List.map_append]; first | done | rfl) | exact ue rfl (Sub.refl _) rfl | exact ut rfl rfl | exact uo rfl rfl rfl | exact uj rfl rfl rfl | exact uj rfl rfl (by rw [List.map_append]; first | done | rfl) | exact uh rfl rfl rfl rfl | exact Or.inl ⟨ue rfl (Sub.refl _) rfl, uh rfl rfl rfl rfl⟩ | exact uu rfl rfl rfl rfl | exact uC rfl rfl | exact uD rfl rfl | exact ue rfl (Sub.altl _ _) rfl | exact ue rfl (Sub.nil _) rfl | refine ⟨_, _, rfl, ?_, ?_⟩ | apply And.intro) (by repeat' first | exact trivial | exact rfl | (rw [List.map_append]; first | done | rfl) | exact ue rfl (Sub.refl _) rfl | exact ut rfl rfl | exact uo rfl rfl rfl | exact uj rfl rfl rfl | exact uj rfl rfl (by rw [List.map_append]; first | done | rfl) | exact uh rfl rfl rfl rfl | exact Or.inl ⟨ue rfl (Sub.refl _) rfl, uh rfl rfl rfl rfl⟩ | exact uu rfl rfl rfl rfl | exact uC rfl rfl | exact uD rfl rfl | exact ue rfl (Sub.altl _ _) rfl | exact ue rfl (Sub.nil _) rfl | refine ⟨_, _, rfl, ?_, ?_⟩ | apply And.intro)
    · simp only [Int.toNat_natCast] at hc
      rw [if_neg (by rw [show cmB l[i] = false from hc]; decide)] at heq
      refine vM (s' := ⟨[.rowo 0 56 1 (pre.map nds) 1 [.row 1 0], .row 0 80 7 (cur.map nF)], [(3, .row 0 0), (5, .dptr (ncl (l[((i : Nat) : Int).toNat]'hi'))), (8, .sl 7 (l.map nF)), (9, .val (.int .i64 l.length)), (10, .val (.int .i64 i))]⟩) (wu (fits_sinkp (i := 2) (d := 5) rfl rfl rfl) (vz 2 rfl rfl ⟨⟨rfl, Sub.refl _⟩, ⟨rfl, Sub.refl _⟩, ⟨rfl, Sub.refl _⟩, ⟨rfl, Sub.refl _⟩, ⟨rfl, Sub.refl _⟩, trivial⟩)) ?_
      repeat (first | refine uf ?_ | refine uq ?_)
      refine a_coin tab_ok vb rfl rfl rfl rfl rfl rfl rfl rfl rfl rfl rfl rfl rfl rfl rfl rfl rfl (by kernel_rfl) (by kernel_rfl) (by kernel_rfl) (by kernel_rfl) (by kernel_rfl) (by kernel_rfl) (fun b => rfl) (fun b => ?_)
      refine vM (s' := ⟨[.rowo 0 56 1 (pre.map nds) 1 [.row 1 0], .row 0 80 7 (cur.map nF)], [(3, .row 0 0), (5, .dptr (ncl (l[((i : Nat) : Int).toNat]'hi'))), (8, .sl 7 (l.map nF)), (9, .val (.int .i64 l.length)), (10, .val (.int .i64 i)), (22, .val (.bool b))]⟩) (vz 2 rfl rfl ⟨⟨rfl, Sub.refl _⟩, ⟨rfl, Sub.refl _⟩, ⟨rfl, Sub.refl _⟩, ⟨rfl, Sub.refl _⟩, ⟨rfl, Sub.refl _⟩, ⟨rfl, Sub.refl _⟩, trivial⟩) ?_
      have hj : ((((pre.map nds).length + 1 : Nat) : Int) - 1).toNat = (pre.map nds).length := by omega
      have hclt : ((((cur.map nF).length : Nat) : Int)).toNat = (cur.map nF).length := Int.toNat_natCast _
      refine uH rfl (fun hb => ?_) (fun hb => ?_)
      · subst hb
        repeat (first | refine uf ?_)
        refine a_draw rfl (List.replicate 13 1 ++ [2, 1, 2]) (by kernel_rfl) ?_
        repeat (first | (refine uk ?_; first | refine ul tab_ok rfl rfl rfl rfl (by first | exact trivial | omega | exact nl rfl) rfl ?_) | refine r_len_o tab_ok rfl rfl rfl rfl rfl rfl rfl rfl ?_)
        refine r_idx_o tab_ok rfl rfl rfl rfl rfl rfl rfl rfl (by omega) (by omega) rfl ?_
        rw [hj]
        refine r_ld_o tab_ok rfl rfl rfl rfl rfl (o' := 0) rfl rfl rfl rfl rfl ?_
        repeat (first | (refine uk ?_; first | refine ul tab_ok rfl rfl rfl rfl (by first | exact trivial | omega | exact nl rfl) rfl ?_ | refine u9 tab_ok rfl rfl rfl rfl rfl ?_))
        refine r_by1 (AStep.sub (astep_buildSlice (ρ := unagg _) (ds := [zD]) tab_ok rfl rfl rfl rfl rfl) (fun x _ => unagg_sub _ x)) rfl rfl rfl rfl rfl ?_
        refine vT tab_ok rfl rfl rfl rfl rfl rfl rfl rfl rfl (by rw [hcl]; simp; omega) rfl ?_
        refine r_idx_o tab_ok rfl rfl rfl rfl rfl rfl rfl rfl (by omega) (by omega) rfl ?_
        rw [hj]
        refine r_by2n (astep_store_o tab_ok rfl rfl rfl rfl (o' := 0) rfl rfl rfl rfl) rfl rfl rfl ?_
        repeat (first | refine uc ?_ | refine ud ?_ | refine uQ ?_)
        refine yq tab_ok rfl rfl rfl rfl rfl rfl rfl rfl ⟨by omega, by rw [hclt, List.length_append]; exact Nat.lt_succ_self _⟩ rfl ?_
        refine r_by2n (astep_store_e (d := zD) (xd := nF (l[((i : Nat) : Int).toNat]'hi')) (r := nF (l[((i : Nat) : Int).toNat]'hi')) tab_ok rfl rfl rfl rfl (by rw [hclt, List.getElem?_append_right (Nat.le_refl _), Nat.sub_self]; rfl) rfl rfl rfl rfl rfl) rfl rfl rfl ?_
        repeat (first | refine uc ?_ | refine ud ?_ | refine ug ?_ | (refine uk ?_; first | refine ul tab_ok rfl rfl rfl rfl (by first | exact trivial | omega | exact nl rfl) rfl ?_))
        refine ⟨⟨i + 1, pre, cur ++ [l[i]], hlt', by omega, by rw [List.length_append, List.length_singleton]; omega, heq⟩, by dsimp only; omega, ?_⟩
        dsimp only
        rw [List.map_append]
        have e : (cur.map nF ++ [zD]).set ((((cur.map nF).length : Nat) : Int)).toNat (nF l[i]) = cur.map nF ++ [l[i]].map nF := by rw [hclt, List.set_append_right _ _ (Nat.le_refl _), Nat.sub_self]; rfl
        rw [← e]
        exact uK (by repeat' first | exact trivial | exact rfl | (rw [List.map_append]; first | done | rfl) | exact ue rfl (Sub.refl _) rfl | exact ut rfl rfl | exact uo rfl rfl rfl | exact uj rfl rfl rfl | exact uj rfl rfl (by rw [List.map_append]; first | done | rfl) | exact uh rfl rfl rfl rfl | exact Or.inl ⟨ue rfl (Sub.refl _) rfl, uh rfl rfl rfl rfl⟩ | exact uu rfl rfl rfl rfl | exact uC rfl rfl | exact uD rfl rfl | exact ue rfl (Sub.altl _ _) rfl | exact ue rfl (Sub.nil _) rfl | refine ⟨_, _, rfl, ?_, ?_⟩ | apply And.intro) (by repeat' first | exact trivial | exact rfl | (rw [List.map_append]; first | done | rfl) | exact ue rfl (Sub.refl _) rfl | exact ut rfl rfl | exact uo rfl rfl rfl | exact uj rfl rfl rfl | exact uj rfl rfl (by rw [List.map_append]; first | done | rfl) | exact uh rfl rfl rfl rfl | exact Or.inl ⟨ue rfl (Sub.refl _) rfl, uh rfl rfl rfl rfl⟩ | exact uu rfl rfl rfl rfl | exact uC rfl rfl | exact uD rfl rfl | exact ue rfl (Sub.altl _ _) rfl | exact ue rfl (Sub.nil _) rfl | refine ⟨_, _, rfl, ?_, ?_⟩ | apply And.intro)
      · subst hb
        refine a_draw rfl [0, 0, 11, 0, 1, 1, 1, 1, 1, 1, 1, 1, 12, 1, 2] (by kernel_rfl) ?_
        repeat (first | (refine uk ?_; first | refine ul tab_ok rfl rfl rfl rfl (by first | exact trivial | omega | exact nl rfl) rfl ?_))
        refine r_byrd 1 (fun M2 h => astep_len_o tab_ok rfl rfl rfl (agree_at 0 h rfl rfl)) rfl rfl rfl rfl rfl ?_
        repeat (first | (refine uk ?_; first | refine ul tab_ok rfl rfl rfl rfl (by first | exact trivial | omega | exact nl rfl) rfl ?_) | refine r_len_o tab_ok rfl rfl rfl rfl rfl rfl rfl rfl ?_)
        refine r_idx_o tab_ok rfl rfl rfl rfl rfl rfl rfl rfl (by omega) (by omega) rfl ?_
        rw [hj]
        refine r_ld_o tab_ok rfl rfl rfl rfl rfl (o' := 0) rfl rfl rfl rfl rfl ?_
        repeat (first | (refine uk ?_; first | refine ul tab_ok rfl rfl rfl rfl (by first | exact trivial | omega | exact nl rfl) rfl ?_ | refine vd tab_ok rfl rfl rfl rfl rfl rfl rfl rfl rfl ?_))
        refine r_bykp 1 (astep_append tab_ok rfl rfl rfl rfl rfl rfl (by rw [hcl]; simp; omega)) (agree_set rfl) rfl rfl rfl rfl rfl ?_
        refine r_idx_o tab_ok rfl rfl rfl rfl rfl rfl rfl rfl (by omega) (by omega) rfl ?_
        rw [hj]
        refine r_by2n (astep_store_o tab_ok rfl rfl rfl rfl (o' := 0) rfl rfl rfl rfl) rfl rfl rfl ?_
        repeat (first | refine uc ?_ | refine ud ?_ | refine ug ?_ | refine uQ ?_ | (refine uk ?_; first | refine ul tab_ok rfl rfl rfl rfl (by first | exact trivial | omega | exact nl rfl) rfl ?_))
        refine ⟨⟨i + 1, pre, cur ++ [l[i]], hlt', by omega, by rw [List.length_append, List.length_singleton]; omega, heq⟩, by dsimp only; omega, ?_⟩
        dsimp only
        rw [List.map_append]
        exact uK (by repeat' first | exact trivial | exact rfl | (rw [List.map_append]; first | done | rfl) | exact ue rfl (Sub.refl _) rfl | exact ut rfl rfl | exact uo rfl rfl rfl | exact uj rfl rfl rfl | exact uj rfl rfl (by rw [List.map_append]; first | done | rfl) | exact uh rfl rfl rfl rfl | exact Or.inl ⟨ue rfl (Sub.refl _) rfl, uh rfl rfl rfl rfl⟩ | exact uu rfl rfl rfl rfl | exact uC rfl rfl | exact uD rfl rfl | exact ue rfl (Sub.altl _ _) rfl | exact ue rfl (Sub.nil _) rfl | refine ⟨_, _, rfl, ?_, ?_⟩ | apply And.intro) (by repeat' first | exact trivial | exact rfl | (rw [List.map_append]; first | done | rfl) | exact ue rfl (Sub.refl _) rfl | exact ut rfl rfl | exact uo rfl rfl rfl | exact uj rfl rfl rfl | exact uj rfl rfl (by rw [List.map_append]; first | done | rfl) | exact uh rfl rfl rfl rfl | exact Or.inl ⟨ue rfl (Sub.refl _) rfl, uh rfl rfl rfl rfl⟩ | exact uu rfl rfl rfl rfl | exact uC rfl rfl | exact uD rfl rfl | exact ue rfl (Sub.altl _ _) rfl | exact ue rfl (Sub.nil _) rfl | refine ⟨_, _, rfl, ?_, ?_⟩ | apply And.intro)
  · rw [List.drop_of_length_le (by omega), xR] at heq
    rw [← heq, List.map_append]
    refine vM (s' := ⟨[.rowo 0 56 1 (pre.map nds) 1 [.sl 7 (cur.map nF)], .gone], [(3, .row 0 0)]⟩) (uK (by repeat' first | exact trivial | exact rfl | (rw [List.map_append]; first | done | rfl) | exact ue rfl (Sub.refl _) rfl | exact ut rfl rfl | exact uo rfl rfl rfl | exact uj rfl rfl rfl | exact uj rfl rfl (by rw [List.map_append]; first | done | rfl) | exact uh rfl rfl rfl rfl | exact Or.inl ⟨ue rfl (Sub.refl _) rfl, uh rfl rfl rfl rfl⟩ | exact uu rfl rfl rfl rfl | exact uC rfl rfl | exact uD rfl rfl | exact ue rfl (Sub.altl _ _) rfl | exact ue rfl (Sub.nil _) rfl | refine ⟨_, _, rfl, ?_, ?_⟩ | apply And.intro) (by repeat' first | exact trivial | exact rfl | (rw [List.map_append]; first | done | rfl) | exact ue rfl (Sub.refl _) rfl | exact ut rfl rfl | exact uo rfl rfl rfl | exact uj rfl rfl rfl | exact uj rfl rfl (by rw [List.map_append]; first | done | rfl) | exact uh rfl rfl rfl rfl | exact Or.inl ⟨ue rfl (Sub.refl _) rfl, uh rfl rfl rfl rfl⟩ | exact uu rfl rfl rfl rfl | exact uC rfl rfl | exact uD rfl rfl | exact ue rfl (Sub.altl _ _) rfl | exact ue rfl (Sub.nil _) rfl | refine ⟨_, _, rfl, ?_, ?_⟩ | apply And.intro)) ?_
    refine vM (fits_close (i := 0) (nds cur) 3 rfl rfl rfl (nds_fine cur)) ?_
    repeat (first | refine uf ?_ | refine uc ?_ | refine ud ?_ | refine un ?_ | refine uP ?_ | refine ug ?_ | (refine uk ?_; first | refine ul tab_ok rfl rfl rfl rfl (by first | exact trivial | omega | exact nl rfl) rfl ?_) | refine vh (by simp) rfl rfl rfl ?_)
    exact Sub.refl _
end Go.Proofs.YtllmagfmbglefaaDoor

/- prop.counted; walked. -/
namespace Go.Proofs.YtllmagfmbglefaaDoor
open Go Go.RowKit
set_option maxRecDepth 20000

structure It where
  kind : Int
  text : ByteArray
  sep : ByteArray
  style : ByteArray
def itA (x : It) : AV := .agg [.val (.int .i64 x.kind), .val (.string x.text), .val (.string x.sep), .val (.string x.style)]
def itD (x : It) : D := .ag [.val (.int .i64 x.kind), .val (.string x.text), .val (.string x.sep), .val (.string x.style)]
def decS : ByteArray := ⟨#[100, 101, 99, 105, 109, 97, 108]⟩
/-- The style behind. -/
def ctSt (k : Int) (t s : ByteArray) : List (List Nd) → It × Bool
  | [] => (⟨k, t, s, decS⟩, true)
  | p :: _ => (⟨k, t, s, (styF p).1⟩, (styF p).2)
def ctP3 : List (List Nd) → It × Bool
  | [c] :: r => if r.length ≤ 1 then (if (cntF c).2 then ctSt 3 (cntF c).1 ⟨#[]⟩ r else (⟨3, (cntF c).1, ⟨#[]⟩, ⟨#[]⟩⟩, false)) else (⟨3, ⟨#[]⟩, ⟨#[]⟩, ⟨#[]⟩⟩, false)
  | _ => (⟨3, ⟨#[]⟩, ⟨#[]⟩, ⟨#[]⟩⟩, false)
def ctP4 : List (List Nd) → It × Bool
  | [c] :: b :: r =>
    if r.length ≤ 1 then
      (if (cntF c).2 then
        (match b with
        | [m] => if m.tok.kind = 5 then ctSt 4 (cntF c).1 m.tok.text r else (⟨4, (cntF c).1, ⟨#[]⟩, ⟨#[]⟩⟩, false)
        | _ => (⟨4, (cntF c).1, ⟨#[]⟩, ⟨#[]⟩⟩, false))
      else (⟨4, (cntF c).1, ⟨#[]⟩, ⟨#[]⟩⟩, false))
    else (⟨4, ⟨#[]⟩, ⟨#[]⟩, ⟨#[]⟩⟩, false)
  | _ => (⟨4, ⟨#[]⟩, ⟨#[]⟩, ⟨#[]⟩⟩, false)
theorem qW : ∀ (l : List Nd) (pre : List (List Nd)) (cur : List Nd), ∀ p ∈ xR l pre cur, p ∈ pre ∨ (vu p ≤ vu cur + vu l ∧ ∀ n ∈ p, n ∈ cur ∨ n ∈ l)
  | [], pre, cur, p, h => by
    rw [xR, List.mem_append, List.mem_singleton] at h
    rcases h with h | rfl
    · exact .inl h
    · exact .inr ⟨by omega, fun n hn => .inl hn⟩
  | n :: r, pre, cur, p, h => by
    rw [xR] at h
    split at h
    · rcases qW r _ _ p h with h2 | ⟨h2, h3⟩
      · rw [List.mem_append, List.mem_singleton] at h2
        rcases h2 with h2 | rfl
        · exact .inl h2
        · exact .inr ⟨by omega, fun n hn => .inl hn⟩
      · refine .inr ⟨by simp only [vu] at h2 ⊢; omega, fun m hm => ?_⟩
        rcases h3 m hm with h4 | h4
        · cases h4
        · exact .inr (List.mem_cons_of_mem _ h4)
    · rcases qW r _ _ p h with h2 | ⟨h2, h3⟩
      · exact .inl h2
      · refine .inr ⟨by rw [yE] at h2; simp only [vu] at h2 ⊢; omega, fun m hm => ?_⟩
        rcases h3 m hm with h4 | h4
        · rw [List.mem_append, List.mem_singleton] at h4
          rcases h4 with h4 | rfl
          · exact .inl h4
          · exact .inr (List.mem_cons_self)
        · exact .inr (List.mem_cons_of_mem _ h4)
theorem qX {l p : List Nd} (h : p ∈ wT l) : vu p ≤ vu l ∧ ∀ n ∈ p, n ∈ l := by
  rcases qW l [] [] p h with h | ⟨h1, h2⟩
  · cases h
  · refine ⟨by simp only [vu] at h1; omega, fun n hn => ?_⟩
    rcases h2 n hn with h | h
    · cases h
    · exact h
end Go.Proofs.YtllmagfmbglefaaDoor
