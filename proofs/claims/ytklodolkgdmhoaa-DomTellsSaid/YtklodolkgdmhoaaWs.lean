/- The reference's tree: Lower, NewTree. -/
import Derived.Test.YtklodolkgdmhoaaWh
namespace Go.Proofs.Ytklodolkgdmhoaa
open Go Go.RowKit

def mixL (l : List UInt8) (i : Nat) : List UInt8 := lowL (l.take i) ++ l.drop i
theorem mixL_len (l : List UInt8) (i : Nat) : (mixL l i).length = l.length := by simp [mixL, lowL]; omega
theorem mixL_at' {l : List UInt8} {i : Nat} (h : i < l.length) : (mixL l i)[i]? = some l[i] := by
  unfold mixL
  have e : (lowL (l.take i)).length = i := by simp [lowL]; omega
  rw [List.getElem?_append_right (by omega), e, Nat.sub_self, List.getElem?_drop, Nat.add_zero, List.getElem?_eq_getElem h]
theorem mixL_at {l : List UInt8} {i : Nat} (h : i < l.length) (h' : i < (mixL l i).length) : (mixL l i)[i]'h' = l[i] := by
  have := mixL_at' h
  rw [List.getElem?_eq_getElem h'] at this
  exact Option.some.inj this
theorem mixL_set {l : List UInt8} {i : Nat} (h : i < l.length) : (mixL l i).set i (lowB l[i]) = mixL l (i + 1) := by
  unfold mixL
  have e : (lowL (l.take i)).length = i := by simp [lowL]; omega
  rw [List.set_append_right _ _ (by omega), List.drop_eq_getElem_cons h, e, Nat.sub_self, List.set_cons_zero, List.take_add_one, List.getElem?_eq_getElem h]
  simp only [lowL, List.map_append, Option.toList_some, List.map_cons, List.map_nil, List.append_assoc, List.cons_append, List.nil_append]
theorem mixL_same {l : List UInt8} {i : Nat} (h : i < l.length) (hb : lowB l[i] = l[i]) : mixL l i = mixL l (i + 1) := by
  rw [← mixL_set h, hb]
  apply List.ext_getElem (by simp)
  intro j h1 h2
  by_cases hj : i = j
  · subst hj; simp [mixL_at h]
  · simp [List.getElem_set_ne hj]

theorem refLow_ok (s : ByteArray) (hs : s.size ≤ 70368744177663) : PCalls Try.prog 33 [.val (.string s)] (.val (.string (lowS s))) := by
  refine p_start Try.func33 Try.ntmps33 rfl rfl rfl fun S w => ?_
  have hsz := str_size s
  repeat (first
    | refine awp_seq ?_
    | refine a_region ?_
    | refine r_done ?_
    | (refine r_id ?_; first
      | refine r_ev tab_ok rfl rfl rfl rfl (by first | exact trivial | exact ⟨by omega, by omega⟩ | omega | exact ⟨by omega, by omega, by omega, by omega⟩ | exact Nat.le_of_ble_eq_true rfl) rfl ?_))
  refine r_strb tab_ok rfl rfl rfl rfl rfl rfl (by omega) rfl rfl rfl ?_
  repeat (first
    | refine awp_seq ?_
    | refine thenA_normal ?_
    | refine awp_block ?_
    | refine a_region ?_
    | refine r_done ?_
    | (refine r_id ?_; first
      | refine r_ev tab_ok rfl rfl rfl rfl (by first | exact trivial | exact ⟨by omega, by omega⟩ | omega | exact ⟨by omega, by omega, by omega, by omega⟩ | exact Nat.le_of_ble_eq_true rfl) rfl ?_))
  refine a_loop (σ := {i : Nat // i ≤ s.size}) (fun x => [.row 0 5 1 ((mixL s.data.toList x.1).map bD)]) (fun x => [(3, .row 0 0), (4, .val (.int .i64 x.1))]) (fun x => s.size - x.1) ⟨0, by omega⟩ (fits_of rfl ⟨Sub.refl _, Sub.refl _, trivial⟩) ?_
  rintro ⟨i, hi⟩
  dsimp only
  have hml := mixL_len s.data.toList i
  repeat (first
    | refine awp_seq ?_
    | refine thenA_normal ?_
    | refine a_region ?_
    | refine r_done ?_
    | (refine r_id ?_; first
      | refine r_ev tab_ok rfl rfl rfl rfl (by first | exact trivial | exact ⟨by omega, by omega⟩ | omega | exact ⟨by omega, by omega, by omega, by omega⟩ | exact Nat.le_of_ble_eq_true rfl) rfl ?_
      | refine r_ld tab_ok rfl rfl rfl rfl rfl ?_))
  refine awp_cond_p rfl (fun hlt => ?_) (fun hge => ?_)
  · have hi0 : i < s.size := by simp at hlt; omega
    have hi' : i < s.data.toList.length := by omega
    have hat := mixL_at hi' (by omega)
    have hst := mixL_set hi'
    have hsm := mixL_same hi'
    repeat (first
      | refine awp_seq ?_
      | refine thenA_normal ?_
      | refine awp_block ?_
      | refine a_region ?_
      | refine awp_skip ?_
      | refine r_done ?_
      | (refine r_id ?_; first
        | refine r_ev tab_ok rfl rfl rfl rfl (by first | exact trivial | exact ⟨by omega, by omega⟩ | omega | exact ⟨by omega, by omega, by omega, by omega⟩ | exact Nat.le_of_ble_eq_true rfl) rfl ?_
        | refine r_ev_cnd tab_ok rfl rfl rfl rfl rfl rfl (by first | exact fun _ => rfl | exact cs1 | exact cs2 | exact cs3) (by first | exact fun _ => trivial | (intro h; simp at h; first | exact ⟨by omega, by omega⟩ | omega)) rfl ?_
        | refine r_and rfl rfl rfl rfl rfl rfl rfl rfl ?_
        | refine r_idxr tab_ok rfl rfl rfl rfl rfl rfl rfl rfl (by first | exact ⟨by omega, by omega⟩ | (simp; omega)) rfl ?_
        | refine r_lde tab_ok rfl rfl rfl rfl rfl (by omega) rfl rfl rfl rfl ?_
        | refine r_idxr_cnd tab_ok rfl rfl rfl rfl rfl rfl rfl rfl (by first | exact fun _ => rfl | exact cs1 | exact cs2) rfl rfl (by first | (intro _; exact ⟨by omega, by omega⟩) | (intro h; simp at h ⊢; omega)) rfl ?_
        | refine r_lde_cnd tab_ok rfl rfl rfl rfl rfl rfl rfl (by first | exact fun _ => rfl | exact cs1 | exact cs2) (by omega) rfl rfl rfl rfl ?_))
    simp only [Int.toNat_natCast, hat]
    generalize hbb : s.data.toList[i] = b at hst hsm
    refine awp_cond rfl (fun h => ?_) (fun h => ?_)
    · have h' : 65 ≤ b.toNat ∧ b.toNat ≤ 90 := by simp at h; omega
      have hat2 : ((mixL s.data.toList i)[((i : Int)).toNat]'(by simp; omega)).toNat = b.toNat := by simp only [Int.toNat_natCast]; rw [hat, hbb]
      repeat (first
        | refine a_region ?_
        | (refine r_id ?_; first
          | refine r_ev tab_ok rfl rfl rfl rfl (by first | exact trivial | exact ⟨by omega, by omega⟩ | omega | exact ⟨by omega, by omega, by omega, by omega⟩ | exact Nat.le_of_ble_eq_true rfl) rfl ?_
          | refine r_idxr tab_ok rfl rfl rfl rfl rfl rfl rfl rfl (by first | exact ⟨by omega, by omega⟩ | (simp; omega)) rfl ?_
          | refine r_lde tab_ok rfl rfl rfl rfl rfl (by omega) rfl rfl rfl rfl ?_))
      simp only [Int.toNat_natCast, hat, hbb]
      refine r_ste tab_ok (lowB b) rfl rfl rfl rfl rfl (by omega) rfl rfl rfl (by show some (D.val (.int .u8 ((b.toNat : Int) + 32))) = some (bD (lowB b)); rw [bD, lowB_up h']) rfl rfl ?_
      rw [hst]
      repeat (first
        | refine thenA_normal ?_
        | refine a_region ?_
        | refine r_done ?_
        | (refine r_id ?_; first
          | refine r_ev tab_ok rfl rfl rfl rfl (by first | exact trivial | exact ⟨by omega, by omega⟩ | omega | exact ⟨by omega, by omega, by omega, by omega⟩ | exact Nat.le_of_ble_eq_true rfl) rfl ?_))
      exact ⟨⟨i + 1, by omega⟩, by dsimp only; omega, fits_of rfl ⟨Sub.refl _, Sub.refl _, trivial⟩⟩
    · have h' : ¬ (65 ≤ b.toNat ∧ b.toNat ≤ 90) := by simp at h; omega
      rw [hsm (lowB_no h')]
      repeat (first
        | refine thenA_normal ?_
        | refine a_region ?_
        | refine awp_skip ?_
        | refine r_done ?_
        | (refine r_id ?_; first
          | refine r_ev tab_ok rfl rfl rfl rfl (by first | exact trivial | exact ⟨by omega, by omega⟩ | omega | exact ⟨by omega, by omega, by omega, by omega⟩ | exact Nat.le_of_ble_eq_true rfl) rfl ?_))
      exact ⟨⟨i + 1, by omega⟩, by dsimp only; omega, fits_of rfl ⟨Sub.refl _, Sub.refl _, trivial⟩⟩
  · have : i = s.size := by simp at hge; omega
    subst this
    repeat (first
      | refine awp_seq ?_
      | refine thenA_normal ?_
      | refine a_region ?_
      | refine awp_ret ?_
      | refine awp_exit ?_
      | refine r_done ?_
      | (refine r_id ?_; first
        | refine r_ev tab_ok rfl rfl rfl rfl (by first | exact trivial | exact ⟨by omega, by omega⟩ | omega | exact ⟨by omega, by omega, by omega, by omega⟩ | exact Nat.le_of_ble_eq_true rfl) rfl ?_
        | refine r_rowstr tab_ok rfl rfl rfl rfl rfl rfl rfl rfl rfl rfl ?_)
      | refine ret1 (by first | exact .inl rfl | exact .inr rfl) rfl rfl rfl ?_)
    exact Sub.of_eq (by unfold mixL; rw [List.take_of_length_le (by omega), List.drop_of_length_le (by omega), List.append_nil]; rfl)


theorem lowA_true : ∀ (l acc : List At), lowA true acc l = acc
  | [], _ => rfl
  | a :: r, acc => by rw [lowA, Bool.or_true, if_pos rfl]; exact lowA_true r acc
def rfC (gs : List Nt) : List AV := [.sl 4 (gs.map fun n => rwD n.r)]
def rfA (gs : List Nt) : AV := .dptr (rfC gs)
def resT : Option (List Nt) → AV
  | some gs => rfA gs
  | none => .val (.pointer none)
/-- Rows that are taken over. -/
structure TS (l : List Rw) where
  gs : List Nt
  hi : gs.length ≤ l.length
  ok : 0 < gs.length → okL l = true
  eq : okL l = true → newG l (l.drop gs.length) gs = newF l
  hd : ∀ n ∈ gs, n.depth ≤ 64
def goodR (l : List Rw) (gs : List Nt) (r : Rw) : Bool := if gs.length = 0 then okL l else okP l gs.length r
def depR (gs : List Nt) (r : Rw) : Nat := if gs.length = 0 then 1 else (gs.getD r.parent.toNat default).depth + 1
theorem newG_bad {l : List Rw} {gs : List Nt} {r : Rw} {rest : List Rw} (ok : 0 < gs.length → okL l = true) (heq : okL l = true → newG l (r :: rest) gs = newF l) (h : goodR l gs r = false) : newF l = none := by
  rw [goodR] at h
  split at h
  · rw [newF, h]; rfl
  · rename_i h0
    rw [← heq (ok (by omega)), newG, if_neg h0, h]; rfl
theorem newG_deep {l : List Rw} {gs : List Nt} {r : Rw} {rest : List Rw} (ok : 0 < gs.length → okL l = true) (heq : okL l = true → newG l (r :: rest) gs = newF l) (h : 64 < depR gs r) : newF l = none := by
  rw [depR] at h
  split at h
  · omega
  · rename_i h0
    rw [← heq (ok (by omega)), newG, if_neg h0]
    split
    · rw [if_neg (by omega)]
    · rfl
theorem newG_go {l : List Rw} {gs : List Nt} {r : Rw} {rest : List Rw} (ok : 0 < gs.length → okL l = true) (heq : okL l = true → newG l (r :: rest) gs = newF l) (h : goodR l gs r = true) (hd : depR gs r ≤ 64) :
    okL l = true ∧ ∃ gs2 : List Nt, gs2.length = gs.length ∧ (gs2.map fun n => rwD n.r) = (gs.map fun n => rwD n.r) ∧ gs2.map (fun n => n.depth) = gs.map (fun n => n.depth) ∧ newG l rest (gs2 ++ [⟨lowR r, [], depR gs r⟩]) = newF l := by
  rw [goodR] at h
  rw [depR] at hd ⊢
  by_cases h0 : gs.length = 0
  · rw [if_pos h0] at h hd ⊢
    have hg : gs = [] := List.eq_nil_of_length_eq_zero h0
    subst hg
    exact ⟨h, [], rfl, rfl, rfl, by rw [← heq h]; rfl⟩
  · rw [if_neg h0] at h hd ⊢
    have hk := ok (by omega)
    have hp := okP_iff.1 h
    have hpl : r.parent.toNat < gs.length := by omega
    have hself : gs.getD r.parent.toNat default = gs[r.parent.toNat] := by rw [List.getD_eq_getElem?_getD, List.getElem?_eq_getElem hpl]; rfl
    refine ⟨hk, addKid gs r.parent.toNat gs.length, addKid_len _ _ _, ?_, ?_, ?_⟩
    · rw [addKid, List.map_set, hself]
      apply List.ext_getElem (by simp)
      intro j h1 h2
      by_cases hj : r.parent.toNat = j
      · subst hj; simp
      · simp [List.getElem_set_ne hj]
    · rw [addKid, List.map_set, hself]
      apply List.ext_getElem (by simp)
      intro j h1 h2
      by_cases hj : r.parent.toNat = j
      · subst hj; simp
      · simp [List.getElem_set_ne hj]
    · rw [← heq hk, newG, if_neg h0, if_pos h, if_pos hd]
def deepL (l : List Rw) (ds : List Nat) : List Int := ds.map (fun n : Nat => (n : Int)) ++ List.replicate (l.length - ds.length) 0
theorem deepL_len {l : List Rw} {ds : List Nat} (h : ds.length ≤ l.length) : (deepL l ds).length = l.length := by rw [deepL, List.length_append, List.length_map, List.length_replicate]; omega
theorem deepL_set {l : List Rw} {ds : List Nat} (h : ds.length < l.length) (v : Nat) : (deepL l ds).set ds.length (v : Int) = deepL l (ds ++ [v]) := by
  obtain ⟨m, hm⟩ : ∃ m, l.length - ds.length = m + 1 := ⟨l.length - ds.length - 1, by omega⟩
  rw [deepL, deepL, hm, List.replicate_succ, List.set_append_right _ _ (by simp), List.length_map, Nat.sub_self, List.set_cons_zero, List.map_append, List.append_assoc, List.length_append, List.length_singleton, show l.length - (ds.length + 1) = m by omega]
  rfl
theorem deepL_get {l : List Rw} {gs : List Nt} {p : Nat} (hp : p < gs.length) (h : p < (deepL l (gs.map fun n => n.depth)).length) : (deepL l (gs.map fun n => n.depth))[p] = ((gs.getD p default).depth : Int) := by
  simp only [deepL, List.getD_eq_getElem?_getD]
  rw [List.getElem_append_left (by simp; exact hp)]
  simp [List.getElem?_eq_getElem hp]
theorem goodR_eq {l : List Rw} {gs : List Nt} {r : Rw} (h : 1 ≤ l.length ∧ l.length ≤ 1000) (hl0 : gs.length = 0 → l.getD 0 default = r) : goodR l gs r = !(decide ((gs.length : Int) = 0) && (!decide (r.parent = -1) || decide (r.tag = emS)) ||
      decide (0 < (gs.length : Int)) && (decide (r.parent < 0) || decide ((gs.length : Int) ≤ r.parent) || decide ((l.getD r.parent.toNat default).tag = emS))) := by
  rw [goodR]
  split
  · rename_i h0
    rw [okL, hl0 h0, decide_eq_true h.1, decide_eq_true h.2, decide_eq_true (show (gs.length : Int) = 0 by omega), decide_eq_false (show ¬ 0 < (gs.length : Int) by omega)]
    cases decide (r.parent = -1) <;> cases decide (r.tag = emS) <;> rfl
  · rename_i h0
    rw [okP, decide_eq_false (show ¬ (gs.length : Int) = 0 by omega), decide_eq_true (show 0 < (gs.length : Int) by omega), show decide (0 ≤ r.parent) = !decide (r.parent < 0) by by_cases hh : r.parent < 0 <;> simp [hh] <;> omega, show decide (r.parent < (gs.length : Int)) = !decide ((gs.length : Int) ≤ r.parent) by by_cases hh : (gs.length : Int) ≤ r.parent <;> simp [hh] <;> omega]
    cases decide (r.parent < 0) <;> cases decide ((gs.length : Int) ≤ r.parent) <;> cases decide ((l.getD r.parent.toNat default).tag = emS) <;> rfl
section
variable {P : Program} {ops : Array Oper} {N : Nat} {K : AS → Prop} {o : Oper} {r : List Oper} {fo fo' : Option (List Nat)} {M : List AB} {F : List (Nat × AV)} {dt : Tmp}
/-- A call by contract looks at no memory of ours. -/
theorem r_call0 {f : FuncId} {xs : Array Operand} {ts : Array TypeId} {cargs : List AV} {res : AV} (hc : PCalls P f cargs res) (hcall : Callable P f) (hg : o.guard = none) (ho : o.op = .call { callee := .value (.func f), args := xs, argTypes := ts })
    (hargs : Subs (xs.toList.map (aval (look F))) cargs) (hfr : (AV.frees cargs && res.free) = true) (hdd : o.dst = some dt) (hd : dstB o.dst N = true) (hp : popF fo 0 = some fo') (k : RunX P ops N K r fo' (M) ((dt, res) :: F)) : RunX P ops N K (o :: r) fo M F := by
  rw [Bool.and_eq_true] at hfr
  exact RunX.mk (fun _ k => Run.pure_ hd (fun _ => StepG.plain hg (astep_call ho hcall hc hargs hfr.1 hfr.2)) (by rw [put_eq hdd]; exact k)) hp k
end
theorem any_take_succ {α : Type} (p : α → Bool) {l : List α} {j : Nat} (h : j < l.length) : (l.take (j + 1)).any p = ((l.take j).any p || p l[j]) := by
  rw [List.take_add_one, List.getElem?_eq_getElem h, List.any_append]; simp
set_option maxHeartbeats 8000000 in
theorem newTree_ok (l : List Rw) (hl : l.length ≤ 1099511627776) (hsm : ∀ r ∈ l, smR r) : PCalls Try.prog 11 [.sl 4 (l.map rwD)] (resT (newF l)) := by
  refine p_start Try.func11 Try.ntmps11 rfl rfl rfl fun S w => ?_
  have hlm : (l.map rwD).length = l.length := List.length_map _
  repeat (first
    | refine awp_seq ?_
    | refine thenA_normal ?_
    | refine a_region ?_
    | refine r_done ?_
    | (refine r_id ?_; first
      | refine r_len tab_ok rfl rfl rfl rfl rfl rfl rfl ?_
      | refine r_ev tab_ok rfl rfl rfl rfl (by first | exact trivial | exact ⟨by omega, by omega⟩ | omega | exact ⟨by omega, by omega, by omega, by omega⟩ | exact Nat.le_of_ble_eq_true rfl) rfl ?_
      | refine r_len_cnd tab_ok rfl rfl rfl rfl rfl rfl (by first | exact fun _ => rfl | exact cs1) rfl rfl rfl ?_
      | refine r_ev_cnd tab_ok rfl rfl rfl rfl rfl rfl (by first | exact fun _ => rfl | exact cs1 | exact cs2 | exact cs3) (by first | exact fun _ => trivial | (intro h; simp at h; first | exact ⟨by omega, by omega⟩ | omega)) rfl ?_
      | refine r_or rfl rfl rfl rfl rfl rfl rfl rfl ?_))
  refine awp_cond rfl (fun hc => ?_) (fun hc => ?_)
  · have hn : newF l = none := by
      rw [newF, if_neg]
      simp only [Bool.or_eq_true, decide_eq_true_eq] at hc
      rw [okL]
      simp only [Bool.and_eq_true, decide_eq_true_eq]
      omega
    rw [hn]
    repeat (first
      | refine awp_seq ?_
      | refine thenA_normal ?_
      | refine a_region ?_
      | refine awp_ret ?_
      | refine thenA_ret ?_
      | refine r_done ?_
      | (refine r_id ?_; first
        | refine r_ev tab_ok rfl rfl rfl rfl (by first | exact trivial | exact ⟨by omega, by omega⟩ | omega | exact ⟨by omega, by omega, by omega, by omega⟩ | exact Nat.le_of_ble_eq_true rfl) rfl ?_)
      | refine ret1 (by first | exact .inl rfl | exact .inr rfl) rfl rfl rfl ?_)
    exact Sub.refl _
  · simp only [Bool.or_eq_false_iff, decide_eq_false_iff_not] at hc
    have h1000 : 1 ≤ l.length ∧ l.length ≤ 1000 := by omega
    repeat (first
      | refine awp_seq ?_
      | refine a_region ?_
      | refine awp_skip ?_
      | refine r_done ?_
      | (refine r_id ?_; first
        | refine r_len tab_ok rfl rfl rfl rfl rfl rfl rfl ?_
        | refine r_ev tab_ok rfl rfl rfl rfl (by first | exact trivial | exact ⟨by omega, by omega⟩ | omega | exact ⟨by omega, by omega, by omega, by omega⟩ | exact Nat.le_of_ble_eq_true rfl) rfl ?_))
    refine r_by2 (astep_make_words (n := l.length) (v := .int .i64 0) tab_ok rfl rfl rfl rfl rfl rfl rfl (by show 8 * _ ≤ _; omega) (by omega)) rfl rfl rfl rfl rfl ?_
    repeat (first
      | refine awp_seq ?_
      | refine thenA_normal ?_
      | refine awp_block ?_
      | refine a_region ?_
      | refine r_done ?_
      | (refine r_id ?_; first
        | refine r_ev tab_ok rfl rfl rfl rfl (by first | exact trivial | exact ⟨by omega, by omega⟩ | omega | exact ⟨by omega, by omega, by omega, by omega⟩ | exact Nat.le_of_ble_eq_true rfl) rfl ?_))
    refine a_loop (σ := TS l) (fun x => [.row 0 3 1 ((deepL l (x.gs.map fun n => n.depth)).map iD), .row 0 26 4 (x.gs.map fun n => rwD n.r)]) (fun x => [(0, .sl 4 (l.map rwD)), (3, .row 1 0), (4, .row 0 0), (5, .val (.int .i64 x.gs.length))]) (fun x => l.length - x.gs.length)
      ⟨[], Nat.zero_le _, fun h => absurd h (Nat.lt_irrefl 0), fun h => by rw [newF, if_pos h]; rfl, fun _ h => absurd h (List.not_mem_nil)⟩ ?_ ?_
    · have e0 : (deepL l (([] : List Nt).map fun n => n.depth)).map iD = List.replicate l.length (D.val (.int .i64 0)) := by rw [deepL, List.map_nil, List.map_nil, List.nil_append, List.length_nil, Nat.sub_zero, List.map_replicate]; rfl
      dsimp only
      rw [e0]
      exact fits_conv (by repeat' first | exact trivial | exact rfl | (rw [List.map_append]; first | done | rfl) | exact c_sub rfl (Sub.refl _) rfl | exact c_nil rfl rfl | exact c_thaw rfl rfl rfl | exact c_row rfl rfl rfl | exact c_row rfl rfl (by rw [List.map_append]; first | done | rfl) | exact c_ptr rfl rfl rfl rfl | exact Or.inl ⟨c_sub rfl (Sub.refl _) rfl, c_ptr rfl rfl rfl rfl⟩ | exact c_alt rfl rfl rfl rfl | exact c_ro rfl rfl | exact c_eo rfl rfl | exact c_sub rfl (Sub.altl _ _) rfl | exact c_sub rfl (Sub.nil _) rfl | refine ⟨_, _, rfl, ?_, ?_⟩ | apply And.intro) (by repeat' first | exact trivial | exact rfl | (rw [List.map_append]; first | done | rfl) | exact c_sub rfl (Sub.refl _) rfl | exact c_nil rfl rfl | exact c_thaw rfl rfl rfl | exact c_row rfl rfl rfl | exact c_row rfl rfl (by rw [List.map_append]; first | done | rfl) | exact c_ptr rfl rfl rfl rfl | exact Or.inl ⟨c_sub rfl (Sub.refl _) rfl, c_ptr rfl rfl rfl rfl⟩ | exact c_alt rfl rfl rfl rfl | exact c_ro rfl rfl | exact c_eo rfl rfl | exact c_sub rfl (Sub.altl _ _) rfl | exact c_sub rfl (Sub.nil _) rfl | refine ⟨_, _, rfl, ?_, ?_⟩ | apply And.intro)
    rintro ⟨gs, hi, hok, heq, hd⟩
    dsimp only
    have hdl : (deepL l (gs.map fun n => n.depth)).length = l.length := deepL_len (by simpa using hi)
    have hdm : ((deepL l (gs.map fun n => n.depth)).map iD).length = l.length := by rw [List.length_map, hdl]
    have hgm : (gs.map fun n => rwD n.r).length = gs.length := List.length_map _
    repeat (first
      | refine awp_seq ?_
      | refine thenA_normal ?_
      | refine a_region ?_
      | refine r_done ?_
      | (refine r_id ?_; first
        | refine r_len tab_ok rfl rfl rfl rfl rfl rfl rfl ?_
        | refine r_ev tab_ok rfl rfl rfl rfl (by first | exact trivial | exact ⟨by omega, by omega⟩ | omega | exact ⟨by omega, by omega, by omega, by omega⟩ | exact Nat.le_of_ble_eq_true rfl) rfl ?_))
    refine awp_cond_p rfl (fun hlt => ?_) (fun hge => ?_)
    · have hi' : gs.length < l.length := by omega
      have hs := hsm l[gs.length] (List.getElem_mem hi')
      have hdr : l.drop gs.length = l[gs.length] :: l.drop (gs.length + 1) := List.drop_eq_getElem_cons hi'
      rw [hdr] at heq
      have hl0 : gs.length = 0 → l.getD 0 default = l[gs.length] := fun h => by
        rw [List.getD_eq_getElem?_getD]
        have : l[0]? = l[gs.length]? := by rw [h]
        rw [this, List.getElem?_eq_getElem hi']; rfl
      obtain ⟨r, hr⟩ : ∃ r, l[gs.length] = r := ⟨_, rfl⟩
      rw [hr] at hs heq hl0
      repeat (first
        | refine awp_seq ?_
        | refine thenA_normal ?_
        | refine awp_block ?_
        | refine a_region ?_
        | refine awp_skip ?_
        | refine r_done ?_
        | (refine r_id ?_; first
          | refine r_ev tab_ok rfl rfl rfl rfl (by first | exact trivial | exact ⟨by omega, by omega⟩ | omega | exact ⟨by omega, by omega, by omega, by omega⟩ | exact Nat.le_of_ble_eq_true rfl) rfl ?_
          | refine r_idx tab_ok rfl rfl rfl rfl rfl rfl rfl (by first | exact ⟨by omega, by omega⟩ | (simp; omega)) rfl rfl ?_
          | refine r_ev_cnd tab_ok rfl rfl rfl rfl rfl rfl (by first | exact fun _ => rfl | exact cs1 | exact cs2 | exact cs3) (by first | exact fun _ => trivial | (intro h; simp at h; first | exact ⟨by omega, by omega⟩ | omega)) rfl ?_
          | refine r_idx_cnd tab_ok rfl rfl rfl rfl rfl rfl rfl (by first | exact fun _ => rfl | exact cs1 | exact cs2 | exact cs3) rfl rfl (by exact ⟨by omega, by omega⟩) rfl rfl ?_
          | refine r_idx_cnd' tab_ok rfl rfl rfl rfl rfl rfl rfl (by first | exact fun _ => rfl | exact cs1 | exact cs2 | exact cs3) rfl rfl (by first | (intro h; simp at h; exact ⟨by omega, by omega⟩) | (intro h; simp only [Bool.and_eq_true, Bool.or_eq_false_iff, beq_iff_eq, decide_eq_false_iff_not, decide_eq_true_eq] at h; exact ⟨by omega, by omega⟩)) rfl rfl ?_
          | refine r_and_cnd rfl rfl rfl rfl rfl rfl rfl rfl rfl rfl ?_
          | refine r_or_cnd rfl rfl rfl rfl rfl rfl rfl rfl rfl rfl ?_
          | refine r_or rfl rfl rfl rfl rfl rfl rfl rfl ?_
          | refine r_and rfl rfl rfl rfl rfl rfl rfl rfl ?_))
      simp only [Int.toNat_natCast, hr]
      try simp only [Int.toNat_natCast, hr]
      refine awp_cond rfl (fun hb => ?_) (fun hb => ?_)
      · have hbad : goodR l gs r = false := by rw [goodR_eq h1000 hl0]; exact congrArg (!·) hb
        rw [newG_bad hok heq hbad]
        repeat (first
          | refine awp_seq ?_
          | refine thenA_normal ?_
          | refine a_region ?_
          | refine awp_ret ?_
          | refine thenA_ret ?_
          | refine blockA_ret ?_
          | refine r_done ?_
          | (refine r_id ?_; first
            | refine r_ev tab_ok rfl rfl rfl rfl (by first | exact trivial | exact ⟨by omega, by omega⟩ | omega | exact ⟨by omega, by omega, by omega, by omega⟩ | exact Nat.le_of_ble_eq_true rfl) rfl ?_)
          | refine ret1 (by first | exact .inl rfl | exact .inr rfl) rfl rfl rfl ?_)
        exact Sub.refl _
      · have hgood : goodR l gs r = true := by rw [goodR_eq h1000 hl0]; exact congrArg (!·) hb
        have hp0 : 0 < gs.length → 0 ≤ r.parent ∧ r.parent.toNat < gs.length := fun h => by
          rw [goodR, if_neg (by omega)] at hgood
          have := okP_iff.1 hgood
          omega
        refine awp_skip ?_
        refine thenA_normal ?_
        refine awp_seq ?_
        repeat (first
          | refine a_region ?_
          | (refine r_id ?_; first
            | refine r_ev tab_ok rfl rfl rfl rfl (by first | exact trivial | exact ⟨by omega, by omega⟩ | omega | exact ⟨by omega, by omega, by omega, by omega⟩ | exact Nat.le_of_ble_eq_true rfl) rfl ?_
            | refine r_idxr tab_ok rfl rfl rfl rfl rfl rfl rfl rfl (by first | exact ⟨by omega, by omega⟩ | (simp; omega)) rfl ?_))
        refine r_ste tab_ok (1 : Int) rfl rfl rfl rfl rfl (by omega) rfl rfl rfl rfl rfl rfl ?_
        repeat (first
          | refine thenA_normal ?_
          | refine r_done ?_)
        refine awp_seq ?_
        have hdg : ∀ n ∈ gs, n.depth ≤ 64 := hd
        have hdv : depR gs r ≤ 65 := by
          rw [depR]
          split
          · omega
          · have hpl := (hp0 (by omega)).2
            have := hd _ (List.getElem_mem hpl)
            rw [List.getD_eq_getElem?_getD, List.getElem?_eq_getElem hpl]
            show _ + 1 ≤ 65
            simp; omega
        have hds : (gs.map fun n => n.depth).length = gs.length := List.length_map _
        have hset := deepL_set (l := l) (ds := gs.map fun n => n.depth) (by omega) (depR gs r)
        rw [hds] at hset
        refine awp_cutw ⟨[.row 0 3 1 ((deepL l ((gs.map fun n => n.depth) ++ [depR gs r])).map iD), .row 0 26 4 (gs.map fun n => rwD n.r)], [(0, .sl 4 (l.map rwD)), (3, .row 1 0), (4, .row 0 0), (5, .val (.int .i64 gs.length)), (6, .val (.int .i64 r.parent))]⟩ ?_ ?_
        · have hsl : ((deepL l (gs.map fun n => n.depth)).set gs.length 1).length = l.length := by rw [List.length_set, hdl]
          repeat (first
            | refine awp_seq ?_
            | refine thenA_normal ?_
            | refine a_region ?_
            | refine r_done ?_
            | (refine r_id ?_; first
              | refine r_ev tab_ok rfl rfl rfl rfl (by first | exact trivial | exact ⟨by omega, by omega⟩ | omega | exact ⟨by omega, by omega, by omega, by omega⟩ | exact Nat.le_of_ble_eq_true rfl) rfl ?_))
          refine awp_cond_p rfl (fun h0 => ?_) (fun h0 => ?_)
          · have h0 : 0 < gs.length := by omega
            obtain ⟨p0, p1⟩ := hp0 h0
            have hv : ∀ h : r.parent.toNat < ((deepL l (gs.map fun n => n.depth)).set gs.length 1).length, ((deepL l (gs.map fun n => n.depth)).set gs.length 1)[r.parent.toNat]'h = ((gs.getD r.parent.toNat default).depth : Int) := fun h => by
              rw [List.getElem_set_ne (by omega), deepL_get p1]
            have he : depR gs r = (gs.getD r.parent.toNat default).depth + 1 := by rw [depR, if_neg (by omega)]
            have hpl : r.parent.toNat < ((deepL l (gs.map fun n => n.depth)).set gs.length 1).length := by omega
            have hpi : r.parent.toNat < ((deepL l (gs.map fun n => n.depth)).set gs.length 1).length ∧ 0 ≤ r.parent := ⟨hpl, p0⟩
            simp only [Int.toNat_natCast, List.set_cons_zero]
            repeat (first
              | refine a_region ?_
              | (refine r_id ?_; first
                | refine r_ev tab_ok rfl rfl rfl rfl (by first | exact trivial | exact ⟨by omega, by omega⟩ | omega | exact ⟨by omega, by omega, by omega, by omega⟩ | exact Nat.le_of_ble_eq_true rfl) rfl ?_
                | refine r_idxr tab_ok rfl rfl rfl rfl rfl rfl rfl rfl (by first | exact ⟨by omega, by omega⟩ | (simp; omega)) rfl ?_
                | refine r_lde tab_ok rfl rfl rfl rfl rfl (by omega) rfl rfl rfl rfl ?_))
            simp only [hv]
            repeat (first
              | (refine r_id ?_; first
                | refine r_ev tab_ok rfl rfl rfl rfl (by first | exact trivial | exact ⟨by omega, by omega⟩ | omega | exact ⟨by omega, by omega, by omega, by omega⟩ | exact Nat.le_of_ble_eq_true rfl) rfl ?_
                | refine r_idxr tab_ok rfl rfl rfl rfl rfl rfl rfl rfl (by first | exact ⟨by omega, by omega⟩ | (simp; omega)) rfl ?_))
            refine r_ste tab_ok (((gs.getD r.parent.toNat default).depth : Int) + 1) rfl rfl rfl rfl rfl (by omega) rfl rfl rfl rfl rfl rfl ?_
            simp only [Int.toNat_natCast, List.set_cons_zero, List.set_set]
            rw [show (((gs.getD r.parent.toNat default).depth : Int) + 1) = ((depR gs r : Nat) : Int) by rw [he]; rfl, hset]
            repeat (first
              | refine r_done ?_)
            exact ⟨by first | rfl | trivial, fits_of rfl (by repeat' first | exact trivial | exact Sub.refl _ | exact rfl | apply And.intro)⟩
          · have he : depR gs r = 1 := by rw [depR, if_pos (by omega)]
            simp only [Int.toNat_natCast, List.set_cons_zero]
            rw [show (1 : Int) = ((depR gs r : Nat) : Int) by rw [he]; rfl, hset]
            repeat (first
              | refine awp_skip ?_)
            exact ⟨by first | rfl | trivial, fits_of rfl (by repeat' first | exact trivial | exact Sub.refl _ | exact rfl | apply And.intro)⟩
        · obtain ⟨D2, hD2⟩ : ∃ D2, D2 = deepL l ((gs.map fun n => n.depth) ++ [depR gs r]) := ⟨_, rfl⟩
          have hD2l : D2.length = l.length := by rw [hD2, ← hset, List.length_set, hdl]
          have hD2g : ∀ h : gs.length < D2.length, D2[gs.length]'h = (depR gs r : Int) := fun h => by simp only [hD2, ← hset]; rw [List.getElem_set_self]
          rw [← hD2]
          clear hset hdl hdm
          obtain ⟨dv, hdvv⟩ : ∃ dv, dv = depR gs r := ⟨_, rfl⟩
          have hdeep : 64 < dv → newF l = none := fun h => newG_deep hok heq (by omega)
          have hgo := fun h => newG_go hok heq hgood (show depR gs r ≤ 64 by rw [← hdvv]; exact h)
          rw [← hdvv] at hdv hD2g hD2 hgo
          have hD2m : (D2.map iD).length = l.length := by rw [List.length_map, hD2l]
          repeat (first
            | refine awp_seq ?_
            | refine thenA_normal ?_
            | refine a_region ?_
            | refine r_done ?_
            | (refine r_id ?_; first
              | refine r_ev tab_ok rfl rfl rfl rfl (by first | exact trivial | exact ⟨by omega, by omega⟩ | omega | exact ⟨by omega, by omega, by omega, by omega⟩ | exact Nat.le_of_ble_eq_true rfl) rfl ?_
              | refine r_idxr tab_ok rfl rfl rfl rfl rfl rfl rfl rfl (by first | exact ⟨by omega, by omega⟩ | (simp; omega)) rfl ?_
              | refine r_lde tab_ok rfl rfl rfl rfl rfl (by omega) rfl rfl rfl rfl ?_))
          simp only [Int.toNat_natCast, hD2g]
          refine awp_cond_p rfl (fun hd64 => ?_) (fun hd64 => ?_)
          · rw [hdeep (by omega)]
            repeat (first
              | refine awp_seq ?_
              | refine thenA_normal ?_
              | refine a_region ?_
              | refine awp_ret ?_
              | refine thenA_ret ?_
              | refine blockA_ret ?_
              | refine r_done ?_
              | (refine r_id ?_; first
                | refine r_ev tab_ok rfl rfl rfl rfl (by first | exact trivial | exact ⟨by omega, by omega⟩ | omega | exact ⟨by omega, by omega, by omega, by omega⟩ | exact Nat.le_of_ble_eq_true rfl) rfl ?_)
              | refine ret1 (by first | exact .inl rfl | exact .inr rfl) rfl rfl rfl ?_)
            exact Sub.refl _
          · obtain ⟨hokk, gs2, hg2l, hg2r, hg2d, hgo⟩ := hgo (by omega)
            repeat (first
              | refine awp_seq ?_
              | refine awp_skip ?_)
            refine a_draw mixed_ok [0, 0, 0, 0, 0, 0, 0, 0, 0, 0, 0, 0, 0, 2, 2] (by kernel_rfl) ?_
            repeat (first
              | (refine r_id ?_; first
                | refine r_ev tab_ok rfl rfl rfl rfl (by first | exact trivial | exact ⟨by omega, by omega⟩ | omega | exact ⟨by omega, by omega, by omega, by omega⟩ | exact Nat.le_of_ble_eq_true rfl) rfl ?_
                | refine r_idx tab_ok rfl rfl rfl rfl rfl rfl rfl (by first | exact ⟨by omega, by omega⟩ | (simp; omega)) rfl rfl ?_))
            simp only [Int.toNat_natCast, hr]
            refine r_call0 (refLow_ok r.tag (by have := hs.1; omega)) call33 rfl rfl ⟨Sub.refl _, trivial⟩ rfl rfl rfl rfl ?_
            repeat (first
              | refine awp_seq ?_
              | refine thenA_normal ?_
              | refine awp_block ?_
              | refine a_region ?_
              | refine r_done ?_
              | refine r_done' ?_
              | (refine r_id ?_; first
                | refine r_ev tab_ok rfl rfl rfl rfl (by first | exact trivial | exact ⟨by omega, by omega⟩ | omega | exact ⟨by omega, by omega, by omega, by omega⟩ | exact Nat.le_of_ble_eq_true rfl) rfl ?_
                | refine r_idx tab_ok rfl rfl rfl rfl rfl rfl rfl (by first | exact ⟨by omega, by omega⟩ | (simp; omega)) rfl rfl ?_
                | refine r_wr tab_ok rfl rfl rfl rfl rfl ?_
                | refine r_st tab_ok rfl rfl rfl rfl ?_
                | refine r_build tab_ok rfl rfl rfl rfl rfl rfl ?_))
            simp only [Int.toNat_natCast, hr]
            have hs2 : r.attrs.length ≤ 1099511627776 := hs.2.1
            have hal : (r.attrs.map atD).length = r.attrs.length := List.length_map _
            have hdr2 : D2 = deepL l ((gs2 ++ [⟨lowR r, [], dv⟩] : List Nt).map fun n => n.depth) := by rw [hD2, List.map_append, hg2d]; rfl
            have hgo2 := hgo
            clear hgo
            obtain ⟨te, hte⟩ : ∃ te, te = decide (lowS r.tag = emS) := ⟨_, rfl⟩
            refine a_loop (σ := LS te r.attrs) (fun x => [.row 0 3 1 (D2.map iD), .row 0 26 4 (gs.map fun n => rwD n.r), .box 26 [.val (.int .i64 r.parent), .val (.string (lowS r.tag)), .val (.string r.text), .row 3 0], .row 0 42 2 (x.acc.map atD)])
              (fun x => [(0, .sl 4 (l.map rwD)), (3, .row 1 0), (4, .row 0 0), (5, .val (.int .i64 gs.length)), (7, .ptr 2 0), (8, .val (.int .i64 x.i))]) (fun x => r.attrs.length - x.i) ⟨0, [], Nat.zero_le _, Nat.le_refl _, rfl⟩ (fits_conv (by repeat' first | exact trivial | exact rfl | (rw [List.map_append]; first | done | rfl) | exact c_sub rfl (Sub.refl _) rfl | exact c_nil rfl rfl | exact c_thaw rfl rfl rfl | exact c_row rfl rfl rfl | exact c_row rfl rfl (by rw [List.map_append]; first | done | rfl) | exact c_ptr rfl rfl rfl rfl | exact Or.inl ⟨c_sub rfl (Sub.refl _) rfl, c_ptr rfl rfl rfl rfl⟩ | exact c_alt rfl rfl rfl rfl | exact c_ro rfl rfl | exact c_eo rfl rfl | exact c_sub rfl (Sub.altl _ _) rfl | exact c_sub rfl (Sub.nil _) rfl | refine ⟨_, _, rfl, ?_, ?_⟩ | apply And.intro) (by repeat' first | exact trivial | exact rfl | (rw [List.map_append]; first | done | rfl) | exact c_sub rfl (Sub.refl _) rfl | exact c_nil rfl rfl | exact c_thaw rfl rfl rfl | exact c_row rfl rfl rfl | exact c_row rfl rfl (by rw [List.map_append]; first | done | rfl) | exact c_ptr rfl rfl rfl rfl | exact Or.inl ⟨c_sub rfl (Sub.refl _) rfl, c_ptr rfl rfl rfl rfl⟩ | exact c_alt rfl rfl rfl rfl | exact c_ro rfl rfl | exact c_eo rfl rfl | exact c_sub rfl (Sub.altl _ _) rfl | exact c_sub rfl (Sub.nil _) rfl | refine ⟨_, _, rfl, ?_, ?_⟩ | apply And.intro)) ?_
            rintro ⟨k, acc, hk, hka, heqa⟩
            dsimp only
            have ham : (acc.map atD).length = acc.length := List.length_map _
            repeat (first
              | refine awp_seq ?_
              | refine thenA_normal ?_
              | refine a_region ?_
              | refine r_done ?_
              | (refine r_id ?_; first
                | refine r_len tab_ok rfl rfl rfl rfl rfl rfl rfl ?_
                | refine r_ev tab_ok rfl rfl rfl rfl (by first | exact trivial | exact ⟨by omega, by omega⟩ | omega | exact ⟨by omega, by omega, by omega, by omega⟩ | exact Nat.le_of_ble_eq_true rfl) rfl ?_
                | refine r_idx tab_ok rfl rfl rfl rfl rfl rfl rfl (by first | exact ⟨by omega, by omega⟩ | (simp; omega)) rfl rfl ?_
                | refine r_ev_cnd tab_ok rfl rfl rfl rfl rfl rfl (by first | exact fun _ => rfl | exact cs1 | exact cs2 | exact cs3) (by first | exact fun _ => trivial | (intro h; simp at h; first | exact ⟨by omega, by omega⟩ | omega)) rfl ?_
                | refine r_ld_cnd tab_ok rfl rfl rfl rfl rfl rfl (by first | exact fun _ => rfl | exact cs1 | exact cs2 | exact cs3) rfl ?_
                | refine r_and rfl rfl rfl rfl rfl rfl rfl rfl ?_))
            simp only [Int.toNat_natCast, hr]
            refine awp_cond rfl (fun hc2 => ?_) (fun hc2 => ?_)
            · have hc3 : k < r.attrs.length ∧ lowS r.tag ≠ emS := by
                simp only [Bool.and_eq_true, Bool.not_eq_true', decide_eq_true_eq, decide_eq_false_iff_not] at hc2
                exact ⟨by omega, hc2.2⟩
              obtain ⟨hk', htn⟩ := hc3
              have htf : te = false := by rw [hte]; exact decide_eq_false htn
              have hsa := hs.2.2 r.attrs[k] (List.getElem_mem hk')
              have hdra := List.drop_eq_getElem_cons hk'
              rw [hdra, lowA] at heqa
              obtain ⟨a, ha⟩ : ∃ a, r.attrs[k] = a := ⟨_, rfl⟩
              rw [ha] at hsa heqa
              repeat (first
                | refine awp_seq ?_
                | refine awp_block ?_
                | refine a_region ?_
                | refine awp_skip ?_
                | (refine r_id ?_; first
                  | refine r_ev tab_ok rfl rfl rfl rfl (by first | exact trivial | exact ⟨by omega, by omega⟩ | omega | exact ⟨by omega, by omega, by omega, by omega⟩ | exact Nat.le_of_ble_eq_true rfl) rfl ?_
                  | refine r_idx tab_ok rfl rfl rfl rfl rfl rfl rfl (by first | exact ⟨by omega, by omega⟩ | (simp; omega)) rfl rfl ?_))
              simp only [Int.toNat_natCast, hr]
              repeat (first
                | (refine r_id ?_; first
                  | refine r_ev tab_ok rfl rfl rfl rfl (by first | exact trivial | exact ⟨by omega, by omega⟩ | omega | exact ⟨by omega, by omega, by omega, by omega⟩ | exact Nat.le_of_ble_eq_true rfl) rfl ?_
                  | refine r_idx tab_ok rfl rfl rfl rfl rfl rfl rfl (by first | exact ⟨by omega, by omega⟩ | (simp; omega)) rfl rfl ?_))
              simp only [Int.toNat_natCast, ha]
              refine r_call (refLow_ok a.name (by have := hsa.1; omega)) call33 rfl rfl ⟨Sub.refl _, trivial⟩ rfl rfl rfl rfl ?_
              repeat (first
                | refine awp_seq ?_
                | refine thenA_normal ?_
                | refine awp_block ?_
                | refine a_region ?_
                | refine r_done ?_
                | (refine r_id ?_; first
                  | refine r_ev tab_ok rfl rfl rfl rfl (by first | exact trivial | exact ⟨by omega, by omega⟩ | omega | exact ⟨by omega, by omega, by omega, by omega⟩ | exact Nat.le_of_ble_eq_true rfl) rfl ?_))
              refine a_loop (σ := {j : Nat // j ≤ acc.length}) (fun _ => [.row 0 3 1 (D2.map iD), .row 0 26 4 (gs.map fun n => rwD n.r), .box 26 [.val (.int .i64 r.parent), .val (.string (lowS r.tag)), .val (.string r.text), .row 3 0], .row 0 42 2 (acc.map atD)])
                (fun x => [(0, .sl 4 (l.map rwD)), (3, .row 1 0), (4, .row 0 0), (5, .val (.int .i64 gs.length)), (7, .ptr 2 0), (8, .val (.int .i64 k)), (9, .val (.string (lowS a.name))), (10, .val (.bool ((acc.take x.1).any fun x => decide (x.name = lowS a.name)))), (11, .val (.int .i64 x.1))]) (fun x => acc.length - x.1) ⟨0, Nat.zero_le _⟩ (fits_of rfl (by repeat' first | exact trivial | exact Sub.refl _ | exact rfl | apply And.intro)) ?_
              rintro ⟨j, hj⟩
              dsimp only
              repeat (first
                | refine awp_seq ?_
                | refine thenA_normal ?_
                | refine a_region ?_
                | refine r_done ?_
                | (refine r_id ?_; first
                  | refine r_ev tab_ok rfl rfl rfl rfl (by first | exact trivial | exact ⟨by omega, by omega⟩ | omega | exact ⟨by omega, by omega, by omega, by omega⟩ | exact Nat.le_of_ble_eq_true rfl) rfl ?_
                  | refine r_ld tab_ok rfl rfl rfl rfl rfl ?_))
              refine awp_cond_p rfl (fun hjl => ?_) (fun hjl => ?_)
              · have hj' : j < acc.length := by omega
                have hats := any_take_succ (fun x : At => decide (x.name = lowS a.name)) hj'
                repeat (first
                  | refine awp_seq ?_
                  | refine thenA_normal ?_
                  | refine awp_block ?_
                  | refine a_region ?_
                  | refine awp_skip ?_
                  | refine r_done ?_
                  | (refine r_id ?_; first
                    | refine r_ev tab_ok rfl rfl rfl rfl (by first | exact trivial | exact ⟨by omega, by omega⟩ | omega | exact ⟨by omega, by omega, by omega, by omega⟩ | exact Nat.le_of_ble_eq_true rfl) rfl ?_
                    | refine r_ev_cnd tab_ok rfl rfl rfl rfl rfl rfl (by first | exact fun _ => rfl | exact cs1 | exact cs2 | exact cs3) (by first | exact fun _ => trivial | (intro h; simp at h; first | exact ⟨by omega, by omega⟩ | omega)) rfl ?_
                    | refine r_ld_cnd tab_ok rfl rfl rfl rfl rfl rfl (by first | exact fun _ => rfl | exact cs1 | exact cs2 | exact cs3) rfl ?_
                    | refine r_or rfl rfl rfl rfl rfl rfl rfl rfl ?_
                    | refine r_fielde_cnd tab_ok rfl rfl rfl rfl rfl rfl rfl (by first | exact fun _ => rfl | exact cs1 | exact cs2 | exact cs3) rfl rfl rfl ?_
                    | refine r_idxr_cnd tab_ok rfl rfl rfl rfl rfl rfl rfl rfl (by first | exact fun _ => rfl | exact cs1 | exact cs2 | exact cs3) rfl rfl (by first | (intro _; exact ⟨by omega, by omega⟩) | (intro h; simp at h ⊢; omega)) rfl ?_
                    | refine r_lde_cnd tab_ok rfl rfl rfl rfl rfl rfl rfl (by first | exact fun _ => rfl | exact cs1 | exact cs2 | exact cs3) (by omega) rfl rfl rfl rfl ?_))
                simp only [Int.toNat_natCast]
                refine ⟨⟨j + 1, by omega⟩, by dsimp only; omega, ?_⟩
                dsimp only
                rw [hats]
                exact fits_of rfl (by repeat' first | exact trivial | exact Sub.refl _ | exact rfl | apply And.intro)
              · have : j = acc.length := by omega
                subst this
                rw [List.take_length]
                obtain ⟨met, hmet⟩ : ∃ met, met = acc.any fun x => decide (x.name = lowS a.name) := ⟨_, rfl⟩
                rw [← hmet] at heqa ⊢
                cases met with
                | true =>
                  rw [Bool.true_or, if_pos rfl] at heqa
                  repeat (first
                    | refine awp_seq ?_
                    | refine thenA_normal ?_
                    | refine a_region ?_
                    | refine awp_exit ?_
                    | refine awp_skip ?_
                    | refine r_done ?_
                    | (refine r_id ?_; first
                      | refine r_ev tab_ok rfl rfl rfl rfl (by first | exact trivial | exact ⟨by omega, by omega⟩ | omega | exact ⟨by omega, by omega, by omega, by omega⟩ | exact Nat.le_of_ble_eq_true rfl) rfl ?_)
                    | refine awp_cond_f rfl ?_)
                  exact ⟨⟨k + 1, acc, by omega, by omega, heqa⟩, by dsimp only; omega, fits_of rfl (by repeat' first | exact trivial | exact Sub.refl _ | exact rfl | apply And.intro)⟩
                | false =>
                  rw [Bool.false_or, htf, if_neg Bool.false_ne_true] at heqa
                  have hmap : (acc ++ [(⟨lowS a.name, a.value⟩ : At)]).map atD = acc.map atD ++ [atD ⟨lowS a.name, a.value⟩] := List.map_append
                  repeat (first
                    | refine awp_seq ?_
                    | refine thenA_normal ?_
                    | refine a_region ?_
                    | refine awp_exit ?_
                    | refine r_done ?_
                    | (refine r_id ?_; first
                      | refine r_ev tab_ok rfl rfl rfl rfl (by first | exact trivial | exact ⟨by omega, by omega⟩ | omega | exact ⟨by omega, by omega, by omega, by omega⟩ | exact Nat.le_of_ble_eq_true rfl) rfl ?_)
                    | refine awp_cond_t rfl ?_)
                  refine a_draw mixed_ok [0, 1, 0, 0, 0, 0, 0, 0, 0, 0, 0, 0, 0, 1, 2, 0, 2] (by kernel_rfl) ?_
                  repeat (first
                    | (refine r_id ?_; first
                      | refine r_ev tab_ok rfl rfl rfl rfl (by first | exact trivial | exact ⟨by omega, by omega⟩ | omega | exact ⟨by omega, by omega, by omega, by omega⟩ | exact Nat.le_of_ble_eq_true rfl) rfl ?_
                      | refine r_ld tab_ok rfl rfl rfl rfl rfl ?_
                      | refine r_idx tab_ok rfl rfl rfl rfl rfl rfl rfl (by first | exact ⟨by omega, by omega⟩ | (simp; omega)) rfl rfl ?_))
                  simp only [Int.toNat_natCast, hr]
                  repeat (first
                    | refine thenA_normal ?_
                    | refine a_region ?_
                    | refine r_done ?_
                    | refine r_done' ?_
                    | (refine r_id ?_; first
                      | refine r_ev tab_ok rfl rfl rfl rfl (by first | exact trivial | exact ⟨by omega, by omega⟩ | omega | exact ⟨by omega, by omega, by omega, by omega⟩ | exact Nat.le_of_ble_eq_true rfl) rfl ?_
                      | refine r_idx tab_ok rfl rfl rfl rfl rfl rfl rfl (by first | exact ⟨by omega, by omega⟩ | (simp; omega)) rfl rfl ?_
                      | refine r_st tab_ok rfl rfl rfl rfl ?_
                      | refine r_build tab_ok rfl rfl rfl rfl rfl rfl ?_
                      | refine r_built tab_ok rfl rfl rfl rfl rfl rfl rfl rfl rfl ?_
                      | refine r_append tab_ok rfl rfl rfl rfl rfl rfl rfl rfl rfl (by first | omega | (simp; omega)) rfl ?_))
                  simp only [Int.toNat_natCast, ha]
                  refine ⟨⟨k + 1, acc ++ [⟨lowS a.name, a.value⟩], by omega, by rw [List.length_append, List.length_singleton]; omega, by rw [htf]; exact heqa⟩, by dsimp only; omega, ?_⟩
                  dsimp only
                  rw [hmap]
                  exact fits_conv (by repeat' first | exact trivial | exact rfl | (rw [List.map_append]; first | done | rfl) | exact c_sub rfl (Sub.refl _) rfl | exact c_nil rfl rfl | exact c_thaw rfl rfl rfl | exact c_row rfl rfl rfl | exact c_row rfl rfl (by rw [List.map_append]; first | done | rfl) | exact c_ptr rfl rfl rfl rfl | exact Or.inl ⟨c_sub rfl (Sub.refl _) rfl, c_ptr rfl rfl rfl rfl⟩ | exact c_alt rfl rfl rfl rfl | exact c_ro rfl rfl | exact c_eo rfl rfl | exact c_sub rfl (Sub.altl _ _) rfl | exact c_sub rfl (Sub.nil _) rfl | refine ⟨_, _, rfl, ?_, ?_⟩ | apply And.intro) (by repeat' first | exact trivial | exact rfl | (rw [List.map_append]; first | done | rfl) | exact c_sub rfl (Sub.refl _) rfl | exact c_nil rfl rfl | exact c_thaw rfl rfl rfl | exact c_row rfl rfl rfl | exact c_row rfl rfl (by rw [List.map_append]; first | done | rfl) | exact c_ptr rfl rfl rfl rfl | exact Or.inl ⟨c_sub rfl (Sub.refl _) rfl, c_ptr rfl rfl rfl rfl⟩ | exact c_alt rfl rfl rfl rfl | exact c_ro rfl rfl | exact c_eo rfl rfl | exact c_sub rfl (Sub.altl _ _) rfl | exact c_sub rfl (Sub.nil _) rfl | refine ⟨_, _, rfl, ?_, ?_⟩ | apply And.intro)
            · have hfin : acc = lowA te [] r.attrs := by
                rw [← heqa]
                simp only [Bool.and_eq_false_iff, Bool.not_eq_false', decide_eq_true_eq, decide_eq_false_iff_not] at hc2
                rcases hc2 with h | h
                · have : k = r.attrs.length := by omega
                  subst this
                  rw [List.drop_length, lowA]
                · rw [show te = true by rw [hte]; exact decide_eq_true h, lowA_true]
              have hrow : D.ag [.val (.int .i64 r.parent), .val (.string (lowS r.tag)), .val (.string r.text), .sl 2 (acc.map atD)] = rwD (lowR r) := by
                rw [hfin, hte]; rfl
              repeat (first
                | refine thenA_normal ?_
                | refine awp_exit ?_
                | refine thenA_exit ?_
                | refine blockA_hit rfl ?_)
              refine awp_fits (s' := ⟨[.row 0 3 1 (D2.map iD), .row 0 26 4 (gs.map fun n => rwD n.r), .box 26 [.val (.int .i64 r.parent), .val (.string (lowS r.tag)), .val (.string r.text), .sl 2 (acc.map atD)], .gone], [(0, .sl 4 (l.map rwD)), (3, .row 1 0), (4, .row 0 0), (5, .val (.int .i64 gs.length)), (7, .ptr 2 0)]⟩) (fits_conv (by repeat' first | exact trivial | exact rfl | (rw [List.map_append]; first | done | rfl) | exact c_sub rfl (Sub.refl _) rfl | exact c_nil rfl rfl | exact c_thaw rfl rfl rfl | exact c_row rfl rfl rfl | exact c_row rfl rfl (by rw [List.map_append]; first | done | rfl) | exact c_ptr rfl rfl rfl rfl | exact Or.inl ⟨c_sub rfl (Sub.refl _) rfl, c_ptr rfl rfl rfl rfl⟩ | exact c_alt rfl rfl rfl rfl | exact c_ro rfl rfl | exact c_eo rfl rfl | exact c_sub rfl (Sub.altl _ _) rfl | exact c_sub rfl (Sub.nil _) rfl | refine ⟨_, _, rfl, ?_, ?_⟩ | apply And.intro) (by repeat' first | exact trivial | exact rfl | (rw [List.map_append]; first | done | rfl) | exact c_sub rfl (Sub.refl _) rfl | exact c_nil rfl rfl | exact c_thaw rfl rfl rfl | exact c_row rfl rfl rfl | exact c_row rfl rfl (by rw [List.map_append]; first | done | rfl) | exact c_ptr rfl rfl rfl rfl | exact Or.inl ⟨c_sub rfl (Sub.refl _) rfl, c_ptr rfl rfl rfl rfl⟩ | exact c_alt rfl rfl rfl rfl | exact c_ro rfl rfl | exact c_eo rfl rfl | exact c_sub rfl (Sub.altl _ _) rfl | exact c_sub rfl (Sub.nil _) rfl | refine ⟨_, _, rfl, ?_, ?_⟩ | apply And.intro)) ?_
              repeat (first
                | refine thenA_normal ?_
                | refine a_region ?_
                | refine r_done ?_
                | (refine r_id ?_; first
                  | refine r_ev tab_ok rfl rfl rfl rfl (by first | exact trivial | exact ⟨by omega, by omega⟩ | omega | exact ⟨by omega, by omega, by omega, by omega⟩ | exact Nat.le_of_ble_eq_true rfl) rfl ?_
                  | refine r_ld tab_ok rfl rfl rfl rfl rfl ?_
                  | refine r_built tab_ok rfl rfl rfl rfl rfl rfl rfl rfl rfl ?_
                  | refine r_append tab_ok rfl rfl rfl rfl rfl rfl rfl rfl rfl (by first | omega | (simp; omega)) rfl ?_))
              refine ⟨⟨gs2 ++ [⟨lowR r, [], dv⟩], by rw [List.length_append, List.length_singleton]; omega, fun _ => hokk, fun _ => by rw [List.length_append, List.length_singleton, hg2l]; exact hgo2, ?_⟩, by dsimp only; rw [List.length_append, List.length_singleton]; omega, ?_⟩
              · intro n hn
                rcases List.mem_append.1 hn with h | h
                · have : n.depth ∈ gs2.map fun n => n.depth := List.mem_map.2 ⟨n, h, rfl⟩
                  rw [hg2d] at this
                  obtain ⟨m, hm, e⟩ := List.mem_map.1 this
                  rw [← e]; exact hdg m hm
                · rw [List.mem_singleton.1 h]; dsimp only; omega
              · dsimp only
                rw [← hdr2, List.map_append, hg2r, List.length_append, List.length_singleton, hg2l]
                refine fits_tr (s' := ⟨[.row 0 3 1 (D2.map iD), .row 2 26 4 ((gs.map fun n => rwD n.r) ++ [rwD (lowR r)])], [(0, .sl 4 (l.map rwD)), (3, .row 1 2), (4, .row 0 0), (5, .val (.int .i64 (gs.length + 1 : Nat)))]⟩) ?_ (fits_conv (by repeat' first | exact trivial | exact rfl | (rw [List.map_append]; first | done | rfl) | exact c_sub rfl (Sub.refl _) rfl | exact c_nil rfl rfl | exact c_thaw rfl rfl rfl | exact c_row rfl rfl rfl | exact c_row rfl rfl (by rw [List.map_append]; first | done | rfl) | exact c_ptr rfl rfl rfl rfl | exact Or.inl ⟨c_sub rfl (Sub.refl _) rfl, c_ptr rfl rfl rfl rfl⟩ | exact c_alt rfl rfl rfl rfl | exact c_ro rfl rfl | exact c_eo rfl rfl | exact c_sub rfl (Sub.altl _ _) rfl | exact c_sub rfl (Sub.nil _) rfl | refine ⟨_, _, rfl, ?_, ?_⟩ | apply And.intro) (by repeat' first | exact trivial | exact rfl | (rw [List.map_append]; first | done | rfl) | exact c_sub rfl (Sub.refl _) rfl | exact c_nil rfl rfl | exact c_thaw rfl rfl rfl | exact c_row rfl rfl rfl | exact c_row rfl rfl (by rw [List.map_append]; first | done | rfl) | exact c_ptr rfl rfl rfl rfl | exact Or.inl ⟨c_sub rfl (Sub.refl _) rfl, c_ptr rfl rfl rfl rfl⟩ | exact c_alt rfl rfl rfl rfl | exact c_ro rfl rfl | exact c_eo rfl rfl | exact c_sub rfl (Sub.altl _ _) rfl | exact c_sub rfl (Sub.nil _) rfl | refine ⟨_, _, rfl, ?_, ?_⟩ | apply And.intro))
                rw [← hrow]
                exact fits_drop 2 rfl rfl (by repeat' first | exact trivial | exact Sub.refl _ | exact rfl | apply And.intro)
    · have hgl : gs.length = l.length := by omega
      have heq := heq (hok (by omega))
      rw [hgl, List.drop_length, newG] at heq
      rw [← heq]
      repeat (first
        | refine awp_seq ?_
        | refine awp_exit ?_)
      refine awp_fits (s' := ⟨[.gone, .gone], [(3, .sl 4 (gs.map fun n => rwD n.r))]⟩) (fits_conv (by repeat' first | exact trivial | exact rfl | (rw [List.map_append]; first | done | rfl) | exact c_sub rfl (Sub.refl _) rfl | exact c_nil rfl rfl | exact c_thaw rfl rfl rfl | exact c_row rfl rfl rfl | exact c_row rfl rfl (by rw [List.map_append]; first | done | rfl) | exact c_ptr rfl rfl rfl rfl | exact Or.inl ⟨c_sub rfl (Sub.refl _) rfl, c_ptr rfl rfl rfl rfl⟩ | exact c_alt rfl rfl rfl rfl | exact c_ro rfl rfl | exact c_eo rfl rfl | exact c_sub rfl (Sub.altl _ _) rfl | exact c_sub rfl (Sub.nil _) rfl | refine ⟨_, _, rfl, ?_, ?_⟩ | apply And.intro) (by repeat' first | exact trivial | exact rfl | (rw [List.map_append]; first | done | rfl) | exact c_sub rfl (Sub.refl _) rfl | exact c_nil rfl rfl | exact c_thaw rfl rfl rfl | exact c_row rfl rfl rfl | exact c_row rfl rfl (by rw [List.map_append]; first | done | rfl) | exact c_ptr rfl rfl rfl rfl | exact Or.inl ⟨c_sub rfl (Sub.refl _) rfl, c_ptr rfl rfl rfl rfl⟩ | exact c_alt rfl rfl rfl rfl | exact c_ro rfl rfl | exact c_eo rfl rfl | exact c_sub rfl (Sub.altl _ _) rfl | exact c_sub rfl (Sub.nil _) rfl | refine ⟨_, _, rfl, ?_, ?_⟩ | apply And.intro)) ?_
      repeat (first
        | refine thenA_normal ?_
        | refine a_region ?_
        | refine r_done ?_
        | (refine r_id ?_; first
          | refine r_ev tab_ok rfl rfl rfl rfl (by first | exact trivial | exact ⟨by omega, by omega⟩ | omega | exact ⟨by omega, by omega, by omega, by omega⟩ | exact Nat.le_of_ble_eq_true rfl) rfl ?_
          | refine r_wr tab_ok rfl rfl rfl rfl rfl ?_
          | refine r_build tab_ok rfl rfl rfl rfl rfl rfl ?_))
      refine awp_fits (fits_sinkp (i := 2) (d := 2) (T := 54) (l := [.sl 4 (gs.map fun n => rwD n.r)]) rfl rfl rfl) ?_
      repeat (first
        | refine awp_ret ?_
        | refine ret1 (by first | exact .inl rfl | exact .inr rfl) rfl rfl rfl ?_)
      exact Sub.refl _
end Go.Proofs.Ytklodolkgdmhoaa
