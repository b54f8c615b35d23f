/- Counter styles: the symbols at places. Numbers of law9's seat. -/
import Derived.Test.YtgkcliecgmhmfaaL3
import Derived.Test.YtgkcliecgmhmfaaL5
import Derived.Test.YtgkcliecgmhmfaaG4
namespace Go.Proofs.Ytgkcliecgmhmfaa
open Go Go.RowKit

theorem backward_ok (zs : List Int) : MCalls Try.prog 34 [] [.sl 1 (zs.map iD)] [.box 24 [.sl 1 (zs.map iD)]] (.cl 45 [.ptr 0 0]) := by
  refine mcalls_ofn Try.func34 Try.ntmps34 rfl rfl rfl 1 (by decide) fun S w β => ?_
  repeat (first
    | refine awp_seq ?_
    | refine thenA_normal ?_
    | refine a_region ?_
    | refine awp_ret ?_
    | refine r_done ?_
    | (refine r_id ?_; first
      | refine r_ev tab_ok rfl rfl rfl rfl (by first | exact trivial | exact ⟨by omega, by omega⟩ | omega | exact ⟨by omega, by omega, by omega, by omega⟩ | exact Nat.le_of_ble_eq_true rfl) rfl ?_
      | refine r_wr tab_ok rfl rfl rfl rfl rfl ?_
      | refine r_mkfn rfl rfl rfl rfl rfl rfl ?_)
    | refine retM1 (by first | exact .inl rfl | exact .inr rfl) rfl rfl rfl rfl rfl ?_)
  exact Sub.refl _
/-- A symbol's bytes. -/
def symB (d : Df) (p : Int) : List UInt8 := (d.syms.getD p.toNat ⟨#[]⟩).data.toList
def chosenB (d : Df) (zs : List Int) : List UInt8 := (zs.reverse.map (symB d)).flatten
def chosenA (d : Df) (zs : List Int) : AV := .tup [.val (.string (if 60 < zs.length then ⟨#[]⟩ else ustr (chosenB d zs))), .val (.bool (!decide (60 < zs.length)))]
theorem revs_get (zs : List Int) : (revs zs.length).map (fun x => zs[x.1]) = zs.reverse := by
  rw [revs, List.map_reverse]
  congr 1
  apply List.ext_getElem
  · simp
  · intro i h1 h2
    simp
def selfAt (i : Nat) : AV := .alt (.val (.pointer none)) (.ptr i 0)
def bytesAt (d : Df) (zs : List Int) (pre : List (Fin zs.length)) : List UInt8 := (pre.map (fun x => symB d zs[x.1])).flatten
def memAt (d : Df) (zs : List Int) (pre : List (Fin zs.length)) : List AB := [.box 28 (dfC d), .box 57 [selfAt 1, .row 3 (2 * pre.length)], .gone, .row (2 * pre.length) 5 1 ((bytesAt d zs pre).map bD)]
theorem symB_le (d : Df) (hs : ∀ s ∈ d.syms, s.size ≤ 1000) (p : Int) : (symB d p).length ≤ 1000 := by
  unfold symB
  rw [List.getD_eq_getElem?_getD]
  cases h : d.syms[p.toNat]? with
  | none => simp
  | some s =>
    have := hs s (List.mem_of_getElem? h)
    have e : s.data.toList.length = s.size := Array.length_toList
    exact e ▸ this
theorem bytesAt_le (d : Df) (hs : ∀ s ∈ d.syms, s.size ≤ 1000) (zs : List Int) : ∀ pre : List (Fin zs.length), (bytesAt d zs pre).length ≤ pre.length * 1000
  | [] => Nat.zero_le _
  | x :: r => by
    have h1 := bytesAt_le d hs zs r
    have h2 := symB_le d hs zs[x.1]
    have e : bytesAt d zs (x :: r) = symB d zs[x.1] ++ bytesAt d zs r := rfl
    rw [e, List.length_append, List.length_cons]
    omega
theorem chosen_ok (d : Df) (zs : List Int) (hl : zs.length ≤ 4611686018427387904) (hz : ∀ z ∈ zs, 0 ≤ z ∧ z < (d.syms.length : Int)) (hs : ∀ s ∈ d.syms, s.size ≤ 1000) : PCalls Try.prog 19 [dfA d, .sl 1 (zs.map iD)] (chosenA d zs) := by
  refine p_start Try.func19 Try.ntmps19 rfl rfl rfl fun S w => ?_
  repeat (first
    | refine awp_seq ?_
    | refine thenA_normal ?_
    | refine a_region ?_
    | refine r_done ?_
    | (refine r_id ?_; first
      | refine r_len tab_ok rfl rfl rfl rfl rfl rfl rfl ?_
      | refine r_ev tab_ok rfl rfl rfl rfl (by first | exact trivial | exact ⟨by omega, by omega⟩ | omega | exact ⟨by omega, by omega, by omega, by omega⟩ | exact Nat.le_of_ble_eq_true rfl) rfl ?_
      | refine r_wr tab_ok rfl rfl rfl rfl rfl ?_))
  refine awp_cond_p rfl (fun h => ?_) (fun h => ?_)
  · repeat (first
      | refine awp_seq ?_
      | refine thenA_normal ?_
      | refine a_region ?_
      | refine awp_ret ?_
      | refine thenA_ret ?_
      | refine r_done ?_
      | (refine r_id ?_; first
        | refine r_ev tab_ok rfl rfl rfl rfl (by first | exact trivial | exact ⟨by omega, by omega⟩ | omega | exact ⟨by omega, by omega, by omega, by omega⟩ | exact Nat.le_of_ble_eq_true rfl) rfl ?_)
      | refine ret2 (by first | exact .inl rfl | exact .inr rfl) rfl rfl rfl rfl ?_ ?_)
    · exact Sub.of_eq (by rw [if_pos (by omega)])
    · exact Sub.of_eq (by rw [decide_eq_true (by omega)]; rfl)
  · repeat (first
      | refine awp_seq ?_
      | refine a_region ?_
      | refine awp_skip ?_
      | refine r_done ?_
      | (refine r_id ?_; first
        | refine r_ev tab_ok rfl rfl rfl rfl (by first | exact trivial | exact ⟨by omega, by omega⟩ | omega | exact ⟨by omega, by omega, by omega, by omega⟩ | exact Nat.le_of_ble_eq_true rfl) rfl ?_
        | refine r_wr tab_ok rfl rfl rfl rfl rfl ?_))
    refine r_rcall (backward_ok zs) call34 rfl rfl ⟨Sub.refl _, trivial⟩ rfl rfl rfl rfl rfl rfl ?_
    repeat (first
      | refine thenA_normal ?_
      | refine awp_block ?_
      | refine r_done ?_)
    refine awp_fits (fits_sink (i := 2) (d := 13) rfl rfl rfl) ?_
    refine awp_fits (fits_conv (M' := memAt d zs []) (F' := [(2, .ptr 0 0), (6, .ptr 1 0), (13, .cl 45 [.dptr [.sl 1 (zs.map iD)]])]) (by repeat' first | exact trivial | exact rfl | (rw [List.map_append]; first | done | rfl) | exact c_sub rfl (Sub.refl _) rfl | exact c_nil rfl rfl | exact c_thaw rfl rfl rfl | exact c_row rfl rfl rfl | exact c_row rfl rfl (by rw [List.map_append]; first | done | rfl) | exact c_ptr rfl rfl rfl rfl | exact Or.inl ⟨c_sub rfl (Sub.refl _) rfl, c_ptr rfl rfl rfl rfl⟩ | exact c_alt rfl rfl rfl rfl | exact c_ro rfl rfl | exact c_eo rfl rfl | exact c_sub rfl (Sub.altl _ _) rfl | refine ⟨_, _, rfl, ?_, ?_⟩ | apply And.intro) (by repeat' first | exact trivial | exact rfl | (rw [List.map_append]; first | done | rfl) | exact c_sub rfl (Sub.refl _) rfl | exact c_nil rfl rfl | exact c_thaw rfl rfl rfl | exact c_row rfl rfl rfl | exact c_row rfl rfl (by rw [List.map_append]; first | done | rfl) | exact c_ptr rfl rfl rfl rfl | exact Or.inl ⟨c_sub rfl (Sub.refl _) rfl, c_ptr rfl rfl rfl rfl⟩ | exact c_alt rfl rfl rfl rfl | exact c_ro rfl rfl | exact c_eo rfl rfl | exact c_sub rfl (Sub.altl _ _) rfl | refine ⟨_, _, rfl, ?_, ?_⟩ | apply And.intro)) ?_
    refine a_back1 (back_ints zs) call45 (g := .tmp 13) (p := 14) (q := 15) rfl rfl rfl rfl (memAt d zs) (memAt d zs) (fun _ => True) (fun _ => False) rfl (fun _ => by simp [NoIter, memAt, AB.isIter]) (fun _ => by simp [NoIter, memAt, AB.isIter]) trivial (fun l S w1 β1 pre x hg hgl => ?_) (fun _ => ?_) (fun _ _ h => h.elim)
    · have hx := hz zs[x.1] (List.getElem_mem _)
      have hsz := hs (d.syms[zs[x.1].toNat]'(by omega)) (List.getElem_mem _)
      have hbl := bytesAt_le d hs zs pre
      have e : memAt d zs (pre ++ [x]) = [.box 28 (dfC d), .box 57 [selfAt 1, .row 3 (2 * pre.length + 2)], .gone, .row (2 * pre.length + 2) 5 1 ((bytesAt d zs pre ++ (d.syms[zs[x.1].toNat]'(by omega)).data.toList).map bD)] := by
        have h1 : bytesAt d zs (pre ++ [x]) = bytesAt d zs pre ++ (d.syms[zs[x.1].toNat]'(by omega)).data.toList := by
          simp only [bytesAt, List.map_append, List.map_cons, List.map_nil, List.flatten_append, List.flatten_cons, List.flatten_nil, List.append_nil, symB]
          rw [List.getD_eq_getElem?_getD, List.getElem?_eq_getElem (by omega)]
          rfl
        rw [memAt, h1, List.length_append]
        rfl
      repeat (first
        | refine awp_block ?_
        | refine a_region ?_
        | (refine r_id ?_; first
          | refine r_ev tab_ok rfl rfl rfl rfl (by first | exact trivial | exact ⟨by omega, by omega⟩ | omega | exact ⟨by omega, by omega, by omega, by omega⟩ | exact Nat.le_of_ble_eq_true rfl) rfl ?_
          | refine r_ld tab_ok rfl rfl rfl rfl rfl ?_
          | refine r_idx tab_ok rfl rfl rfl rfl rfl rfl rfl (by first | exact ⟨by omega, by omega⟩ | (simp; omega)) rfl rfl ?_))
      refine r_mcall [1, 3] (write_ok (2 * pre.length) (bytesAt d zs pre) (d.syms[zs[x.1].toNat]'(by omega)) (by omega)) call31 rfl rfl ⟨rfl, rfl, trivial⟩ (by decide) ⟨Sub.refl _, Sub.refl _, trivial⟩ rfl rfl rfl rfl rfl rfl rfl ?_
      repeat (first
        | refine blockA_normal ?_
        | refine r_done ?_)
      refine .inl ⟨rfl, trivial, [], ?_⟩
      rw [e]
      exact fits_convM (by repeat' first | exact trivial | exact rfl | (rw [List.map_append]; first | done | rfl) | exact c_sub rfl (Sub.refl _) rfl | exact c_nil rfl rfl | exact c_thaw rfl rfl rfl | exact c_row rfl rfl rfl | exact c_row rfl rfl (by rw [List.map_append]; first | done | rfl) | exact c_ptr rfl rfl rfl rfl | exact Or.inl ⟨c_sub rfl (Sub.refl _) rfl, c_ptr rfl rfl rfl rfl⟩ | exact c_alt rfl rfl rfl rfl | exact c_ro rfl rfl | exact c_eo rfl rfl | exact c_sub rfl (Sub.altl _ _) rfl | refine ⟨_, _, rfl, ?_, ?_⟩ | apply And.intro) (by repeat' first | exact trivial | exact rfl | (rw [List.map_append]; first | done | rfl) | exact c_sub rfl (Sub.refl _) rfl | exact c_nil rfl rfl | exact c_thaw rfl rfl rfl | exact c_row rfl rfl rfl | exact c_row rfl rfl (by rw [List.map_append]; first | done | rfl) | exact c_ptr rfl rfl rfl rfl | exact Or.inl ⟨c_sub rfl (Sub.refl _) rfl, c_ptr rfl rfl rfl rfl⟩ | exact c_alt rfl rfl rfl rfl | exact c_ro rfl rfl | exact c_eo rfl rfl | exact c_sub rfl (Sub.altl _ _) rfl | refine ⟨_, _, rfl, ?_, ?_⟩ | apply And.intro) ⟨trivial, trivial, trivial, .inl rfl, trivial⟩
    · have hbl := bytesAt_le d hs zs (revs zs.length)
      rw [revs_len] at hbl
      repeat (first
        | refine awp_seq ?_
        | refine a_region ?_)
      refine r_mcall [1, 3] (string_ok (2 * (revs zs.length).length) (bytesAt d zs (revs zs.length)) (by omega)) call33 rfl rfl ⟨rfl, rfl, trivial⟩ (by decide) ⟨Sub.refl _, trivial⟩ rfl rfl rfl rfl rfl rfl rfl ?_
      repeat (first
        | refine thenA_normal ?_
        | refine awp_ret ?_
        | refine r_done ?_
        | (refine r_id ?_; first
          | refine r_ev tab_ok rfl rfl rfl rfl (by first | exact trivial | exact ⟨by omega, by omega⟩ | omega | exact ⟨by omega, by omega, by omega, by omega⟩ | exact Nat.le_of_ble_eq_true rfl) rfl ?_)
        | refine ret2 (by first | exact .inl rfl | exact .inr rfl) rfl rfl rfl rfl ?_ ?_)
      · exact Sub.of_eq (by
          rw [if_neg (by omega), chosenB, ← revs_get, List.map_map]
          rfl)
      · exact Sub.of_eq (by rw [decide_eq_false (by omega)]; rfl)
end Go.Proofs.Ytgkcliecgmhmfaa
