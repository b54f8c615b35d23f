/- Scope: Values, Pairs, Begin. -/
import Derived.Test.YtajbbcnfohbieaaS7
namespace Go.Proofs.Ytajbbcnfohbieaa
open Go Go.RowKit

theorem fits_trans {cx : Cx} {s s' s'' : AS} (h : Fits cx s s') (k : Fits cx s' s'') : Fits cx s s'' := fun a w hs => k a w (h a w hs)
theorem take_at {α : Type} {l : List α} {i : Nat} (h : i < l.length) : l.take (i + 1) = l.take i ++ [l[i]] := by
  rw [List.take_succ_eq_append_getElem h]
def valuesL (l : List Ctr) (name : ByteArray) : List Int := (l.filter fun c => decide (c.name = name)).map (·.n)
theorem values_le (l : List Ctr) (name : ByteArray) : (valuesL l name).length ≤ l.length := by
  unfold valuesL
  rw [List.length_map]
  exact List.length_filter_le _ _
theorem values_step {l : List Ctr} {name : ByteArray} {i : Nat} (h : i < l.length) : valuesL (l.take (i + 1)) name = valuesL (l.take i) name ++ (if l[i].name = name then [l[i].n] else []) := by
  rw [take_at h, valuesL, List.filter_append, List.map_append, valuesL]
  congr 1
  by_cases e : l[i].name = name <;> simp [e]
theorem values_ok (l : List Ctr) (name : ByteArray) (hl : l.length ≤ 100000) : PCalls Try.prog 13 [.sl 4 (l.map cD), .val (.string name)] (.sl 1 ((valuesL l name).map iD)) := by
  refine p_start Try.func13 Try.ntmps13 rfl rfl rfl fun S w => ?_
  have hlm : (l.map cD).length = l.length := List.length_map _
  repeat (first
    | refine awp_seq ?_
    | refine thenA_normal ?_
    | refine awp_block ?_
    | refine a_region ?_
    | refine r_done ?_
    | (refine r_id ?_; first
      | refine r_len tab_ok rfl rfl rfl rfl rfl rfl rfl ?_
      | refine r_ev tab_ok rfl rfl rfl rfl (by first | exact trivial | exact ⟨by omega, by omega⟩ | omega | exact ⟨by omega, by omega, by omega, by omega⟩ | exact Nat.le_of_ble_eq_true rfl) rfl ?_))
  refine a_loop (σ := {i : Nat // i ≤ l.length}) (fun x => [.row 0 3 1 ((valuesL (l.take x.1) name).map iD)]) (fun x => [(1, .val (.string name)), (4, .row 0 0), (7, .sl 4 (l.map cD)), (8, .val (.int .i64 l.length)), (9, .val (.int .i64 x.1))]) (fun x => l.length - x.1) ⟨0, Nat.zero_le _⟩ (fits_conv (by repeat' first | exact trivial | exact rfl | (rw [List.map_append]; first | done | rfl) | exact c_sub rfl (Sub.refl _) rfl | exact c_nil rfl rfl | exact c_thaw rfl rfl rfl | exact c_row rfl rfl rfl | exact c_row rfl rfl (by rw [List.map_append]; first | done | rfl) | exact c_ptr rfl rfl rfl rfl | exact Or.inl ⟨c_sub rfl (Sub.refl _) rfl, c_ptr rfl rfl rfl rfl⟩ | exact c_alt rfl rfl rfl rfl | exact c_ro rfl rfl | exact c_eo rfl rfl | exact c_sub rfl (Sub.altl _ _) rfl | exact c_sub rfl (Sub.nil _) rfl | refine ⟨_, _, rfl, ?_, ?_⟩ | apply And.intro) (by repeat' first | exact trivial | exact rfl | (rw [List.map_append]; first | done | rfl) | exact c_sub rfl (Sub.refl _) rfl | exact c_nil rfl rfl | exact c_thaw rfl rfl rfl | exact c_row rfl rfl rfl | exact c_row rfl rfl (by rw [List.map_append]; first | done | rfl) | exact c_ptr rfl rfl rfl rfl | exact Or.inl ⟨c_sub rfl (Sub.refl _) rfl, c_ptr rfl rfl rfl rfl⟩ | exact c_alt rfl rfl rfl rfl | exact c_ro rfl rfl | exact c_eo rfl rfl | exact c_sub rfl (Sub.altl _ _) rfl | exact c_sub rfl (Sub.nil _) rfl | refine ⟨_, _, rfl, ?_, ?_⟩ | apply And.intro)) ?_
  rintro ⟨i, hi⟩
  dsimp only
  have hvl := values_le (l.take i) name
  have htl : (l.take i).length ≤ i := List.length_take_le _ _
  have hml : ((valuesL (l.take i) name).map iD).length = (valuesL (l.take i) name).length := List.length_map _
  repeat (first
    | refine awp_seq ?_
    | refine a_region ?_
    | refine r_done ?_
    | (refine r_id ?_; first
      | refine r_ev tab_ok rfl rfl rfl rfl (by first | exact trivial | exact ⟨by omega, by omega⟩ | omega | exact ⟨by omega, by omega, by omega, by omega⟩ | exact Nat.le_of_ble_eq_true rfl) rfl ?_))
  refine awp_cond_p rfl (fun hlt => ?_) (fun hge => ?_)
  · have hlt' : i < l.length := by omega
    repeat (first
      | refine awp_seq ?_
      | refine thenA_normal ?_
      | refine awp_block ?_
      | refine a_region ?_
      | refine awp_skip ?_
      | refine r_done ?_
      | (refine r_id ?_; first
        | refine r_ev tab_ok rfl rfl rfl rfl (by first | exact trivial | exact ⟨by omega, by omega⟩ | omega | exact ⟨by omega, by omega, by omega, by omega⟩ | exact Nat.le_of_ble_eq_true rfl) rfl ?_
        | refine r_ld tab_ok rfl rfl rfl rfl rfl ?_
        | refine r_idx tab_ok rfl rfl rfl rfl rfl rfl rfl (by first | exact ⟨by omega, by omega⟩ | (simp; omega)) rfl rfl ?_
        | refine r_wr tab_ok rfl rfl rfl rfl rfl ?_
        | refine r_st tab_ok rfl rfl rfl rfl ?_))
    refine awp_cond_p rfl (fun hn => ?_) (fun hn => ?_)
    · simp only [Int.toNat_natCast] at hn
      have e : (valuesL (l.take (i + 1)) name).map iD = (valuesL (l.take i) name).map iD ++ [iD l[i].n] := by rw [values_step hlt', if_pos hn, List.map_append]; rfl
      repeat (first
        | refine thenA_normal ?_
        | refine a_region ?_
        | refine r_done ?_
        | (refine r_id ?_; first
          | refine r_ev tab_ok rfl rfl rfl rfl (by first | exact trivial | exact ⟨by omega, by omega⟩ | omega | exact ⟨by omega, by omega, by omega, by omega⟩ | exact Nat.le_of_ble_eq_true rfl) rfl ?_
          | refine r_ld tab_ok rfl rfl rfl rfl rfl ?_
          | refine r_built tab_ok rfl rfl rfl rfl rfl rfl rfl rfl rfl ?_
          | refine r_append tab_ok rfl rfl rfl rfl rfl rfl rfl rfl rfl (by first | omega | (simp; omega)) rfl ?_))
      exact ⟨⟨i + 1, hlt'⟩, by dsimp only; omega, fits_trans (s' := ⟨[.row 2 3 1 ((valuesL (l.take i) name).map iD ++ [iD l[i].n])], [(1, .val (.string name)), (4, .row 0 2), (7, .sl 4 (l.map cD)), (8, .val (.int .i64 l.length)), (9, .val (.int .i64 ((i + 1 : Nat) : Int)))]⟩)
        (fits_drop 1 rfl rfl ⟨⟨rfl, Sub.refl _⟩, ⟨rfl, Sub.refl _⟩, ⟨rfl, Sub.refl _⟩, ⟨rfl, Sub.refl _⟩, ⟨rfl, Sub.refl _⟩, trivial⟩) (fits_conv (by repeat' first | exact trivial | exact rfl | (rw [e]; first | done | rfl) | exact c_sub rfl (Sub.refl _) rfl | exact c_nil rfl rfl | exact c_thaw rfl rfl rfl | exact c_row rfl rfl rfl | exact c_row rfl rfl (by rw [e]; first | done | rfl) | exact c_ptr rfl rfl rfl rfl | exact Or.inl ⟨c_sub rfl (Sub.refl _) rfl, c_ptr rfl rfl rfl rfl⟩ | exact c_alt rfl rfl rfl rfl | exact c_sub rfl (Sub.altl _ _) rfl | exact c_sub rfl (Sub.nil _) rfl | refine ⟨_, _, rfl, ?_, ?_⟩ | apply And.intro) (by repeat' first | exact trivial | exact rfl | (rw [e]; first | done | rfl) | exact c_sub rfl (Sub.refl _) rfl | exact c_nil rfl rfl | exact c_thaw rfl rfl rfl | exact c_row rfl rfl rfl | exact c_row rfl rfl (by rw [e]; first | done | rfl) | exact c_ptr rfl rfl rfl rfl | exact Or.inl ⟨c_sub rfl (Sub.refl _) rfl, c_ptr rfl rfl rfl rfl⟩ | exact c_alt rfl rfl rfl rfl | exact c_sub rfl (Sub.altl _ _) rfl | exact c_sub rfl (Sub.nil _) rfl | refine ⟨_, _, rfl, ?_, ?_⟩ | apply And.intro))⟩
    · simp only [Int.toNat_natCast] at hn
      have e : valuesL (l.take (i + 1)) name = valuesL (l.take i) name := by rw [values_step hlt', if_neg hn, List.append_nil]
      repeat (first
        | refine thenA_normal ?_
        | refine a_region ?_
        | refine awp_skip ?_
        | refine r_done ?_
        | (refine r_id ?_; first
          | refine r_ev tab_ok rfl rfl rfl rfl (by first | exact trivial | exact ⟨by omega, by omega⟩ | omega | exact ⟨by omega, by omega, by omega, by omega⟩ | exact Nat.le_of_ble_eq_true rfl) rfl ?_))
      refine ⟨⟨i + 1, hlt'⟩, by dsimp only; omega, ?_⟩
      dsimp only
      rw [e]
      exact fits_drop 1 rfl rfl ⟨⟨rfl, Sub.refl _⟩, ⟨rfl, Sub.refl _⟩, ⟨rfl, Sub.refl _⟩, ⟨rfl, Sub.refl _⟩, ⟨rfl, Sub.refl _⟩, trivial⟩
  · have e : l.take i = l := List.take_of_length_le (by omega)
    rw [e]
    repeat (first
      | refine awp_seq ?_
      | refine thenA_normal ?_
      | refine a_region ?_
      | refine awp_ret ?_
      | refine awp_exit ?_
      | refine r_done ?_
      | (refine r_id ?_; first
        | refine r_ev tab_ok rfl rfl rfl rfl (by first | exact trivial | exact ⟨by omega, by omega⟩ | omega | exact ⟨by omega, by omega, by omega, by omega⟩ | exact Nat.le_of_ble_eq_true rfl) rfl ?_)
      | refine ret1_row (by first | exact .inl rfl | exact .inr rfl) rfl rfl rfl ?_)
    exact Sub.refl _
def pD (p : Pr) : D := .ag [.val (.string p.name), .val (.int .i64 p.n), .val (.bool p.rev), .val (.bool p.auto)]
def pairC (c : Ctr) : Pr := ⟨c.name, c.n, c.rev, false⟩
theorem pairs_ok (l : List Ctr) (hl : l.length ≤ 100000) : PCalls Try.prog 19 [.sl 4 (l.map cD)] (.sl 4 ((l.map pairC).map pD)) := by
  refine p_start Try.func19 Try.ntmps19 rfl rfl rfl fun S w => ?_
  have hlm : (l.map cD).length = l.length := List.length_map _
  repeat (first
    | refine awp_seq ?_
    | refine thenA_normal ?_
    | refine awp_block ?_
    | refine a_region ?_
    | refine r_done ?_
    | (refine r_id ?_; first
      | refine r_len tab_ok rfl rfl rfl rfl rfl rfl rfl ?_
      | refine r_ev tab_ok rfl rfl rfl rfl (by first | exact trivial | exact ⟨by omega, by omega⟩ | omega | exact ⟨by omega, by omega, by omega, by omega⟩ | exact Nat.le_of_ble_eq_true rfl) rfl ?_))
  refine a_loop (σ := {i : Nat // i ≤ l.length}) (fun x => [.row 0 28 4 (((l.take x.1).map pairC).map pD)]) (fun x => [(2, .row 0 0), (5, .sl 4 (l.map cD)), (6, .val (.int .i64 l.length)), (7, .val (.int .i64 x.1))]) (fun x => l.length - x.1) ⟨0, Nat.zero_le _⟩ (fits_conv (by repeat' first | exact trivial | exact rfl | (rw [List.map_append]; first | done | rfl) | exact c_sub rfl (Sub.refl _) rfl | exact c_nil rfl rfl | exact c_thaw rfl rfl rfl | exact c_row rfl rfl rfl | exact c_row rfl rfl (by rw [List.map_append]; first | done | rfl) | exact c_ptr rfl rfl rfl rfl | exact Or.inl ⟨c_sub rfl (Sub.refl _) rfl, c_ptr rfl rfl rfl rfl⟩ | exact c_alt rfl rfl rfl rfl | exact c_ro rfl rfl | exact c_eo rfl rfl | exact c_sub rfl (Sub.altl _ _) rfl | exact c_sub rfl (Sub.nil _) rfl | refine ⟨_, _, rfl, ?_, ?_⟩ | apply And.intro) (by repeat' first | exact trivial | exact rfl | (rw [List.map_append]; first | done | rfl) | exact c_sub rfl (Sub.refl _) rfl | exact c_nil rfl rfl | exact c_thaw rfl rfl rfl | exact c_row rfl rfl rfl | exact c_row rfl rfl (by rw [List.map_append]; first | done | rfl) | exact c_ptr rfl rfl rfl rfl | exact Or.inl ⟨c_sub rfl (Sub.refl _) rfl, c_ptr rfl rfl rfl rfl⟩ | exact c_alt rfl rfl rfl rfl | exact c_ro rfl rfl | exact c_eo rfl rfl | exact c_sub rfl (Sub.altl _ _) rfl | exact c_sub rfl (Sub.nil _) rfl | refine ⟨_, _, rfl, ?_, ?_⟩ | apply And.intro)) ?_
  rintro ⟨i, hi⟩
  dsimp only
  have htl : (l.take i).length ≤ i := List.length_take_le _ _
  have hml : (((l.take i).map pairC).map pD).length = (l.take i).length := by rw [List.length_map, List.length_map]
  repeat (first
    | refine awp_seq ?_
    | refine a_region ?_
    | refine r_done ?_
    | (refine r_id ?_; first
      | refine r_ev tab_ok rfl rfl rfl rfl (by first | exact trivial | exact ⟨by omega, by omega⟩ | omega | exact ⟨by omega, by omega, by omega, by omega⟩ | exact Nat.le_of_ble_eq_true rfl) rfl ?_))
  refine awp_cond_p rfl (fun hlt => ?_) (fun hge => ?_)
  · have hlt' : i < l.length := by omega
    have e : ((l.take (i + 1)).map pairC).map pD = ((l.take i).map pairC).map pD ++ [pD (pairC l[i])] := by rw [take_at hlt', List.map_append, List.map_append]; rfl
    repeat (first
      | refine awp_seq ?_
      | refine thenA_normal ?_
      | refine awp_block ?_
      | refine a_region ?_
      | refine awp_skip ?_
      | refine r_done ?_
      | (refine r_id ?_; first
        | refine r_ev tab_ok rfl rfl rfl rfl (by first | exact trivial | exact ⟨by omega, by omega⟩ | omega | exact ⟨by omega, by omega, by omega, by omega⟩ | exact Nat.le_of_ble_eq_true rfl) rfl ?_
        | refine r_ld tab_ok rfl rfl rfl rfl rfl ?_
        | refine r_idx tab_ok rfl rfl rfl rfl rfl rfl rfl (by first | exact ⟨by omega, by omega⟩ | (simp; omega)) rfl rfl ?_
        | refine r_wr tab_ok rfl rfl rfl rfl rfl ?_
        | refine r_st tab_ok rfl rfl rfl rfl ?_
        | refine r_build tab_ok rfl rfl rfl rfl rfl rfl ?_
        | refine r_built tab_ok rfl rfl rfl rfl rfl rfl rfl rfl rfl ?_
        | refine r_append tab_ok rfl rfl rfl rfl rfl rfl rfl rfl rfl (by first | omega | (simp; omega)) rfl ?_))
    exact ⟨⟨i + 1, hlt'⟩, by dsimp only; omega, fits_trans (s' := ⟨[.row 2 28 4 (((l.take i).map pairC).map pD ++ [pD (pairC l[i])])], [(2, .row 0 2), (5, .sl 4 (l.map cD)), (6, .val (.int .i64 l.length)), (7, .val (.int .i64 ((i + 1 : Nat) : Int)))]⟩)
        (fits_drop 1 rfl rfl ⟨⟨rfl, Sub.refl _⟩, ⟨rfl, Sub.refl _⟩, ⟨rfl, Sub.refl _⟩, ⟨rfl, Sub.refl _⟩, trivial⟩) (fits_conv (by repeat' first | exact trivial | exact rfl | (rw [e]; first | done | rfl) | exact c_sub rfl (Sub.refl _) rfl | exact c_nil rfl rfl | exact c_thaw rfl rfl rfl | exact c_row rfl rfl rfl | exact c_row rfl rfl (by rw [e]; first | done | rfl) | exact c_ptr rfl rfl rfl rfl | exact Or.inl ⟨c_sub rfl (Sub.refl _) rfl, c_ptr rfl rfl rfl rfl⟩ | exact c_alt rfl rfl rfl rfl | exact c_sub rfl (Sub.altl _ _) rfl | exact c_sub rfl (Sub.nil _) rfl | refine ⟨_, _, rfl, ?_, ?_⟩ | apply And.intro) (by repeat' first | exact trivial | exact rfl | (rw [e]; first | done | rfl) | exact c_sub rfl (Sub.refl _) rfl | exact c_nil rfl rfl | exact c_thaw rfl rfl rfl | exact c_row rfl rfl rfl | exact c_row rfl rfl (by rw [e]; first | done | rfl) | exact c_ptr rfl rfl rfl rfl | exact Or.inl ⟨c_sub rfl (Sub.refl _) rfl, c_ptr rfl rfl rfl rfl⟩ | exact c_alt rfl rfl rfl rfl | exact c_sub rfl (Sub.altl _ _) rfl | exact c_sub rfl (Sub.nil _) rfl | refine ⟨_, _, rfl, ?_, ?_⟩ | apply And.intro))⟩
  · have e : l.take i = l := List.take_of_length_le (by omega)
    rw [e]
    repeat (first
      | refine awp_seq ?_
      | refine thenA_normal ?_
      | refine a_region ?_
      | refine awp_ret ?_
      | refine awp_exit ?_
      | refine r_done ?_
      | (refine r_id ?_; first
        | refine r_ev tab_ok rfl rfl rfl rfl (by first | exact trivial | exact ⟨by omega, by omega⟩ | omega | exact ⟨by omega, by omega, by omega, by omega⟩ | exact Nat.le_of_ble_eq_true rfl) rfl ?_)
      | refine ret1_row (by first | exact .inl rfl | exact .inr rfl) rfl rfl rfl ?_)
    exact Sub.refl _
/-- Begin's first loop: the sibling's counters that are not yet there. -/
def joinL (out : List Ctr) : List Ctr → List Ctr
  | [] => out
  | c :: r => joinL (if findR (sameC c) out < 0 then out ++ [c] else out) r
theorem join_le : ∀ (out r : List Ctr), (joinL out r).length ≤ out.length + r.length
  | out, [] => by simp [joinL]
  | out, c :: r => by
    rw [joinL, List.length_cons]
    by_cases h : findR (sameC c) out < 0
    · rw [if_pos h]
      have := join_le (out ++ [c]) r
      rw [List.length_append, List.length_singleton] at this
      omega
    · rw [if_neg h]
      have := join_le out r
      omega
theorem join_snoc : ∀ (out r : List Ctr) (c : Ctr), joinL out (r ++ [c]) = (if findR (sameC c) (joinL out r) < 0 then joinL out r ++ [c] else joinL out r)
  | out, [], c => rfl
  | out, d :: r, c => by rw [List.cons_append, joinL, join_snoc _ r c, joinL]
/-- Begin's second loop: each as it was last. -/
def lastC (last : List Ctr) (c : Ctr) : Ctr := if 0 ≤ finalF last c then { c with n := (last.getD (finalF last c).toNat default).n } else c
def beginL (parent sib last : List Ctr) : List Ctr := (joinL parent sib).map (lastC last)
theorem final_lt (l : List Ctr) (x : Ctr) : -1 ≤ finalF l x ∧ finalF l x < l.length := lastI_lt _ l _
def midL (f : Ctr → Ctr) (o : List Ctr) (i : Nat) : List Ctr := (o.take i).map f ++ o.drop i
theorem mid_len (f : Ctr → Ctr) (o : List Ctr) (i : Nat) : (midL f o i).length = o.length := by
  simp [midL]; omega
theorem mid_at (f : Ctr → Ctr) (o : List Ctr) (i : Nat) (h : i < o.length) : (midL f o i)[i]'(by rw [mid_len]; exact h) = o[i] := by
  unfold midL
  rw [List.getElem_append_right (by simp; omega)]
  simp [Nat.min_eq_left (Nat.le_of_lt h)]
theorem mid_step (f : Ctr → Ctr) (o : List Ctr) (i : Nat) (h : i < o.length) : (midL f o i).set i (f o[i]) = midL f o (i + 1) := by
  unfold midL
  rw [List.set_append_right _ _ (by simp; omega), take_at h, List.map_append, List.append_assoc]
  congr 1
  have e : i - ((o.take i).map f).length = 0 := by simp; omega
  rw [e, List.drop_eq_getElem_cons h]
  rfl
theorem mid_same (f : Ctr → Ctr) (o : List Ctr) (i : Nat) (h : i < o.length) (hf : f o[i] = o[i]) : midL f o (i + 1) = midL f o i := by
  rw [← mid_step f o i h, hf]
  have := mid_at f o i h
  conv => lhs; arg 3; rw [← this]
  exact List.set_getElem_self _
set_option maxHeartbeats 1000000 in
theorem begin_ok (parent sib last : List Ctr) (ss : List Int) (hp : parent.length ≤ 10000) (hs : sib.length ≤ 10000) (hl : last.length ≤ 10000) : PCalls Try.prog 18 [.sl 4 (parent.map cD), .sl 4 (sib.map cD), .sl 4 (last.map cD), .sl 1 (ss.map iD)] (.sl 4 ((beginL parent sib last).map cD)) := by
  refine p_start Try.func18 Try.ntmps18 rfl rfl rfl fun S w => ?_
  repeat (first
    | refine awp_seq ?_
    | refine a_region ?_
    | refine r_done ?_
    | (refine r_id ?_; first
      | refine r_ev tab_ok rfl rfl rfl rfl (by first | exact trivial | exact ⟨by omega, by omega⟩ | omega | exact ⟨by omega, by omega, by omega, by omega⟩ | exact Nat.le_of_ble_eq_true rfl) rfl ?_))
  refine r_rcall (clone_ok parent (by omega)) call20 rfl rfl ⟨Sub.refl _, trivial⟩ rfl rfl rfl rfl rfl rfl ?_
  repeat (first
    | refine awp_seq ?_
    | refine thenA_normal ?_
    | refine awp_block ?_
    | refine a_region ?_
    | refine r_done ?_
    | (refine r_id ?_; first
      | refine r_len tab_ok rfl rfl rfl rfl rfl rfl rfl ?_
      | refine r_ev tab_ok rfl rfl rfl rfl (by first | exact trivial | exact ⟨by omega, by omega⟩ | omega | exact ⟨by omega, by omega, by omega, by omega⟩ | exact Nat.le_of_ble_eq_true rfl) rfl ?_))
  refine a_loop (σ := {i : Nat // i ≤ sib.length}) (fun x => [.row 0 38 4 ((joinL parent (sib.take x.1)).map cD)]) (fun x => [(2, .sl 4 (last.map cD)), (9, .row 0 0), (17, .sl 4 (sib.map cD)), (18, .val (.int .i64 sib.length)), (19, .val (.int .i64 x.1))]) (fun x => sib.length - x.1) ⟨0, Nat.zero_le _⟩ (fits_conv (by repeat' first | exact trivial | exact rfl | (rw [List.map_append]; first | done | rfl) | exact c_sub rfl (Sub.refl _) rfl | exact c_nil rfl rfl | exact c_thaw rfl rfl rfl | exact c_row rfl rfl rfl | exact c_row rfl rfl (by rw [List.map_append]; first | done | rfl) | exact c_ptr rfl rfl rfl rfl | exact Or.inl ⟨c_sub rfl (Sub.refl _) rfl, c_ptr rfl rfl rfl rfl⟩ | exact c_alt rfl rfl rfl rfl | exact c_ro rfl rfl | exact c_eo rfl rfl | exact c_sub rfl (Sub.altl _ _) rfl | exact c_sub rfl (Sub.nil _) rfl | refine ⟨_, _, rfl, ?_, ?_⟩ | apply And.intro) (by repeat' first | exact trivial | exact rfl | (rw [List.map_append]; first | done | rfl) | exact c_sub rfl (Sub.refl _) rfl | exact c_nil rfl rfl | exact c_thaw rfl rfl rfl | exact c_row rfl rfl rfl | exact c_row rfl rfl (by rw [List.map_append]; first | done | rfl) | exact c_ptr rfl rfl rfl rfl | exact Or.inl ⟨c_sub rfl (Sub.refl _) rfl, c_ptr rfl rfl rfl rfl⟩ | exact c_alt rfl rfl rfl rfl | exact c_ro rfl rfl | exact c_eo rfl rfl | exact c_sub rfl (Sub.altl _ _) rfl | exact c_sub rfl (Sub.nil _) rfl | refine ⟨_, _, rfl, ?_, ?_⟩ | apply And.intro)) ?_
  rintro ⟨i, hi⟩
  dsimp only
  have hjl := join_le parent (sib.take i)
  have htl : (sib.take i).length ≤ i := List.length_take_le _ _
  have hml : ((joinL parent (sib.take i)).map cD).length = (joinL parent (sib.take i)).length := List.length_map _
  repeat (first
    | refine awp_seq ?_
    | refine a_region ?_
    | refine r_done ?_
    | (refine r_id ?_; first
      | refine r_ev tab_ok rfl rfl rfl rfl (by first | exact trivial | exact ⟨by omega, by omega⟩ | omega | exact ⟨by omega, by omega, by omega, by omega⟩ | exact Nat.le_of_ble_eq_true rfl) rfl ?_))
  refine awp_cond_p rfl (fun hlt => ?_) (fun hge => ?_)
  · have hlt' : i < sib.length := by omega
    repeat (first
      | refine awp_seq ?_
      | refine awp_block ?_
      | refine a_region ?_
      | refine awp_skip ?_
      | refine r_done ?_
      | (refine r_id ?_; first
        | refine r_ev tab_ok rfl rfl rfl rfl (by first | exact trivial | exact ⟨by omega, by omega⟩ | omega | exact ⟨by omega, by omega, by omega, by omega⟩ | exact Nat.le_of_ble_eq_true rfl) rfl ?_
        | refine r_ld tab_ok rfl rfl rfl rfl rfl ?_
        | refine r_idx tab_ok rfl rfl rfl rfl rfl rfl rfl (by first | exact ⟨by omega, by omega⟩ | (simp; omega)) rfl rfl ?_
        | refine r_wr tab_ok rfl rfl rfl rfl rfl ?_
        | refine r_st tab_ok rfl rfl rfl rfl ?_))
    refine r_mro [0] (mcalls_lend (find_ok (joinL parent (sib.take i)) sib[i] (by omega)) (M0 := [.row 0 38 4 ((joinL parent (sib.take i)).map cD)]) (xs := [.row 0 0, cAV sib[i]]) ⟨.inr ⟨0, 0, _, _, _, rfl, rfl, rfl⟩, .inl ⟨rfl, rfl⟩, trivial⟩ rfl) call25 rfl rfl ⟨rfl, trivial⟩ (by decide) ⟨Sub.refl _, Sub.refl _, trivial⟩ rfl rfl rfl rfl rfl rfl ?_
    repeat (first
      | refine thenA_normal ?_
      | refine r_done ?_
      | (refine r_id ?_; first
        | refine r_ev tab_ok rfl rfl rfl rfl (by first | exact trivial | exact ⟨by omega, by omega⟩ | omega | exact ⟨by omega, by omega, by omega, by omega⟩ | exact Nat.le_of_ble_eq_true rfl) rfl ?_))
    have e0 : joinL parent (sib.take (i + 1)) = if findR (sameC sib[i]) (joinL parent (sib.take i)) < 0 then joinL parent (sib.take i) ++ [sib[i]] else joinL parent (sib.take i) := by rw [take_at hlt', join_snoc]
    refine awp_cond_p rfl (fun hf => ?_) (fun hf => ?_)
    · have e : (joinL parent (sib.take (i + 1))).map cD = (joinL parent (sib.take i)).map cD ++ [cD sib[i]] := by rw [e0, if_pos hf, List.map_append]; rfl
      repeat (first
        | refine thenA_normal ?_
        | refine a_region ?_
        | refine r_done ?_
        | (refine r_id ?_; first
          | refine r_ev tab_ok rfl rfl rfl rfl (by first | exact trivial | exact ⟨by omega, by omega⟩ | omega | exact ⟨by omega, by omega, by omega, by omega⟩ | exact Nat.le_of_ble_eq_true rfl) rfl ?_
          | refine r_ld tab_ok rfl rfl rfl rfl rfl ?_
          | refine r_built tab_ok rfl rfl rfl rfl rfl rfl rfl rfl rfl ?_
          | refine r_append tab_ok rfl rfl rfl rfl rfl rfl rfl rfl rfl (by first | omega | (simp; omega)) rfl ?_))
      exact ⟨⟨i + 1, hlt'⟩, by dsimp only; omega, fits_trans (s' := ⟨[.row 2 38 4 ((joinL parent (sib.take i)).map cD ++ [cD sib[i]])], [(2, .sl 4 (last.map cD)), (9, .row 0 2), (17, .sl 4 (sib.map cD)), (18, .val (.int .i64 sib.length)), (19, .val (.int .i64 ((i + 1 : Nat) : Int)))]⟩)
        (fits_drop 1 rfl rfl ⟨⟨rfl, Sub.refl _⟩, ⟨rfl, Sub.refl _⟩, ⟨rfl, Sub.refl _⟩, ⟨rfl, Sub.refl _⟩, ⟨rfl, Sub.refl _⟩, trivial⟩) (fits_conv (by repeat' first | exact trivial | exact rfl | (rw [e]; first | done | rfl) | exact c_sub rfl (Sub.refl _) rfl | exact c_nil rfl rfl | exact c_thaw rfl rfl rfl | exact c_row rfl rfl rfl | exact c_row rfl rfl (by rw [e]; first | done | rfl) | exact c_ptr rfl rfl rfl rfl | exact Or.inl ⟨c_sub rfl (Sub.refl _) rfl, c_ptr rfl rfl rfl rfl⟩ | exact c_alt rfl rfl rfl rfl | exact c_sub rfl (Sub.altl _ _) rfl | exact c_sub rfl (Sub.nil _) rfl | refine ⟨_, _, rfl, ?_, ?_⟩ | apply And.intro) (by repeat' first | exact trivial | exact rfl | (rw [e]; first | done | rfl) | exact c_sub rfl (Sub.refl _) rfl | exact c_nil rfl rfl | exact c_thaw rfl rfl rfl | exact c_row rfl rfl rfl | exact c_row rfl rfl (by rw [e]; first | done | rfl) | exact c_ptr rfl rfl rfl rfl | exact Or.inl ⟨c_sub rfl (Sub.refl _) rfl, c_ptr rfl rfl rfl rfl⟩ | exact c_alt rfl rfl rfl rfl | exact c_sub rfl (Sub.altl _ _) rfl | exact c_sub rfl (Sub.nil _) rfl | refine ⟨_, _, rfl, ?_, ?_⟩ | apply And.intro))⟩
    · have e : joinL parent (sib.take (i + 1)) = joinL parent (sib.take i) := by rw [e0, if_neg hf]
      repeat (first
        | refine thenA_normal ?_
        | refine a_region ?_
        | refine awp_skip ?_
        | refine r_done ?_
        | (refine r_id ?_; first
          | refine r_ev tab_ok rfl rfl rfl rfl (by first | exact trivial | exact ⟨by omega, by omega⟩ | omega | exact ⟨by omega, by omega, by omega, by omega⟩ | exact Nat.le_of_ble_eq_true rfl) rfl ?_))
      refine ⟨⟨i + 1, hlt'⟩, by dsimp only; omega, ?_⟩
      dsimp only
      rw [e]
      exact fits_drop 1 rfl rfl ⟨⟨rfl, Sub.refl _⟩, ⟨rfl, Sub.refl _⟩, ⟨rfl, Sub.refl _⟩, ⟨rfl, Sub.refl _⟩, ⟨rfl, Sub.refl _⟩, trivial⟩
  · have ea : sib.take i = sib := List.take_of_length_le (by omega)
    rw [ea]
    rw [ea] at hjl hml
    obtain ⟨o, ho⟩ : ∃ o, o = joinL parent sib := ⟨_, rfl⟩
    have hb : beginL parent sib last = midL (lastC last) o o.length := by rw [beginL, ← ho, midL, List.take_length, List.drop_length, List.append_nil]
    rw [hb, ← ho]
    rw [← ho] at hjl hml
    repeat (first
      | refine awp_seq ?_
      | refine thenA_normal ?_
      | refine awp_block ?_
      | refine a_region ?_
      | refine awp_exit ?_
      | refine r_done ?_
      | (refine r_id ?_; first
        | refine r_ev tab_ok rfl rfl rfl rfl (by first | exact trivial | exact ⟨by omega, by omega⟩ | omega | exact ⟨by omega, by omega, by omega, by omega⟩ | exact Nat.le_of_ble_eq_true rfl) rfl ?_
        | refine r_ld tab_ok rfl rfl rfl rfl rfl ?_))
    refine a_loop (σ := {i : Nat // i ≤ o.length}) (fun x => [.row 0 38 4 ((midL (lastC last) o x.1).map cD)]) (fun x => [(2, .sl 4 (last.map cD)), (9, .row 0 0), (32, .row 0 0), (33, .val (.int .i64 o.length)), (34, .val (.int .i64 x.1))]) (fun x => o.length - x.1) ⟨0, Nat.zero_le _⟩ (fits_conv (by repeat' first | exact trivial | exact rfl | (rw [List.map_append]; first | done | rfl) | exact c_sub rfl (Sub.refl _) rfl | exact c_nil rfl rfl | exact c_thaw rfl rfl rfl | exact c_row rfl rfl rfl | exact c_row rfl rfl (by rw [List.map_append]; first | done | rfl) | exact c_ptr rfl rfl rfl rfl | exact Or.inl ⟨c_sub rfl (Sub.refl _) rfl, c_ptr rfl rfl rfl rfl⟩ | exact c_alt rfl rfl rfl rfl | exact c_ro rfl rfl | exact c_eo rfl rfl | exact c_sub rfl (Sub.altl _ _) rfl | exact c_sub rfl (Sub.nil _) rfl | refine ⟨_, _, rfl, ?_, ?_⟩ | apply And.intro) ⟨c_sub rfl (Sub.refl _) rfl, c_row rfl rfl rfl, c_row rfl rfl rfl, c_sub rfl (Sub.of_eq (by rw [← hml]; rfl)) rfl, c_sub rfl (Sub.refl _) rfl, trivial⟩) ?_
    rintro ⟨j, hj⟩
    dsimp only
    have hmid := mid_len (lastC last) o j
    have hmm : ((midL (lastC last) o j).map cD).length = o.length := by rw [List.length_map, hmid]
    repeat (first
      | refine awp_seq ?_
      | refine a_region ?_
      | refine r_done ?_
      | (refine r_id ?_; first
        | refine r_ev tab_ok rfl rfl rfl rfl (by first | exact trivial | exact ⟨by omega, by omega⟩ | omega | exact ⟨by omega, by omega, by omega, by omega⟩ | exact Nat.le_of_ble_eq_true rfl) rfl ?_))
    refine awp_cond_p rfl (fun hlt => ?_) (fun hge => ?_)
    · have hjo : j < o.length := by omega
      have hjm : ((j : Nat) : Int).toNat < (midL (lastC last) o j).length := by rw [hmid]; exact hjo
      have hat : (midL (lastC last) o j)[((j : Nat) : Int).toNat]'hjm = o[j] := mid_at _ _ _ hjo
      repeat (first
        | refine awp_seq ?_
        | refine awp_block ?_
        | refine a_region ?_
        | refine awp_skip ?_
        | refine r_done ?_
        | (refine r_id ?_; first
          | refine r_ev tab_ok rfl rfl rfl rfl (by first | exact trivial | exact ⟨by omega, by omega⟩ | omega | exact ⟨by omega, by omega, by omega, by omega⟩ | exact Nat.le_of_ble_eq_true rfl) rfl ?_
          | refine r_ld tab_ok rfl rfl rfl rfl rfl ?_
          | refine r_wr tab_ok rfl rfl rfl rfl rfl ?_
          | refine r_st tab_ok rfl rfl rfl rfl ?_
          | refine r_idxr tab_ok rfl rfl rfl rfl rfl rfl rfl rfl (by first | exact ⟨by omega, by omega⟩ | (simp; omega)) rfl ?_
          | refine r_lde tab_ok rfl rfl rfl rfl rfl (by omega) rfl rfl rfl rfl ?_))
      refine r_call (final_ok last ((midL (lastC last) o j)[((j : Nat) : Int).toNat]'hjm)) call26 rfl rfl ⟨Sub.refl _, Sub.refl _, trivial⟩ rfl rfl rfl rfl ?_
      repeat (first
        | refine awp_seq ?_
        | refine thenA_normal ?_
        | refine a_region ?_
        | refine r_done ?_
        | (refine r_id ?_; first
          | refine r_ev tab_ok rfl rfl rfl rfl (by first | exact trivial | exact ⟨by omega, by omega⟩ | omega | exact ⟨by omega, by omega, by omega, by omega⟩ | exact Nat.le_of_ble_eq_true rfl) rfl ?_))
      have hfl := final_lt last ((midL (lastC last) o j)[((j : Nat) : Int).toNat]'hjm)
      refine awp_cond_p rfl (fun hf => ?_) (fun hf => ?_)
      · have hlf : (finalF last ((midL (lastC last) o j)[((j : Nat) : Int).toNat]'hjm)).toNat < last.length := by omega
        have hx : ({ (midL (lastC last) o j)[((j : Nat) : Int).toNat]'hjm with n := (last[(finalF last ((midL (lastC last) o j)[((j : Nat) : Int).toNat]'hjm)).toNat]'hlf).n } : Ctr) = lastC last ((midL (lastC last) o j)[((j : Nat) : Int).toNat]'hjm) := by
          rw [lastC, if_pos hf, getD_at hlf]
        have hset : (midL (lastC last) o j).set ((j : Nat) : Int).toNat { (midL (lastC last) o j)[((j : Nat) : Int).toNat]'hjm with n := (last[(finalF last ((midL (lastC last) o j)[((j : Nat) : Int).toNat]'hjm)).toNat]'hlf).n } = midL (lastC last) o (j + 1) := by
          rw [hx, hat]; exact mid_step _ _ _ hjo
        repeat (first
          | refine a_region ?_
          | (refine r_id ?_; first
            | refine r_ev tab_ok rfl rfl rfl rfl (by first | exact trivial | exact ⟨by omega, by omega⟩ | omega | exact ⟨by omega, by omega, by omega, by omega⟩ | exact Nat.le_of_ble_eq_true rfl) rfl ?_
            | refine r_idx tab_ok rfl rfl rfl rfl rfl rfl rfl (by first | exact ⟨by omega, by omega⟩ | (simp; omega)) rfl rfl ?_
            | refine r_idxr tab_ok rfl rfl rfl rfl rfl rfl rfl rfl (by first | exact ⟨by omega, by omega⟩ | (simp; omega)) rfl ?_
            | refine r_fielde tab_ok rfl rfl rfl rfl rfl rfl rfl rfl ?_))
        refine r_ste tab_ok ({ (midL (lastC last) o j)[((j : Nat) : Int).toNat]'hjm with n := (last[(finalF last ((midL (lastC last) o j)[((j : Nat) : Int).toNat]'hjm)).toNat]'hlf).n } : Ctr) rfl rfl rfl rfl rfl hjm rfl rfl rfl rfl rfl rfl ?_
        repeat (first
          | refine thenA_normal ?_
          | refine a_region ?_
          | refine r_done ?_
          | (refine r_id ?_; first
            | refine r_ev tab_ok rfl rfl rfl rfl (by first | exact trivial | exact ⟨by omega, by omega⟩ | omega | exact ⟨by omega, by omega, by omega, by omega⟩ | exact Nat.le_of_ble_eq_true rfl) rfl ?_))
        refine ⟨⟨j + 1, hjo⟩, by dsimp only; omega, ?_⟩
        dsimp only
        rw [← hset]
        exact fits_drop 1 rfl rfl ⟨⟨rfl, Sub.refl _⟩, ⟨rfl, Sub.refl _⟩, ⟨rfl, Sub.refl _⟩, ⟨rfl, Sub.refl _⟩, ⟨rfl, Sub.refl _⟩, trivial⟩
      · have hsame : midL (lastC last) o (j + 1) = midL (lastC last) o j := by
          refine mid_same _ _ _ hjo ?_
          rw [← hat, lastC, if_neg hf]
        repeat (first
          | refine thenA_normal ?_
          | refine a_region ?_
          | refine awp_skip ?_
          | refine r_done ?_
          | (refine r_id ?_; first
            | refine r_ev tab_ok rfl rfl rfl rfl (by first | exact trivial | exact ⟨by omega, by omega⟩ | omega | exact ⟨by omega, by omega, by omega, by omega⟩ | exact Nat.le_of_ble_eq_true rfl) rfl ?_))
        refine ⟨⟨j + 1, hjo⟩, by dsimp only; omega, ?_⟩
        dsimp only
        rw [hsame]
        exact fits_drop 1 rfl rfl ⟨⟨rfl, Sub.refl _⟩, ⟨rfl, Sub.refl _⟩, ⟨rfl, Sub.refl _⟩, ⟨rfl, Sub.refl _⟩, ⟨rfl, Sub.refl _⟩, trivial⟩
    · have ej : j = o.length := by omega
      repeat (first
        | refine awp_seq ?_
        | refine thenA_normal ?_
        | refine a_region ?_
        | refine awp_ret ?_
        | refine awp_exit ?_
        | refine r_done ?_
        | (refine r_id ?_; first
          | refine r_ev tab_ok rfl rfl rfl rfl (by first | exact trivial | exact ⟨by omega, by omega⟩ | omega | exact ⟨by omega, by omega, by omega, by omega⟩ | exact Nat.le_of_ble_eq_true rfl) rfl ?_)
        | refine ret1_row (by first | exact .inl rfl | exact .inr rfl) rfl rfl rfl ?_)
      rw [ej]
      exact Sub.refl _
end Go.Proofs.Ytajbbcnfohbieaa
