import Derived.Test.YtklodolkgdmhoaaWh
/- Which tables may be: chains of nodes with one parent turned. -/
namespace Go.Proofs.Ytklodolkgdmhoaa
open Go Go.RowKit

/-- May the nodes that are left be put behind those whose depths are ds? -/
def chk (l : List Rw) : List Nat → List Rw → Bool
  | _, [] => true
  | ds, r :: rest =>
    if ds.length = 0 then chk l [1] rest
    else okP l ds.length r && decide (ds.getD r.parent.toNat 0 + 1 ≤ 64) && chk l (ds ++ [ds.getD r.parent.toNat 0 + 1]) rest
theorem chk_first {l : List Rw} {r : Rw} {rest : List Rw} : chk l [] (r :: rest) = chk l [1] rest := by rw [chk]; rfl
theorem addKid_depths (gs : List Nt) (p i : Nat) : (addKid gs p i).map (·.depth) = gs.map (·.depth) := by
  apply List.ext_getElem
  · simp [addKid]
  · intro j h1 h2
    simp only [addKid, List.getElem_map, List.getElem_set]
    split
    · rename_i e
      subst e
      have : p < gs.length := by simpa using h2
      rw [List.getD_eq_getElem?_getD, List.getElem?_eq_getElem this]
      rfl
    · rfl
theorem getD_depth (gs : List Nt) (p : Nat) : (gs.getD p default).depth = (gs.map (·.depth)).getD p 0 := by
  rw [List.getD_eq_getElem?_getD, List.getD_eq_getElem?_getD, List.getElem?_map]
  cases gs[p]? <;> rfl
theorem newG_chk (l : List Rw) : ∀ (rest : List Rw) (gs : List Nt), (newG l rest gs).isSome = chk l (gs.map (·.depth)) rest
  | [], _ => rfl
  | r :: rest, gs => by
    rw [newG, chk, List.length_map]
    split
    · rw [newG_chk l rest]; rfl
    · rw [← getD_depth]
      split
      · rename_i h
        rw [h, Bool.true_and]
        split
        · rename_i h2
          rw [newG_chk l rest, decide_eq_true h2, Bool.true_and, List.map_append, addKid_depths]
          rfl
        · rename_i h2
          rw [decide_eq_false h2]; rfl
      · rename_i h
        have h : okP l gs.length r = false := by simpa using h
        rw [h]; rfl
theorem newF_chk (l : List Rw) : (newF l).isSome = (okL l && chk l [] l) := by
  rw [newF]
  split
  · rename_i h
    rw [h, Bool.true_and, newG_chk]; rfl
  · rename_i h
    have h : okL l = false := by simpa using h
    rw [h]; rfl
theorem chk_no {l : List Rw} {k : Nat} (hk : k < l.length) (hk0 : 0 < k) (hno : okP l k (rwAt l k) = false) : ∀ (rest : List Rw) (ds : List Nat), l.drop ds.length = rest → ds.length ≤ k → chk l ds rest = false
  | [], ds, h, hle => by
    have := congrArg List.length h
    rw [List.length_drop, List.length_nil] at this
    omega
  | r :: rest, ds, h, hle => by
    obtain ⟨h1, h2, h3⟩ := rwAt_drop h
    rw [chk]
    split
    · rename_i h0
      rw [h0] at h3
      exact chk_no hk hk0 hno rest [1] h3 (Nat.succ_le_of_lt hk0)
    · rcases Nat.lt_or_eq_of_le hle with hlt | heq
      · rw [chk_no hk hk0 hno rest _ (by rw [List.length_append]; exact h3) (by rw [List.length_append]; exact hlt), Bool.and_false]
      · rw [heq] at h1 ⊢
        rw [← h1, hno]; rfl
/-- Where each node stands as deep as D says: all are let in just if none is too deep. -/
theorem chk_dep {l : List Rw} {D : Nat → Nat} (h0 : D 0 = 1) (hok : ∀ i, 0 < i → i < l.length → okP l i (rwAt l i) = true) (hD : ∀ i, 0 < i → i < l.length → D i = D (rwAt l i).parent.toNat + 1) :
    ∀ (rest : List Rw) (m : Nat), 0 < m → l.drop m = rest → chk l ((List.range m).map D) rest = decide (∀ i, i < rest.length → D (m + i) ≤ 64)
  | [], m, _, _ => by rw [chk, decide_eq_true]; intro i hi; cases hi
  | r :: rest, m, hm, h => by
    obtain ⟨h1, h2, h3⟩ := rwAt_drop h
    have hokm := hok m hm h2
    obtain ⟨p0, p1, _⟩ := okP_iff.1 hokm
    rw [h1] at p0 p1 hokm
    have hDm := hD m hm h2
    rw [h1] at hDm
    rw [chk, List.length_map, List.length_range, if_neg (by omega), hokm, Bool.true_and]
    have hg : ((List.range m).map D).getD r.parent.toNat 0 = D r.parent.toNat := by
      rw [List.getD_eq_getElem?_getD, List.getElem?_map, List.getElem?_range (by omega)]; rfl
    rw [hg, ← hDm]
    have hs : (List.range m).map D ++ [D m] = (List.range (m + 1)).map D := by rw [List.range_succ, List.map_append]; rfl
    rw [hs, chk_dep h0 hok hD rest (m + 1) (by omega) h3, Bool.eq_iff_iff, Bool.and_eq_true, decide_eq_true_eq, decide_eq_true_eq, decide_eq_true_eq]
    constructor
    · rintro ⟨a, b⟩ i hi
      rcases Nat.eq_zero_or_pos i with h | h
      · subst h; exact a
      · have := b (i - 1) (by rw [List.length_cons] at hi; omega)
        rwa [show m + 1 + (i - 1) = m + i by omega] at this
    · intro a
      refine ⟨a 0 (Nat.succ_pos _), fun i hi => ?_⟩
      have := a (i + 1) (by rw [List.length_cons]; omega)
      rwa [show m + (i + 1) = m + 1 + i by omega] at this
def aS : ByteArray := ⟨#[97]⟩
def chainR (i : Nat) : Rw := ⟨(i : Int) - 1, aS, emS, []⟩
def chainL (n : Nat) : List Rw := (List.range n).map chainR
def formL (n k : Nat) (p : Int) (text : Bool) : List Rw :=
  let l := (chainL n).set k ⟨p, aS, emS, []⟩
  if text then l.set (n - 1) ⟨(rwAt l (n - 1)).parent, emS, emS, []⟩ else l
def goodF (n k : Nat) (p : Int) (text : Bool) : Bool :=
  let g := if k = 0 then decide (n ≤ 64) && decide (p = -1) else decide (0 ≤ p) && decide (p < k) && decide ((n : Int) - k + p + 1 ≤ 64) && decide (k ≤ 64)
  if text then g && decide (1 < n) else g
theorem formL_len (n k : Nat) (p : Int) (text : Bool) : (formL n k p text).length = n := by
  unfold formL
  cases text <;> simp [chainL]
theorem formL_at {n k : Nat} {p : Int} {text : Bool} {i : Nat} (hi : i < n) : rwAt (formL n k p text) i = ⟨if i = k then p else (i : Int) - 1, if text = true ∧ i = n - 1 then emS else aS, emS, []⟩ := by
  have hc : ∀ j, j < n → rwAt ((chainL n).set k ⟨p, aS, emS, []⟩) j = ⟨if j = k then p else (j : Int) - 1, aS, emS, []⟩ := fun j hj => by
    rw [rwAt, List.getD_eq_getElem?_getD]
    by_cases e : j = k
    · subst e
      rw [List.getElem?_set_self (by simpa [chainL] using hj), if_pos rfl]; rfl
    · rw [List.getElem?_set_ne (Ne.symm e), if_neg e, chainL, List.getElem?_map, List.getElem?_range hj]; rfl
  unfold formL
  cases text with
  | false =>
    simp only [Bool.false_eq_true, if_false, false_and]
    exact hc i hi
  | true =>
    simp only [if_true, true_and]
    rw [rwAt, List.getD_eq_getElem?_getD]
    by_cases e : i = n - 1
    · subst e
      rw [List.getElem?_set_self (by simp [chainL]; omega), if_pos rfl, Option.getD_some, hc _ hi]
    · rw [List.getElem?_set_ne (Ne.symm e), if_neg e]
      exact (congrArg (Option.getD · default) rfl).trans (by have := hc i hi; rw [rwAt, List.getD_eq_getElem?_getD] at this; exact this)
theorem form_good {n k : Nat} {p : Int} {text : Bool} (hn : 1 ≤ n) (hn2 : n ≤ 70) (hk : k < n) : (newF (formL n k p text)).isSome = goodF n k p text := by
  have hl := formL_len n k p text
  have haS : aS ≠ emS := by decide
  have h0 := formL_at (k := k) (p := p) (text := text) (show 0 < n by omega)
  rw [newF_chk]
  have hokL : okL (formL n k p text) = (decide ((if 0 = k then p else -1) = -1) && !(text && decide (n = 1))) := by
    have e : (formL n k p text).getD 0 default = rwAt (formL n k p text) 0 := rfl
    rw [okL, e, h0, hl, decide_eq_true hn, decide_eq_true (show n ≤ 1000 by omega), Bool.true_and, Bool.true_and]
    congr 2
    dsimp only
    cases text with
    | false => simp [haS]
    | true =>
      by_cases h1 : n = 1
      · subst h1; simp
      · simp [show ¬ 0 = n - 1 by omega, h1, haS]
  by_cases hbad : 0 < k ∧ ¬ (0 ≤ p ∧ p < k)
  · obtain ⟨hk0, hp⟩ := hbad
    have hno : okP (formL n k p text) k (rwAt (formL n k p text) k) = false := by
      cases h : okP (formL n k p text) k (rwAt (formL n k p text) k) with
      | false => rfl
      | true =>
        obtain ⟨a, b, _⟩ := okP_iff.1 h
        rw [formL_at hk, if_pos rfl] at a b
        exact absurd ⟨a, b⟩ hp
    have hch : chk (formL n k p text) [] (formL n k p text) = false := chk_no (by rw [hl]; exact hk) hk0 hno (formL n k p text) [] rfl (Nat.zero_le _)
    rw [hch, Bool.and_false]
    have : (decide (0 ≤ p) && decide (p < k)) = false := by
      rw [Bool.and_eq_false_iff, decide_eq_false_iff_not, decide_eq_false_iff_not]; omega
    unfold goodF
    simp only [show ¬ k = 0 by omega, if_false, this, Bool.false_and]
    cases text <;> rfl
  · obtain ⟨D, hD⟩ : ∃ D : Nat → Nat, D = fun i => if k = 0 ∨ i < k then i + 1 else i - k + p.toNat + 2 := ⟨_, rfl⟩
    by_cases hroot : (if 0 = k then p else -1) = -1
    · have hok : ∀ i, 0 < i → i < (formL n k p text).length → okP (formL n k p text) i (rwAt (formL n k p text) i) = true := fun i h1 h2 => by
        rw [hl] at h2
        rw [okP_iff, formL_at h2]
        dsimp only
        have hpar : 0 ≤ (if i = k then p else (i : Int) - 1) ∧ (if i = k then p else (i : Int) - 1) < i := by split <;> omega
        refine ⟨hpar.1, hpar.2, ?_⟩
        rw [formL_at (by omega)]
        dsimp only
        rw [if_neg (by rintro ⟨_, h⟩; omega)]
        exact haS
      have hDe : ∀ i, 0 < i → i < (formL n k p text).length → D i = D (rwAt (formL n k p text) i).parent.toNat + 1 := fun i h1 h2 => by
        rw [hl] at h2
        rw [formL_at h2, hD]
        dsimp only
        by_cases e : i = k
        · rw [if_pos e, if_neg (by omega), if_pos (by omega)]; omega
        · rw [if_neg e, show ((i : Int) - 1).toNat = i - 1 by omega]
          split
          · rw [if_pos (by omega)]; omega
          · rw [if_neg (by omega)]; omega
      have hD0 : D 0 = 1 := by rw [hD]; dsimp only; rw [if_pos (by omega)]
      obtain ⟨r0, rest, hcons⟩ : ∃ r0 rest, formL n k p text = r0 :: rest := by
        cases h : formL n k p text with
        | nil => rw [h] at hl; simp at hl; omega
        | cons a b => exact ⟨a, b, rfl⟩
      have hrl : rest.length + 1 = n := by rw [← hl, hcons]; rfl
      have hc1 : chk (formL n k p text) [] (formL n k p text) = decide (∀ i, i < rest.length → D (1 + i) ≤ 64) := by
        have := chk_dep hD0 hok hDe rest 1 Nat.one_pos (by rw [hcons]; rfl)
        rw [← this, show (List.range 1).map D = [1] by simp [List.range_succ, hD0], congrArg (chk (formL n k p text) []) hcons]
        exact chk_first
      rw [hokL, hc1, decide_eq_true hroot, Bool.true_and]
      unfold goodF
      have hdec : decide (∀ i, i < rest.length → D (1 + i) ≤ 64) = (if k = 0 then decide (n ≤ 64) && decide (p = -1) else decide (0 ≤ p) && decide (p < k) && decide ((n : Int) - k + p + 1 ≤ 64) && decide (k ≤ 64)) := by
        rw [Bool.eq_iff_iff, decide_eq_true_eq]
        by_cases hk0 : k = 0
        · rw [if_pos hk0, Bool.and_eq_true, decide_eq_true_eq, decide_eq_true_eq]
          rw [if_pos hk0.symm] at hroot
          constructor
          · intro a
            refine ⟨?_, hroot⟩
            rcases Nat.lt_or_ge 1 n with h | h
            · have := a (n - 2) (by omega)
              rw [hD] at this
              dsimp only at this
              rw [if_pos (.inl hk0)] at this
              omega
            · omega
          · rintro ⟨a, _⟩ i hi
            rw [hD]
            dsimp only
            rw [if_pos (.inl hk0)]
            omega
        · rw [if_neg hk0]
          simp only [Bool.and_eq_true, decide_eq_true_eq]
          constructor
          · intro a
            refine ⟨⟨⟨by omega, by omega⟩, ?_⟩, ?_⟩
            · have := a (n - 2) (by omega)
              rw [hD] at this
              dsimp only at this
              rw [if_neg (by omega)] at this
              omega
            · rcases Nat.lt_or_ge 1 k with h | h
              · have := a (k - 2) (by omega)
                rw [hD] at this
                dsimp only at this
                rw [if_pos (by omega)] at this
                omega
              · omega
          · rintro ⟨⟨_, b⟩, c⟩ i hi
            rw [hD]
            dsimp only
            split <;> omega
      rw [hdec]
      generalize (if k = 0 then decide (n ≤ 64) && decide (p = -1) else decide (0 ≤ p) && decide (p < k) && decide ((n : Int) - k + p + 1 ≤ 64) && decide (k ≤ 64)) = g
      cases text with
      | false => simp
      | true =>
        simp only [Bool.true_and, if_true]
        rw [Bool.and_comm]
        congr 1
        rw [← decide_not]
        exact decide_eq_decide.2 (by omega)
    · rw [hokL, decide_eq_false hroot, Bool.false_and, Bool.false_and]
      have hk0 : k = 0 := by
        by_cases h : 0 = k
        · exact h.symm
        · rw [if_neg h] at hroot; exact absurd rfl hroot
      rw [if_pos hk0.symm] at hroot
      unfold goodF
      simp only [hk0, if_true, decide_eq_false hroot, Bool.and_false]
      cases text <;> rfl
end Go.Proofs.Ytklodolkgdmhoaa

/- The law DomForms. -/
namespace Go.Proofs.Ytklodolkgdmhoaa
open Go Go.RowKit

theorem chainL_succ (i : Nat) : chainL (i + 1) = chainL i ++ [chainR i] := by rw [chainL, List.range_succ, List.map_append]; rfl
theorem chainL_len (i : Nat) : (chainL i).length = i := by simp [chainL]
theorem chainL_get {n i : Nat} (h : i < (chainL n).length) : (chainL n)[i] = chainR i := by simp [chainL]
theorem formL_attrs {n k : Nat} {p : Int} {text : Bool} : ∀ r ∈ formL n k p text, r.attrs = [] ∧ r.tag.size ≤ 1 := fun r hr => by
  obtain ⟨i, hi, rfl⟩ := List.mem_iff_getElem.1 hr
  have h2 : (formL n k p text)[i] = rwAt (formL n k p text) i := by rw [rwAt, List.getD_eq_getElem?_getD, List.getElem?_eq_getElem hi]; rfl
  rw [h2, formL_at (by rw [formL_len] at hi; exact hi)]
  refine ⟨rfl, ?_⟩
  dsimp only
  split <;> decide
def goodK (n k : Nat) (p : Int) : Bool := if k = 0 then decide (n ≤ 64) && decide (p = -1) else decide (0 ≤ p) && decide (p < k) && decide ((n : Int) - k + p + 1 ≤ 64) && decide (k ≤ 64)
theorem goodF_eq (n k : Nat) (p : Int) (text : Bool) : goodF n k p text = if text then goodK n k p && decide (1 < n) else goodK n k p := rfl
set_option maxHeartbeats 8000000 in
theorem lawForms (n at_ p : Int) (text : Bool) (hn : -9223372036854775808 ≤ n ∧ n ≤ 9223372036854775807) (hat : -9223372036854775808 ≤ at_ ∧ at_ ≤ 9223372036854775807) (hp : -9223372036854775808 ≤ p ∧ p ≤ 9223372036854775807) :
    PCalls Try.prog 4 [.val (.int .i64 n), .val (.int .i64 at_), .val (.int .i64 p), .val (.bool text)] (.val (.bool true)) := by
  refine p_start Try.func4 Try.ntmps4 rfl rfl rfl fun S w => ?_
  repeat (first
    | refine awp_seq ?_
    | refine thenA_normal ?_
    | refine a_region ?_
    | refine r_done ?_
    | (refine r_id ?_; first
      | refine r_ev tab_ok rfl rfl rfl rfl (by first | exact trivial | exact ⟨by omega, by omega⟩ | omega | exact ⟨by omega, by omega, by omega, by omega⟩ | exact Nat.le_of_ble_eq_true rfl) rfl ?_
      | refine r_ev_cnd tab_ok rfl rfl rfl rfl rfl rfl (by first | exact fun _ => rfl | exact cs1 | exact cs2 | exact cs3) (by first | exact fun _ => trivial | (intro h; simp at h; first | exact ⟨by omega, by omega⟩ | omega)) rfl ?_
      | refine r_or rfl rfl rfl rfl rfl rfl rfl rfl ?_))
  refine awp_cond rfl (fun hc => ?_) (fun hc => ?_)
  · repeat (first
      | refine awp_seq ?_
      | refine a_region ?_)
    refine r_call awake_ok call8 rfl rfl trivial rfl rfl rfl rfl ?_
    repeat (first
      | refine thenA_normal ?_
      | refine awp_ret ?_
      | refine thenA_ret ?_
      | refine r_done ?_
      | (refine r_id ?_; first
        | refine r_ev tab_ok rfl rfl rfl rfl (by first | exact trivial | exact ⟨by omega, by omega⟩ | omega | exact ⟨by omega, by omega, by omega, by omega⟩ | exact Nat.le_of_ble_eq_true rfl) rfl ?_)
      | refine ret1 (by first | exact .inl rfl | exact .inr rfl) rfl rfl rfl ?_)
    exact Sub.refl _
  · simp only [Bool.or_eq_false_iff, decide_eq_false_iff_not] at hc
    obtain ⟨m, hm⟩ : ∃ m : Nat, n = m := ⟨n.toNat, by omega⟩
    subst hm
    have hm1 : 1 ≤ m := by omega
    have hm70 : m ≤ 70 := by omega
    repeat (first
      | refine awp_seq ?_
      | refine thenA_normal ?_
      | refine awp_block ?_
      | refine a_region ?_
      | refine awp_skip ?_
      | refine r_done ?_
      | (refine r_id ?_; first
        | refine r_ev tab_ok rfl rfl rfl rfl (by first | exact trivial | exact ⟨by omega, by omega⟩ | omega | exact ⟨by omega, by omega, by omega, by omega⟩ | exact Nat.le_of_ble_eq_true rfl) rfl ?_))
    refine a_loop (σ := {i : Nat // i ≤ m}) (fun x => [.row 0 26 4 ((chainL x.1).map rwZ)]) (fun x => [(0, .val (.int .i64 m)), (1, .val (.int .i64 at_)), (2, .val (.int .i64 p)), (3, .val (.bool text)), (9, .row 0 0), (10, .val (.int .i64 x.1))]) (fun x => m - x.1) ⟨0, Nat.zero_le _⟩ (fits_conv (by repeat' first | exact trivial | exact rfl | (rw [List.map_append]; first | done | rfl) | exact c_sub rfl (Sub.refl _) rfl | exact c_nil rfl rfl | exact c_thaw rfl rfl rfl | exact c_row rfl rfl rfl | exact c_row rfl rfl (by rw [List.map_append]; first | done | rfl) | exact c_ptr rfl rfl rfl rfl | exact Or.inl ⟨c_sub rfl (Sub.refl _) rfl, c_ptr rfl rfl rfl rfl⟩ | exact c_alt rfl rfl rfl rfl | exact c_ro rfl rfl | exact c_eo rfl rfl | exact c_sub rfl (Sub.altl _ _) rfl | exact c_sub rfl (Sub.nil _) rfl | refine ⟨_, _, rfl, ?_, ?_⟩ | apply And.intro) (by repeat' first | exact trivial | exact rfl | (rw [List.map_append]; first | done | rfl) | exact c_sub rfl (Sub.refl _) rfl | exact c_nil rfl rfl | exact c_thaw rfl rfl rfl | exact c_row rfl rfl rfl | exact c_row rfl rfl (by rw [List.map_append]; first | done | rfl) | exact c_ptr rfl rfl rfl rfl | exact Or.inl ⟨c_sub rfl (Sub.refl _) rfl, c_ptr rfl rfl rfl rfl⟩ | exact c_alt rfl rfl rfl rfl | exact c_ro rfl rfl | exact c_eo rfl rfl | exact c_sub rfl (Sub.altl _ _) rfl | exact c_sub rfl (Sub.nil _) rfl | refine ⟨_, _, rfl, ?_, ?_⟩ | apply And.intro)) ?_
    rintro ⟨i, hi⟩
    dsimp only
    have hcl : ((chainL i).map rwZ).length = i := by rw [List.length_map, chainL_len]
    have hcl2 := chainL_len i
    repeat (first
      | refine awp_seq ?_
      | refine thenA_normal ?_
      | refine a_region ?_
      | refine r_done ?_
      | (refine r_id ?_; first
        | refine r_ev tab_ok rfl rfl rfl rfl (by first | exact trivial | exact ⟨by omega, by omega⟩ | omega | exact ⟨by omega, by omega, by omega, by omega⟩ | exact Nat.le_of_ble_eq_true rfl) rfl ?_))
    refine awp_cond_p rfl (fun hlt => ?_) (fun hge => ?_)
    · have hlt : i < m := by omega
      repeat (first
        | refine awp_seq ?_
        | refine thenA_normal ?_
        | refine awp_block ?_
        | refine a_region ?_
        | refine awp_skip ?_
        | refine r_done ?_
        | (refine r_id ?_; first
          | refine r_ev tab_ok rfl rfl rfl rfl (by first | exact trivial | exact ⟨by omega, by omega⟩ | omega | exact ⟨by omega, by omega, by omega, by omega⟩ | exact Nat.le_of_ble_eq_true rfl) rfl ?_
          | refine r_build tab_ok rfl rfl rfl rfl rfl rfl ?_
          | refine r_built tab_ok rfl rfl rfl rfl rfl rfl rfl rfl rfl ?_
          | refine r_append tab_ok rfl rfl rfl rfl rfl rfl rfl rfl rfl (by first | omega | (simp; omega)) rfl ?_))
      refine ⟨⟨i + 1, by omega⟩, by dsimp only; omega, ?_⟩
      dsimp only
      rw [chainL_succ, List.map_append]
      exact fits_conv (by repeat' first | exact trivial | exact rfl | (rw [List.map_append]; first | done | rfl) | exact c_sub rfl (Sub.refl _) rfl | exact c_nil rfl rfl | exact c_thaw rfl rfl rfl | exact c_row rfl rfl rfl | exact c_row rfl rfl (by rw [List.map_append]; first | done | rfl) | exact c_ptr rfl rfl rfl rfl | exact Or.inl ⟨c_sub rfl (Sub.refl _) rfl, c_ptr rfl rfl rfl rfl⟩ | exact c_alt rfl rfl rfl rfl | exact c_ro rfl rfl | exact c_eo rfl rfl | exact c_sub rfl (Sub.altl _ _) rfl | exact c_sub rfl (Sub.nil _) rfl | refine ⟨_, _, rfl, ?_, ?_⟩ | apply And.intro) (by repeat' first | exact trivial | exact rfl | (rw [List.map_append]; first | done | rfl) | exact c_sub rfl (Sub.refl _) rfl | exact c_nil rfl rfl | exact c_thaw rfl rfl rfl | exact c_row rfl rfl rfl | exact c_row rfl rfl (by rw [List.map_append]; first | done | rfl) | exact c_ptr rfl rfl rfl rfl | exact Or.inl ⟨c_sub rfl (Sub.refl _) rfl, c_ptr rfl rfl rfl rfl⟩ | exact c_alt rfl rfl rfl rfl | exact c_ro rfl rfl | exact c_eo rfl rfl | exact c_sub rfl (Sub.altl _ _) rfl | exact c_sub rfl (Sub.nil _) rfl | refine ⟨_, _, rfl, ?_, ?_⟩ | apply And.intro)
    · have him : i = m := by omega
      subst him
      obtain ⟨k, hk⟩ : ∃ k : Nat, (at_.tmod i + i) % i = k := ⟨((at_.tmod i + i) % i).toNat, by have := Int.emod_nonneg (at_.tmod i + i) (show (i : Int) ≠ 0 by omega); omega⟩
      have hki : k < i := by have := Int.emod_lt_of_pos (at_.tmod i + i) (show (0 : Int) < i by omega); omega
      have hR := round_ok at_ i (by omega) (by omega) hat
      rw [hk] at hR
      have hkl : k < (chainL i).length := by rw [chainL_len]; exact hki
      have hset : (chainL i).set k ⟨p, (chainL i)[k].tag, (chainL i)[k].text, []⟩ = (chainL i).set k ⟨p, aS, emS, []⟩ := by rw [chainL_get hkl]; rfl
      repeat (first
        | refine awp_seq ?_
        | refine a_region ?_
        | refine awp_exit ?_
        | (refine r_id ?_; first
          | refine r_ev tab_ok rfl rfl rfl rfl (by first | exact trivial | exact ⟨by omega, by omega⟩ | omega | exact ⟨by omega, by omega, by omega, by omega⟩ | exact Nat.le_of_ble_eq_true rfl) rfl ?_))
      refine r_call hR call9 rfl rfl ⟨Sub.refl _, Sub.refl _, trivial⟩ rfl rfl rfl rfl ?_
      repeat (first
        | refine awp_seq ?_
        | refine a_region ?_
        | refine r_done ?_
        | (refine r_id ?_; first
          | refine r_ev tab_ok rfl rfl rfl rfl (by first | exact trivial | exact ⟨by omega, by omega⟩ | omega | exact ⟨by omega, by omega, by omega, by omega⟩ | exact Nat.le_of_ble_eq_true rfl) rfl ?_
          | refine r_idxr tab_ok rfl rfl rfl rfl rfl rfl rfl rfl (by first | exact ⟨by omega, by omega⟩ | (simp; omega)) rfl ?_
          | refine r_fielde tab_ok rfl rfl rfl rfl rfl rfl rfl rfl ?_))
      refine r_ste tab_ok ⟨p, (chainL i)[k].tag, (chainL i)[k].text, []⟩ rfl rfl rfl rfl rfl hkl rfl rfl rfl rfl rfl rfl ?_
      simp only [Int.toNat_natCast]
      rw [hset]
      have hcsl : ((chainL i).set k ⟨p, aS, emS, []⟩).length = i := by rw [List.length_set, chainL_len]
      have hcsm : (((chainL i).set k ⟨p, aS, emS, []⟩).map rwZ).length = i := by rw [List.length_map, hcsl]
      obtain ⟨L1, hL1⟩ : ∃ L1, L1 = (chainL i).set k ⟨p, aS, emS, []⟩ := ⟨_, rfl⟩
      rw [← hL1] at hcsl hcsm ⊢
      repeat (first
        | refine thenA_normal ?_
        | refine r_done ?_)
      refine awp_seq ?_
      repeat (first
        | refine thenA_normal ?_
        | refine a_region ?_
        | refine r_done ?_
        | (refine r_id ?_; first
          | refine r_ev tab_ok rfl rfl rfl rfl (by first | exact trivial | exact ⟨by omega, by omega⟩ | omega | exact ⟨by omega, by omega, by omega, by omega⟩ | exact Nat.le_of_ble_eq_true rfl) rfl ?_))
      refine awp_seq ?_
      refine awp_cutw ⟨[.row 0 26 4 (L1.map rwZ)], [(0, .val (.int .i64 i)), (3, .val (.bool text)), (9, .row 0 0), (12, .val (.bool (goodK i k p)))]⟩ ?_ ?_
      · clear hL1 hset hcsl hcsm hR hk hcl hcl2
        rw [goodK]
        by_cases hk0 : k = 0
        · subst hk0
          rw [if_pos rfl]
          repeat (first
            | refine awp_seq ?_
            | refine thenA_normal ?_
            | refine a_region ?_
            | refine r_done ?_
            | (refine r_id ?_; first
              | refine r_ev tab_ok rfl rfl rfl rfl (by first | exact trivial | exact ⟨by omega, by omega⟩ | omega | exact ⟨by omega, by omega, by omega, by omega⟩ | exact Nat.le_of_ble_eq_true rfl) rfl ?_
              | refine r_ev_cnd tab_ok rfl rfl rfl rfl rfl rfl (by first | exact fun _ => rfl | exact cs1 | exact cs2 | exact cs3) (by first | exact fun _ => trivial | (intro h; simp at h; first | exact ⟨by omega, by omega⟩ | omega)) rfl ?_
              | refine r_and rfl rfl rfl rfl rfl rfl rfl rfl ?_)
            | refine awp_cond_t rfl ?_)
          exact ⟨rfl, fits_of rfl ⟨Sub.refl _, Sub.refl _, Sub.refl _, Sub.of_eq (by rw [show decide (i ≤ 64) = decide ((i : Int) ≤ 64) from decide_eq_decide.2 (by omega)]; rfl), trivial⟩⟩
        · rw [if_neg hk0]
          repeat (first
            | refine awp_seq ?_
            | refine thenA_normal ?_
            | refine a_region ?_
            | refine r_done ?_
            | (refine r_id ?_; first
              | refine r_ev tab_ok rfl rfl rfl rfl (by first | exact trivial | exact ⟨by omega, by omega⟩ | omega | exact ⟨by omega, by omega, by omega, by omega⟩ | exact Nat.le_of_ble_eq_true rfl) rfl ?_))
          refine awp_cond_p rfl (fun h => absurd h (by omega)) (fun _ => ?_)
          repeat (first
            | refine a_region ?_
            | refine r_done ?_
            | (refine r_id ?_; first
              | refine r_ev tab_ok rfl rfl rfl rfl (by first | exact trivial | exact ⟨by omega, by omega⟩ | omega | exact ⟨by omega, by omega, by omega, by omega⟩ | exact Nat.le_of_ble_eq_true rfl) rfl ?_
              | refine r_ev_cnd tab_ok rfl rfl rfl rfl rfl rfl (by first | exact fun _ => rfl | exact cs1 | exact cs2 | exact cs3) (by first | exact fun _ => trivial | (intro h; simp at h; first | exact ⟨by omega, by omega⟩ | omega)) rfl ?_
              | refine r_and rfl rfl rfl rfl rfl rfl rfl rfl ?_))
          refine ⟨rfl, fits_of rfl ⟨Sub.refl _, Sub.refl _, Sub.refl _, Sub.of_eq ?_, trivial⟩⟩
          show AV.val (.bool _) = _
          congr 3
          exact decide_eq_decide.2 (by omega)
      have hfg := form_good (text := text) hm1 hm70 hki (p := p)
      rw [goodF_eq] at hfg
      have hNf := new_ok (formL i k p text) (by rw [formL_len]; omega) (fun r hr => by obtain ⟨a, b⟩ := formL_attrs r hr; exact ⟨by omega, by rw [a]; exact Nat.zero_le _, fun x hx => by rw [a] at hx; cases hx⟩)
      have hN : PCalls Try.prog 10 [.sl 4 ((formL i k p text).map rwZ)] (resN (newF (formL i k p text))) := pcalls_sub hNf ⟨Sub.sl (DSubs.map fun r hr => rwZ_sub (formL_attrs r hr).1), trivial⟩
      clear hNf
      obtain ⟨L2, hL2⟩ : ∃ L2, L2 = formL i k p text := ⟨_, rfl⟩
      rw [← hL2] at hN hfg
      obtain ⟨g, hg⟩ : ∃ g, g = goodK i k p := ⟨_, rfl⟩
      rw [← hg] at hfg ⊢
      refine awp_seq ?_
      refine awp_cutw ⟨[.gone], [(9, .sl 4 (L2.map rwZ)), (12, .val (.bool (newF L2).isSome))]⟩ ?_ ?_
      · cases text with
        | false =>
          have hL12 : L2 = L1 := by rw [hL2, hL1]; rfl
          rw [if_neg Bool.false_ne_true] at hfg
          rw [hfg, hL12]
          repeat (first
            | refine awp_seq ?_
            | refine thenA_normal ?_
            | refine a_region ?_
            | refine awp_skip ?_
            | refine r_done ?_
            | (refine r_id ?_; first
              | refine r_ev tab_ok rfl rfl rfl rfl (by first | exact trivial | exact ⟨by omega, by omega⟩ | omega | exact ⟨by omega, by omega, by omega, by omega⟩ | exact Nat.le_of_ble_eq_true rfl) rfl ?_)
            | refine awp_cond_f rfl ?_)
          exact ⟨rfl, fits_conv (by repeat' first | exact trivial | exact rfl | (rw [List.map_append]; first | done | rfl) | exact c_sub rfl (Sub.refl _) rfl | exact c_nil rfl rfl | exact c_thaw rfl rfl rfl | exact c_row rfl rfl rfl | exact c_row rfl rfl (by rw [List.map_append]; first | done | rfl) | exact c_ptr rfl rfl rfl rfl | exact Or.inl ⟨c_sub rfl (Sub.refl _) rfl, c_ptr rfl rfl rfl rfl⟩ | exact c_alt rfl rfl rfl rfl | exact c_ro rfl rfl | exact c_eo rfl rfl | exact c_sub rfl (Sub.altl _ _) rfl | exact c_sub rfl (Sub.nil _) rfl | refine ⟨_, _, rfl, ?_, ?_⟩ | apply And.intro) (by repeat' first | exact trivial | exact rfl | (rw [List.map_append]; first | done | rfl) | exact c_sub rfl (Sub.refl _) rfl | exact c_nil rfl rfl | exact c_thaw rfl rfl rfl | exact c_row rfl rfl rfl | exact c_row rfl rfl (by rw [List.map_append]; first | done | rfl) | exact c_ptr rfl rfl rfl rfl | exact Or.inl ⟨c_sub rfl (Sub.refl _) rfl, c_ptr rfl rfl rfl rfl⟩ | exact c_alt rfl rfl rfl rfl | exact c_ro rfl rfl | exact c_eo rfl rfl | exact c_sub rfl (Sub.altl _ _) rfl | exact c_sub rfl (Sub.nil _) rfl | refine ⟨_, _, rfl, ?_, ?_⟩ | apply And.intro)⟩
        | true =>
          have hil : i - 1 < L1.length := by omega
          have hL12 : L2 = L1.set (i - 1) ⟨(L1[i - 1]'hil).parent, emS, (L1[i - 1]'hil).text, []⟩ := by
            rw [hL2, formL]
            simp only [if_true, ← hL1]
            have e : rwAt L1 (i - 1) = L1[i - 1]'hil := by rw [rwAt, List.getD_eq_getElem?_getD, List.getElem?_eq_getElem hil]; rfl
            rw [e]
            congr 2
            have : ∀ r ∈ L1, r.text = emS := fun r hr => by
              rw [hL1] at hr
              rcases List.mem_or_eq_of_mem_set hr with h | h
              · obtain ⟨x, _, rfl⟩ := List.mem_map.1 h; rfl
              · rw [h]
            exact (this _ (List.getElem_mem hil)).symm
          rw [if_pos rfl, show decide (1 < i) = decide ((1 : Int) < (i : Int)) from decide_eq_decide.2 (by omega)] at hfg
          have hi1 : ((i : Int) - 1).toNat = i - 1 := by omega
          repeat (first
            | refine awp_seq ?_
            | refine thenA_normal ?_
            | refine a_region ?_
            | refine r_done ?_
            | (refine r_id ?_; first
              | refine r_ev tab_ok rfl rfl rfl rfl (by first | exact trivial | exact ⟨by omega, by omega⟩ | omega | exact ⟨by omega, by omega, by omega, by omega⟩ | exact Nat.le_of_ble_eq_true rfl) rfl ?_
              | refine r_idxr tab_ok rfl rfl rfl rfl rfl rfl rfl rfl (by first | exact ⟨by omega, by omega⟩ | (simp; omega)) rfl ?_
              | refine r_fielde tab_ok rfl rfl rfl rfl rfl rfl rfl rfl ?_)
            | refine awp_cond_t rfl ?_)
          refine r_ste tab_ok ⟨(L1[i - 1]'hil).parent, emS, (L1[i - 1]'hil).text, []⟩ rfl rfl rfl rfl rfl (by omega) rfl rfl rfl (by simp only [hi1]; rfl) rfl rfl ?_
          simp only [hi1]
          rw [← hL12, hfg]
          repeat (first
            | refine thenA_normal ?_
            | refine a_region ?_
            | refine r_done ?_
            | (refine r_id ?_; first
              | refine r_ev tab_ok rfl rfl rfl rfl (by first | exact trivial | exact ⟨by omega, by omega⟩ | omega | exact ⟨by omega, by omega, by omega, by omega⟩ | exact Nat.le_of_ble_eq_true rfl) rfl ?_
              | refine r_ev_cnd tab_ok rfl rfl rfl rfl rfl rfl (by first | exact fun _ => rfl | exact cs1 | exact cs2 | exact cs3) (by first | exact fun _ => trivial | (intro h; simp at h; first | exact ⟨by omega, by omega⟩ | omega)) rfl ?_
              | refine r_and rfl rfl rfl rfl rfl rfl rfl rfl ?_))
          exact ⟨rfl, fits_conv (by repeat' first | exact trivial | exact rfl | (rw [List.map_append]; first | done | rfl) | exact c_sub rfl (Sub.refl _) rfl | exact c_nil rfl rfl | exact c_thaw rfl rfl rfl | exact c_row rfl rfl rfl | exact c_row rfl rfl (by rw [List.map_append]; first | done | rfl) | exact c_ptr rfl rfl rfl rfl | exact Or.inl ⟨c_sub rfl (Sub.refl _) rfl, c_ptr rfl rfl rfl rfl⟩ | exact c_alt rfl rfl rfl rfl | exact c_ro rfl rfl | exact c_eo rfl rfl | exact c_sub rfl (Sub.altl _ _) rfl | exact c_sub rfl (Sub.nil _) rfl | refine ⟨_, _, rfl, ?_, ?_⟩ | apply And.intro) (by repeat' first | exact trivial | exact rfl | (rw [List.map_append]; first | done | rfl) | exact c_sub rfl (Sub.refl _) rfl | exact c_nil rfl rfl | exact c_thaw rfl rfl rfl | exact c_row rfl rfl rfl | exact c_row rfl rfl (by rw [List.map_append]; first | done | rfl) | exact c_ptr rfl rfl rfl rfl | exact Or.inl ⟨c_sub rfl (Sub.refl _) rfl, c_ptr rfl rfl rfl rfl⟩ | exact c_alt rfl rfl rfl rfl | exact c_ro rfl rfl | exact c_eo rfl rfl | exact c_sub rfl (Sub.altl _ _) rfl | exact c_sub rfl (Sub.nil _) rfl | refine ⟨_, _, rfl, ?_, ?_⟩ | apply And.intro)⟩
      · cases hnew : newF L2 with
        | none =>
          rw [hnew] at hN
          repeat (first
            | refine awp_seq ?_
            | refine a_region ?_
            | (refine r_id ?_; first
              | refine r_ev tab_ok rfl rfl rfl rfl (by first | exact trivial | exact ⟨by omega, by omega⟩ | omega | exact ⟨by omega, by omega, by omega, by omega⟩ | exact Nat.le_of_ble_eq_true rfl) rfl ?_))
          refine r_call hN call10 rfl rfl ⟨Sub.refl _, trivial⟩ rfl rfl rfl rfl ?_
          repeat (first
            | refine awp_seq ?_
            | refine a_region ?_
            | refine r_done ?_
            | (refine r_id ?_; first
              | refine r_ev tab_ok rfl rfl rfl rfl (by first | exact trivial | exact ⟨by omega, by omega⟩ | omega | exact ⟨by omega, by omega, by omega, by omega⟩ | exact Nat.le_of_ble_eq_true rfl) rfl ?_
              | refine r_ev_cnd tab_ok rfl rfl rfl rfl rfl rfl (by first | exact fun _ => rfl | exact cs1 | exact cs2 | exact cs3) (by first | exact fun _ => trivial | (intro h; simp at h; first | exact ⟨by omega, by omega⟩ | omega)) rfl ?_
              | refine r_or_cnd rfl rfl rfl rfl rfl rfl rfl rfl rfl rfl ?_
              | refine r_and rfl rfl rfl rfl rfl rfl rfl rfl ?_))
          refine r_call_cnd (fun _ => awake_ok) call8 rfl rfl rfl rfl (by first | exact fun _ => rfl | exact cs1 | exact cs2 | exact cs3) trivial rfl rfl rfl rfl ?_
          repeat (first
            | refine thenA_normal ?_
            | refine awp_ret ?_
            | refine r_done ?_
            | (refine r_id ?_; first
              | refine r_ev tab_ok rfl rfl rfl rfl (by first | exact trivial | exact ⟨by omega, by omega⟩ | omega | exact ⟨by omega, by omega, by omega, by omega⟩ | exact Nat.le_of_ble_eq_true rfl) rfl ?_
              | refine r_and rfl rfl rfl rfl rfl rfl rfl rfl ?_)
            | refine ret1 (by first | exact .inl rfl | exact .inr rfl) rfl rfl rfl ?_)
          exact Sub.of_eq rfl
        | some gs =>
          rw [hnew] at hN
          repeat (first
            | refine awp_seq ?_
            | refine a_region ?_
            | (refine r_id ?_; first
              | refine r_ev tab_ok rfl rfl rfl rfl (by first | exact trivial | exact ⟨by omega, by omega⟩ | omega | exact ⟨by omega, by omega, by omega, by omega⟩ | exact Nat.le_of_ble_eq_true rfl) rfl ?_))
          refine r_call hN call10 rfl rfl ⟨Sub.refl _, trivial⟩ rfl rfl rfl rfl ?_
          repeat (first
            | refine awp_seq ?_
            | refine a_region ?_
            | refine r_done ?_
            | (refine r_id ?_; first
              | refine r_ev tab_ok rfl rfl rfl rfl (by first | exact trivial | exact ⟨by omega, by omega⟩ | omega | exact ⟨by omega, by omega, by omega, by omega⟩ | exact Nat.le_of_ble_eq_true rfl) rfl ?_
              | refine r_ev_cnd tab_ok rfl rfl rfl rfl rfl rfl (by first | exact fun _ => rfl | exact cs1 | exact cs2 | exact cs3) (by first | exact fun _ => trivial | (intro h; simp at h; first | exact ⟨by omega, by omega⟩ | omega)) rfl ?_
              | refine r_or_cnd rfl rfl rfl rfl rfl rfl rfl rfl rfl rfl ?_
              | refine r_and rfl rfl rfl rfl rfl rfl rfl rfl ?_))
          refine r_call_cnd (fun _ => awake_ok) call8 rfl rfl rfl rfl (by first | exact fun _ => rfl | exact cs1 | exact cs2 | exact cs3) trivial rfl rfl rfl rfl ?_
          repeat (first
            | refine thenA_normal ?_
            | refine awp_ret ?_
            | refine r_done ?_
            | (refine r_id ?_; first
              | refine r_ev tab_ok rfl rfl rfl rfl (by first | exact trivial | exact ⟨by omega, by omega⟩ | omega | exact ⟨by omega, by omega, by omega, by omega⟩ | exact Nat.le_of_ble_eq_true rfl) rfl ?_
              | refine r_and rfl rfl rfl rfl rfl rfl rfl rfl ?_)
            | refine ret1 (by first | exact .inl rfl | exact .inr rfl) rfl rfl rfl ?_)
          exact Sub.of_eq rfl
end Go.Proofs.Ytklodolkgdmhoaa
