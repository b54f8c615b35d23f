import Derived.Test.YtogjmafjoliimaaN9
import Derived.Test.YtogjmafjoliimaaJ7
/- nest: One and All: sizes and places. -/
namespace Go.Proofs.Ytogjmafjoliimaa
open Go Go.RowKit

theorem putT_ne {n : Nd} {st : List Fr} (h : st ≠ []) : putT n st ≠ [] := by
  cases st with
  | nil => exact h
  | cons f r => rw [putT]; exact List.cons_ne_nil _ _
theorem oneS_next : ∀ (ts : List Tk) (st : List Fr) (a : Nat), a ≤ (oneS ts st a).2 ∧ (oneS ts st a).2 ≤ a + ts.length ∧ (ts ≠ [] → a < (oneS ts st a).2) := by
  intro ts
  induction ts with
  | nil => intro st a; rw [oneS]; exact ⟨Nat.le_refl _, Nat.le_refl _, fun h => absurd rfl h⟩
  | cons t ts ih =>
    intro st a
    have lift : ∀ st', a ≤ (oneS ts st' (a + 1)).2 ∧ (oneS ts st' (a + 1)).2 ≤ a + (t :: ts).length ∧ (t :: ts ≠ [] → a < (oneS ts st' (a + 1)).2) := fun st' => by
      have := ih st' (a + 1)
      rw [List.length_cons]
      exact ⟨by omega, by omega, fun _ => by omega⟩
    have one : ∀ n : Nd, a ≤ (n, a + 1).2 ∧ (n, a + 1).2 ≤ a + (t :: ts).length ∧ (t :: ts ≠ [] → a < (n, a + 1).2) := fun n => by
      rw [List.length_cons]
      exact ⟨by dsimp only; omega, by dsimp only; omega, fun _ => by dsimp only; omega⟩
    by_cases ho : opB t = true
    · rw [oneS_open ho]; exact lift _
    · have ho' : opB t = false := by simpa using ho
      cases st with
      | nil => rw [oneS_leaf ho']; exact one _
      | cons f r =>
        by_cases hc : clB t f = true
        · cases r with
          | nil => rw [oneS_cl1 ho' hc]; exact one _
          | cons g q => rw [oneS_cl2 ho' hc]; exact lift _
        · rw [oneS_in ho' (by simpa using hc)]; exact lift _
def szS : List Fr → Nat
  | [] => 0
  | f :: r => 1 + nszs f.kids + szS r
theorem szS_put (n : Nd) (st : List Fr) : szS (putT n st) ≤ szS st + nsz n := by
  cases st with
  | nil => exact Nat.zero_le _
  | cons f r =>
    rw [putT]
    split
    · rw [szS, szS, nszs_append, nszs, nszs]; omega
    · omega
theorem endS_sz : ∀ (k : Nat) (st : List Fr), st ≠ [] → st.length ≤ k → nsz (endS k st) ≤ szS st := by
  intro k
  induction k with
  | zero => intro st h1 h2; cases st with
    | nil => exact absurd rfl h1
    | cons f r => rw [List.length_cons] at h2; omega
  | succ k ih =>
    intro st h1 h2
    match st, h1, h2 with
    | [f], _, _ => rw [endS, ndOf, nsz, szS, szS]; omega
    | f :: g :: r, _, h2 =>
      rw [endS]
      have h3 := szS_put (ndOf f) (g :: r)
      have h4 := ih (putT (ndOf f) (g :: r)) (putT_ne (List.cons_ne_nil _ _)) (by rw [putT, List.length_cons]; rw [List.length_cons, List.length_cons] at h2; omega)
      rw [ndOf, nsz] at h3
      rw [szS]
      rw [ndOf] at h4 ⊢
      omega
theorem oneS_sz : ∀ (ts : List Tk) (st : List Fr) (a : Nat), (ts ≠ [] ∨ st ≠ []) → nsz (oneS ts st a).1 + a ≤ szS st + (oneS ts st a).2 := by
  intro ts
  induction ts with
  | nil =>
    intro st a h
    rw [oneS]
    have := endS_sz st.length st (h.resolve_left (fun h => h rfl)) (Nat.le_refl _)
    dsimp only
    omega
  | cons t ts ih =>
    intro st a _
    by_cases ho : opB t = true
    · rw [oneS_open ho]
      have := ih (⟨t, [], clF t⟩ :: st) (a + 1) (.inr (List.cons_ne_nil _ _))
      rw [szS, nszs] at this
      omega
    · have ho' : opB t = false := by simpa using ho
      cases st with
      | nil => rw [oneS_leaf ho', nsz, nszs]; dsimp only; omega
      | cons f r =>
        by_cases hc : clB t f = true
        · cases r with
          | nil => rw [oneS_cl1 ho' hc, ndOf, nsz, szS]; dsimp only; omega
          | cons g q =>
            rw [oneS_cl2 ho' hc]
            have h1 := ih (putT (ndOf f) (g :: q)) (a + 1) (.inr (putT_ne (List.cons_ne_nil _ _)))
            have h2 := szS_put (ndOf f) (g :: q)
            rw [ndOf, nsz] at h2
            rw [szS]
            rw [ndOf] at h1 ⊢
            omega
        · rw [oneS_in ho' (by simpa using hc)]
          have h1 := ih (putT (.mk t []) (f :: r)) (a + 1) (.inr (putT_ne (List.cons_ne_nil _ _)))
          have h2 := szS_put (.mk t []) (f :: r)
          rw [nsz, nszs] at h2
          omega
def allS (L : List Tk) : Nat → Nat → List Nd
  | 0, _ => []
  | k + 1, a => if a < L.length then (oneS (L.drop a) [] a).1 :: allS L k (oneS (L.drop a) [] a).2 else []
def allA (L : List Tk) (a : Nat) : List Nd := allS L (L.length - a) a
theorem allS_fuel (L : List Tk) : ∀ (k k' a : Nat), L.length - a ≤ k → L.length - a ≤ k' → allS L k a = allS L k' a := by
  intro k
  induction k with
  | zero => intro k' a h1 h2; cases k' with
    | zero => rfl
    | succ k' => rw [allS, allS, if_neg (by omega)]
  | succ k ih =>
    intro k' a h1 h2
    cases k' with
    | zero => rw [allS, allS, if_neg (by omega)]
    | succ k' =>
      rw [allS, allS]
      split
      · rename_i h
        have hn := (oneS_next (L.drop a) [] a).2.2 (by rw [ne_eq, List.drop_eq_nil_iff]; omega)
        rw [ih k' (oneS (L.drop a) [] a).2 (by omega) (by omega)]
      · rfl
theorem one_next {L : List Tk} {a : Nat} (h : a < L.length) : a < (oneS (L.drop a) [] a).2 ∧ (oneS (L.drop a) [] a).2 ≤ L.length := by
  have := oneS_next (L.drop a) [] a
  rw [List.length_drop] at this
  exact ⟨this.2.2 (by rw [ne_eq, List.drop_eq_nil_iff]; omega), by omega⟩
theorem allA_lt {L : List Tk} {a : Nat} (h : a < L.length) : allA L a = (oneS (L.drop a) [] a).1 :: allA L (oneS (L.drop a) [] a).2 := by
  have h1 := one_next h
  obtain ⟨k, hk⟩ : ∃ k, L.length - a = k + 1 := ⟨L.length - a - 1, by omega⟩
  rw [allA, hk, allS, if_pos h, allA, allS_fuel L k (L.length - (oneS (L.drop a) [] a).2) _ (by omega) (by omega)]
theorem allA_ge {L : List Tk} {a : Nat} (h : L.length ≤ a) : allA L a = [] := by
  rw [allA, Nat.sub_eq_zero_of_le h, allS]
theorem allA_sz (L : List Tk) : ∀ (k a : Nat), L.length - a ≤ k → a ≤ L.length → nszs (allA L a) + a ≤ L.length := by
  intro k
  induction k with
  | zero => intro a h1 h2; rw [allA_ge (by omega), nszs]; omega
  | succ k ih =>
    intro a h1 h2
    by_cases h : a < L.length
    · have h3 := one_next h
      rw [allA_lt h, nszs]
      have h4 := oneS_sz (L.drop a) [] a (.inl (by rw [ne_eq, List.drop_eq_nil_iff]; omega))
      rw [szS] at h4
      have h5 := ih (oneS (L.drop a) [] a).2 (by omega) (by omega)
      omega
    · rw [allA_ge (by omega), nszs]; omega
theorem allA_sz0 (L : List Tk) : nszs (allA L 0) ≤ L.length := by
  have := allA_sz L L.length 0 (by omega) (Nat.zero_le _)
  omega
set_option maxHeartbeats 2000000 in
theorem one_out (L : List Tk) (a0 : Nat) (hL : L.length ≤ 549755813888) (ha0 : L.length ≤ a0) (hb : a0 ≤ 1099511627776) : PCalls Try.prog 17 [.sl 6 (L.map tD), .val (.int .i64 a0)] (.tup [nA zN, .val (.int .i64 a0)]) := by
  refine p_start Try.func17 Try.ntmps17 rfl rfl rfl fun S w => ?_
  have hlm : (L.map tD).length = L.length := List.length_map _
  repeat (first
    | refine awp_seq ?_
    | refine thenA_normal ?_
    | refine a_region ?_
    | refine r_done ?_
    | (refine r_id ?_; first
      | refine r_ev tab_ok rfl rfl rfl rfl (by first | exact trivial | exact ⟨by omega, by omega⟩ | omega | exact ⟨by omega, by omega, by omega, by omega⟩ | exact Nat.le_of_ble_eq_true rfl) rfl ?_
      | refine r_wr tab_ok rfl rfl rfl rfl rfl ?_
      | refine r_len_cnd tab_ok rfl rfl rfl rfl rfl rfl (by first | exact fun _ => rfl | exact cs1) rfl rfl rfl ?_
      | refine r_ev_cnd tab_ok rfl rfl rfl rfl rfl rfl (by first | exact fun _ => rfl | exact cs1 | exact cs2 | exact cs3) (by first | exact fun _ => trivial | (intro h; simp at h; first | exact ⟨by omega, by omega⟩ | omega)) rfl ?_
      | refine r_or rfl rfl rfl rfl rfl rfl rfl rfl ?_))
  refine awp_cond rfl (fun h => ?_) (fun h => ?_)
  · repeat (first
      | refine awp_seq ?_
      | refine thenA_normal ?_
      | refine a_region ?_
      | refine awp_ret ?_
      | refine thenA_ret ?_
      | refine r_done ?_
      | (refine r_id ?_; first
        | refine r_ev tab_ok rfl rfl rfl rfl (by first | exact trivial | exact ⟨by omega, by omega⟩ | omega | exact ⟨by omega, by omega, by omega, by omega⟩ | exact Nat.le_of_ble_eq_true rfl) rfl ?_
        | refine r_ld tab_ok rfl rfl rfl rfl rfl ?_
        | refine r_st tab_ok rfl rfl rfl rfl ?_))
    exact ret2c tab_ok (by first | exact .inl rfl | exact .inr rfl) rfl rfl rfl rfl rfl rfl rfl (Sub.agg (by repeat' first | exact trivial | exact Sub.refl _ | exact Sub.nil _ | refine Sub.agg ?_ | apply And.intro)) (Sub.refl _)
  · simp at h
    omega
theorem one_ok (L : List Tk) (a0 : Nat) (hL : L.length ≤ 549755813888) (hb : a0 ≤ 1099511627776) : PCalls Try.prog 17 [.sl 6 (L.map tD), .val (.int .i64 a0)] (.tup [nA (oneS (L.drop a0) [] a0).1, .val (.int .i64 (oneS (L.drop a0) [] a0).2)]) := by
  by_cases h : a0 < L.length
  · exact one_in L a0 hL h
  · rw [List.drop_eq_nil_iff.2 (by omega), oneS]
    exact one_out L a0 hL (by omega) hb
structure AS_ (L : List Tk) where
  a : Nat
  out : List Nd
  ha : a ≤ L.length
  eq : out ++ allA L a = allA L 0
set_option maxHeartbeats 2000000 in
theorem all_ok (L : List Tk) (hL : L.length ≤ 549755813888) : PCalls Try.prog 9 [.sl 6 (L.map tD)] (.sl 7 ((allA L 0).map nF)) := by
  refine p_start Try.func9 Try.ntmps9 rfl rfl rfl fun S w => ?_
  have hlm : (L.map tD).length = L.length := List.length_map _
  repeat (first
    | refine awp_seq ?_
    | refine thenA_normal ?_
    | refine awp_block ?_
    | refine a_region ?_
    | refine r_done ?_
    | (refine r_id ?_; first
      | refine r_ev tab_ok rfl rfl rfl rfl (by first | exact trivial | exact ⟨by omega, by omega⟩ | omega | exact ⟨by omega, by omega, by omega, by omega⟩ | exact Nat.le_of_ble_eq_true rfl) rfl ?_))
  refine a_loop (σ := AS_ L) (fun x => [.row 0 36 7 (x.out.map nF)]) (fun x => [(0, .sl 6 (L.map tD)), (2, .row 0 0), (3, .val (.int .i64 x.a))]) (fun x => L.length - x.a) ⟨0, [], Nat.zero_le _, rfl⟩ (fits_conv (by repeat' first | exact trivial | exact rfl | (rw [List.map_append]; first | done | rfl) | exact c_sub rfl (Sub.refl _) rfl | exact c_nil rfl rfl | exact c_thaw rfl rfl rfl | exact c_row rfl rfl rfl | exact c_row rfl rfl (by rw [List.map_append]; first | done | rfl) | exact c_ptr rfl rfl rfl rfl | exact Or.inl ⟨c_sub rfl (Sub.refl _) rfl, c_ptr rfl rfl rfl rfl⟩ | exact c_alt rfl rfl rfl rfl | exact c_ro rfl rfl | exact c_eo rfl rfl | exact c_sub rfl (Sub.altl _ _) rfl | exact c_sub rfl (Sub.nil _) rfl | refine ⟨_, _, rfl, ?_, ?_⟩ | apply And.intro) ⟨c_sub rfl (Sub.refl _) rfl, c_nil rfl rfl, c_sub rfl (Sub.refl _) rfl, trivial⟩) ?_
  rintro ⟨a, out, ha, heq⟩
  dsimp only
  repeat (first
    | refine awp_seq ?_
    | refine thenA_normal ?_
    | refine a_region ?_
    | refine r_done ?_
    | (refine r_id ?_; first
      | refine r_len tab_ok rfl rfl rfl rfl rfl rfl rfl ?_
      | refine r_ev tab_ok rfl rfl rfl rfl (by first | exact trivial | exact ⟨by omega, by omega⟩ | omega | exact ⟨by omega, by omega, by omega, by omega⟩ | exact Nat.le_of_ble_eq_true rfl) rfl ?_))
  refine awp_cond_p rfl (fun hlt => ?_) (fun hge => ?_)
  · have hlt' : a < L.length := by omega
    have hnx := one_next hlt'
    have hml : (out.map nF).length = out.length := List.length_map _
    have hol : out.length ≤ L.length := by
      have h1 := nszs_append out (allA L a)
      rw [heq] at h1
      have h2 := allA_sz0 L
      have h3 := nszs_len out
      omega
    rw [allA_lt hlt'] at heq
    repeat (first
      | refine awp_seq ?_
      | refine thenA_normal ?_
      | refine awp_block ?_
      | refine a_region ?_
      | refine awp_skip ?_
      | refine r_done ?_
      | (refine r_id ?_; first
        | refine r_ev tab_ok rfl rfl rfl rfl (by first | exact trivial | exact ⟨by omega, by omega⟩ | omega | exact ⟨by omega, by omega, by omega, by omega⟩ | exact Nat.le_of_ble_eq_true rfl) rfl ?_
        | refine r_wr tab_ok rfl rfl rfl rfl rfl ?_))
    refine r_call (one_ok L a hL (by omega)) call17 rfl rfl ⟨Sub.refl _, Sub.refl _, trivial⟩ rfl rfl rfl rfl ?_
    repeat (first
      | refine thenA_normal ?_
      | refine a_region ?_
      | refine blockA_normal ?_
      | refine r_done ?_
      | (refine r_id ?_; first
        | refine r_ev tab_ok rfl rfl rfl rfl (by first | exact trivial | exact ⟨by omega, by omega⟩ | omega | exact ⟨by omega, by omega, by omega, by omega⟩ | exact Nat.le_of_ble_eq_true rfl) rfl ?_
        | refine r_ld tab_ok rfl rfl rfl rfl rfl ?_
        | refine r_st tab_ok rfl rfl rfl rfl ?_
        | refine r_built tab_ok rfl rfl rfl rfl rfl rfl rfl rfl rfl ?_
        | refine r_append tab_ok rfl rfl rfl rfl rfl rfl rfl rfl rfl (by first | omega | (simp; omega)) rfl ?_))
    refine ⟨⟨(oneS (L.drop a) [] a).2, out ++ [(oneS (L.drop a) [] a).1], hnx.2, by rw [List.append_assoc, List.singleton_append]; exact heq⟩, by dsimp only; omega, ?_⟩
    dsimp only
    rw [List.map_append]
    exact fits_trans (s' := ⟨[.row 0 36 7 (out.map nF ++ [nF (oneS (L.drop a) [] a).1]), .gone], [(0, .sl 6 (L.map tD)), (2, .row 0 0), (3, .val (.int .i64 (oneS (L.drop a) [] a).2))]⟩) (fits_conv (by repeat' first | exact trivial | exact rfl | (rw [List.map_append]; first | done | rfl) | exact c_sub rfl (Sub.refl _) rfl | exact c_nil rfl rfl | exact c_thaw rfl rfl rfl | exact c_row rfl rfl rfl | exact c_row rfl rfl (by rw [List.map_append]; first | done | rfl) | exact c_ptr rfl rfl rfl rfl | exact Or.inl ⟨c_sub rfl (Sub.refl _) rfl, c_ptr rfl rfl rfl rfl⟩ | exact c_alt rfl rfl rfl rfl | exact c_ro rfl rfl | exact c_eo rfl rfl | exact c_sub rfl (Sub.altl _ _) rfl | exact c_sub rfl (Sub.nil _) rfl | refine ⟨_, _, rfl, ?_, ?_⟩ | apply And.intro) (by repeat' first | exact trivial | exact rfl | (rw [List.map_append]; first | done | rfl) | exact c_sub rfl (Sub.refl _) rfl | exact c_nil rfl rfl | exact c_thaw rfl rfl rfl | exact c_row rfl rfl rfl | exact c_row rfl rfl (by rw [List.map_append]; first | done | rfl) | exact c_ptr rfl rfl rfl rfl | exact Or.inl ⟨c_sub rfl (Sub.refl _) rfl, c_ptr rfl rfl rfl rfl⟩ | exact c_alt rfl rfl rfl rfl | exact c_ro rfl rfl | exact c_eo rfl rfl | exact c_sub rfl (Sub.altl _ _) rfl | exact c_sub rfl (Sub.nil _) rfl | refine ⟨_, _, rfl, ?_, ?_⟩ | apply And.intro)) (fits_drop 1 rfl rfl ⟨⟨rfl, Sub.refl _⟩, ⟨rfl, Sub.refl _⟩, ⟨rfl, Sub.refl _⟩, trivial⟩)
  · rw [allA_ge (by omega), List.append_nil] at heq
    rw [← heq]
    repeat (first
      | refine awp_seq ?_
      | refine thenA_normal ?_
      | refine a_region ?_
      | refine awp_ret ?_
      | refine awp_exit ?_
      | refine r_done ?_
      | (refine r_id ?_; first
        | refine r_ev tab_ok rfl rfl rfl rfl (by first | exact trivial | exact ⟨by omega, by omega⟩ | omega | exact ⟨by omega, by omega, by omega, by omega⟩ | exact Nat.le_of_ble_eq_true rfl) rfl ?_)
      | refine ret1_row (by first | exact .inl rfl | exact .inr rfl) rfl rfl rfl ?_)
    exact Sub.refl _
end Go.Proofs.Ytogjmafjoliimaa

/- nest: what All's nodes are, in plain words. -/
namespace Go.Proofs.Ytogjmafjoliimaa
open Go Go.RowKit

/-- A leaf that would end a block whose end is e. -/
def clN (e : ByteArray) (n : Nd) : Bool := decide (n.tok.kind = 20) && decide (n.tok.text = e)
mutual
def wfN : Nd → Prop
  | .mk t k => (opB t = true ∧ wfL (clF t) k) ∨ (opB t = false ∧ k = [])
def wfL (e : ByteArray) : List Nd → Prop
  | [] => True
  | n :: r => wfN n ∧ clN e n = false ∧ wfL e r
end
theorem wfL_snoc {e : ByteArray} {n : Nd} (hn : wfN n) (hc : clN e n = false) : ∀ {l : List Nd}, wfL e l → wfL e (l ++ [n])
  | [], _ => ⟨hn, hc, trivial⟩
  | _ :: _, h => ⟨h.1, h.2.1, wfL_snoc hn hc h.2.2⟩
theorem opB_kind {t : Tk} (h : opB t = true) : t.kind = 2 ∨ t.kind = 19 := by
  rw [opB, Bool.or_eq_true, Bool.and_eq_true, decide_eq_true_eq, decide_eq_true_eq] at h
  exact h.imp id (·.1)
theorem opB_no {t : Tk} (h2 : t.kind ≠ 2) (h19 : t.kind ≠ 19) : opB t = false := by
  cases h : opB t with
  | false => rfl
  | true => rcases opB_kind h with h | h <;> contradiction
theorem opB_close {s : ByteArray} : opB (tkK 20 s) = false := opB_no (by show (20 : Int) ≠ 2; decide) (by show (20 : Int) ≠ 19; decide)
theorem clN_open {e : ByteArray} {n : Nd} (h : opB n.tok = true) : clN e n = false := by
  rw [clN]
  have : n.tok.kind ≠ 20 := by rcases opB_kind h with h | h <;> omega
  rw [decide_eq_false this]
  rfl
def okS : List Fr → Prop
  | [] => True
  | f :: r => opB f.tok = true ∧ f.en = clF f.tok ∧ wfL f.en f.kids ∧ (f.kids = [] ∨ r.length + 1 + deepF f.kids ≤ 32) ∧ okS r
theorem ok_nd {f : Fr} {r : List Fr} (h : okS (f :: r)) : wfN (ndOf f) ∧ (deepN (ndOf f) = 1 ∨ r.length + deepN (ndOf f) ≤ 32) := by
  obtain ⟨h1, h2, h3, h4, h5⟩ := h
  rw [h2] at h3
  refine ⟨.inl ⟨h1, h3⟩, ?_⟩
  rw [ndOf, deepN]
  rcases h4 with h4 | h4
  · rw [h4, deepF]; exact .inl rfl
  · exact .inr (by omega)
theorem ok_put {n : Nd} {f : Fr} {r : List Fr} (h : okS (f :: r)) (hn : wfN n) (hc : clN f.en n = false) (hd : deepN n = 1 ∨ r.length + 1 + deepN n ≤ 32) : okS (putT n (f :: r)) := by
  rw [putT]
  split
  · obtain ⟨h1, h2, h3, h4, h5⟩ := h
    refine ⟨h1, h2, wfL_snoc hn hc h3, .inr ?_, h5⟩
    dsimp only
    rw [deepF_snoc]
    rcases h4 with h4 | h4
    · rw [h4, deepF]; omega
    · omega
  · exact h
theorem endS_ok : ∀ (k : Nat) (st : List Fr), okS st → wfN (endS k st) ∧ deepN (endS k st) ≤ 32 := by
  have hz : wfN zN ∧ deepN zN ≤ 32 := ⟨.inr ⟨opB_no (by decide) (by decide), rfl⟩, by rw [zN, deepN, deepF]; omega⟩
  intro k
  induction k with
  | zero => intro st _; rw [endS]; exact hz
  | succ k ih =>
    intro st h
    match st, h with
    | [], _ => rw [endS]; exact hz
    | [f], h =>
      rw [endS]
      have := ok_nd h
      rw [List.length_nil] at this
      exact ⟨this.1, by omega⟩
    | f :: g :: r, h =>
      rw [endS]
      have h1 := ok_nd h
      rw [List.length_cons] at h1
      exact ih _ (ok_put h.2.2.2.2 h1.1 (clN_open h.1) h1.2)
theorem oneS_ok : ∀ (ts : List Tk) (st : List Fr) (a : Nat), okS st → wfN (oneS ts st a).1 ∧ deepN (oneS ts st a).1 ≤ 32 := by
  intro ts
  induction ts with
  | nil => intro st a h; rw [oneS]; exact endS_ok _ _ h
  | cons t ts ih =>
    intro st a h
    by_cases ho : opB t = true
    · rw [oneS_open ho]
      exact ih _ _ ⟨ho, rfl, trivial, .inl rfl, h⟩
    · have ho' : opB t = false := by simpa using ho
      have hleaf : wfN (.mk t []) := .inr ⟨ho', rfl⟩
      have hd1 : deepN (.mk t []) = 1 := by rw [deepN, deepF]
      cases st with
      | nil => rw [oneS_leaf ho']; exact ⟨hleaf, by dsimp only; omega⟩
      | cons f r =>
        by_cases hc : clB t f = true
        · have hn := ok_nd h
          cases r with
          | nil =>
            rw [oneS_cl1 ho' hc]
            rw [List.length_nil] at hn
            exact ⟨hn.1, by dsimp only; omega⟩
          | cons g q =>
            rw [oneS_cl2 ho' hc]
            rw [List.length_cons] at hn
            exact ih _ _ (ok_put h.2.2.2.2 hn.1 (clN_open h.1) hn.2)
        · have hc' : clB t f = false := by simpa using hc
          rw [oneS_in ho' hc']
          exact ih _ _ (ok_put h hleaf hc' (.inl hd1))
theorem allA_ok (L : List Tk) : ∀ (k a : Nat), L.length - a ≤ k → ∀ n ∈ allA L a, wfN n ∧ deepN n ≤ 32 := by
  intro k
  induction k with
  | zero => intro a h n hn; rw [allA_ge (by omega)] at hn; cases hn
  | succ k ih =>
    intro a h n hn
    by_cases hl : a < L.length
    · have h1 := one_next hl
      rw [allA_lt hl] at hn
      rcases List.mem_cons.1 hn with rfl | hn
      · exact oneS_ok _ _ _ trivial
      · exact ih _ (by omega) n hn
    · rw [allA_ge (by omega)] at hn; cases hn
theorem deepF_all {b : Nat} : ∀ {l : List Nd}, (∀ n ∈ l, deepN n ≤ b) → deepF l ≤ b
  | [], _ => by rw [deepF]; exact Nat.zero_le _
  | n :: r, h => by
    have h1 := h n List.mem_cons_self
    have h2 := deepF_all (l := r) fun m hm => h m (List.mem_cons_of_mem _ hm)
    rw [deepF]
    omega
mutual
theorem read_in : ∀ (n : Nd), wfN n → ∀ (f : Fr) (r : List Fr) (ts : List Tk) (a : Nat), clN f.en n = false → r.length + 1 + deepN n ≤ 32 →
    oneS (flatN n ++ ts) (f :: r) a = oneS ts ({ f with kids := f.kids ++ [n] } :: r) (a + (flatN n).length)
  | .mk t k, hw, f, r, ts, a, hc, hd => by
    rw [deepN] at hd
    rcases hw with ⟨ho, hw⟩ | ⟨ho, rfl⟩
    · rw [flatN, if_pos ho, List.cons_append, oneS_open ho, List.append_assoc]
      have h1 := reads_in k (clF t) hw ⟨t, [], clF t⟩ (f :: r) ([tkK 20 (clF t)] ++ ts) (a + 1) rfl (by
        rw [List.length_cons]
        by_cases hk : k = []
        · exact .inr hk
        · exact .inl (by omega))
      rw [h1, List.singleton_append, oneS_cl2 opB_close (by simp [clB, tkK]), putT, if_pos (by omega)]
      simp only [ndOf, List.nil_append, List.length_cons, List.length_append, List.length_singleton, List.length_nil]
      congr 1
      omega
    · rw [flatN, if_neg (by rw [ho]; decide), List.singleton_append, oneS_in ho hc, putT, if_pos (by omega), List.length_singleton]
theorem reads_in : ∀ (l : List Nd) (e : ByteArray), wfL e l → ∀ (f : Fr) (r : List Fr) (ts : List Tk) (a : Nat), f.en = e → (r.length + 1 + deepF l ≤ 32 ∨ l = []) →
    oneS (flatF l ++ ts) (f :: r) a = oneS ts ({ f with kids := f.kids ++ l } :: r) (a + (flatF l).length)
  | [], e, _, f, r, ts, a, _, _ => by rw [flatF, List.nil_append, List.append_nil, List.length_nil, Nat.add_zero]
  | n :: q, e, hw, f, r, ts, a, he, hd => by
    have hd' : r.length + 1 + deepF (n :: q) ≤ 32 := hd.resolve_right (List.cons_ne_nil _ _)
    rw [deepF] at hd'
    rw [flatF, List.append_assoc, read_in n hw.1 f r _ a (by rw [he]; exact hw.2.1) (by omega)]
    rw [reads_in q e hw.2.2 { f with kids := f.kids ++ [n] } r ts _ he (.inl (by omega))]
    rw [List.append_assoc, List.singleton_append, List.length_append, Nat.add_assoc]
end
theorem read_top {n : Nd} (hw : wfN n) (hd : deepN n ≤ 32) (ts : List Tk) (a : Nat) : oneS (flatN n ++ ts) [] a = (n, a + (flatN n).length) := by
  obtain ⟨t, k⟩ := n
  rw [deepN] at hd
  rcases hw with ⟨ho, hw⟩ | ⟨ho, rfl⟩
  · rw [flatN, if_pos ho, List.cons_append, oneS_open ho, List.append_assoc]
    rw [reads_in k (clF t) hw ⟨t, [], clF t⟩ [] ([tkK 20 (clF t)] ++ ts) (a + 1) rfl (by
      by_cases hk : k = []
      · exact .inr hk
      · exact .inl (by rw [List.length_nil]; omega))]
    rw [List.singleton_append, oneS_cl1 opB_close (by simp [clB, tkK])]
    simp only [ndOf, List.nil_append, List.length_cons, List.length_append, List.length_singleton]
    congr 1
    simp only [List.length_nil]
    omega
  · rw [flatN, if_neg (by rw [ho]; decide), List.singleton_append, oneS_leaf ho, List.length_singleton]
theorem flatN_pos (n : Nd) : 0 < (flatN n).length := by rw [flatN_eq, List.length_cons]; exact Nat.succ_pos _
/-- Nodes are made again of their tokens. -/
theorem all_flat : ∀ (post pre : List Nd), (∀ n ∈ post, wfN n ∧ deepN n ≤ 32) → allA (flatF (pre ++ post)) (flatF pre).length = post := by
  intro post
  induction post with
  | nil => intro pre _; rw [List.append_nil, allA_ge (Nat.le_refl _)]
  | cons n post ih =>
    intro pre h
    have hn := h n List.mem_cons_self
    have hp := flatN_pos n
    have hl : (flatF pre).length < (flatF (pre ++ n :: post)).length := by
      rw [flatF_append, flatF, List.length_append, List.length_append]
      omega
    rw [allA_lt hl]
    have hd : (flatF (pre ++ n :: post)).drop (flatF pre).length = flatN n ++ flatF post := by
      rw [flatF_append, List.drop_left, flatF]
    rw [hd, read_top hn.1 hn.2]
    have := ih (pre ++ [n]) fun m hm => h m (List.mem_cons_of_mem _ hm)
    rw [List.append_assoc, List.singleton_append] at this
    have e : (flatF (pre ++ [n])).length = (flatF pre).length + (flatN n).length := by rw [flatF_append, List.length_append, flatF, flatF, List.append_nil]
    rw [e] at this
    dsimp only
    rw [this]
theorem all_back (L : List Tk) : allA (flatF (allA L 0)) 0 = allA L 0 := by
  have := all_flat (allA L 0) [] (allA_ok L L.length 0 (by omega))
  rwa [List.nil_append, flatF, List.length_nil] at this
theorem all_deep (L : List Tk) : deepF (allA L 0) ≤ 32 := deepF_all fun n hn => (allA_ok L L.length 0 (by omega) n hn).2
/-- Each node's own token is one of the tokens. -/
theorem oneS_tok {p : Tk → Prop} (hz : p tk0) : ∀ (ts : List Tk) (st : List Fr) (a : Nat), (∀ t ∈ ts, p t) → (∀ f ∈ st, p f.tok) → p (oneS ts st a).1.tok := by
  have put : ∀ (n : Nd) (st : List Fr), (∀ f ∈ st, p f.tok) → ∀ f ∈ putT n st, p f.tok := by
    intro n st h f hf
    cases st with
    | nil => cases hf
    | cons g r =>
      rw [putT] at hf
      rcases List.mem_cons.1 hf with rfl | hf
      · split
        · exact h g List.mem_cons_self
        · exact h g List.mem_cons_self
      · exact h f (List.mem_cons_of_mem _ hf)
  have end_ : ∀ (k : Nat) (st : List Fr), (∀ f ∈ st, p f.tok) → p (endS k st).tok := by
    intro k
    induction k with
    | zero => intro st _; rw [endS]; exact hz
    | succ k ih =>
      intro st h
      match st, h with
      | [], _ => rw [endS]; exact hz
      | [f], h => rw [endS]; exact h f List.mem_cons_self
      | f :: g :: r, h => rw [endS]; exact ih _ (put _ _ fun f' hf' => h f' (List.mem_cons_of_mem _ hf'))
  intro ts
  induction ts with
  | nil => intro st a _ h; rw [oneS]; exact end_ _ _ h
  | cons t ts ih =>
    intro st a ht h
    have ht0 := ht t List.mem_cons_self
    have ht' : ∀ t ∈ ts, p t := fun t h => ht t (List.mem_cons_of_mem _ h)
    by_cases ho : opB t = true
    · rw [oneS_open ho]
      refine ih _ _ ht' fun f hf => ?_
      rcases List.mem_cons.1 hf with rfl | hf
      · exact ht0
      · exact h f hf
    · have ho' : opB t = false := by simpa using ho
      cases st with
      | nil => rw [oneS_leaf ho']; exact ht0
      | cons f r =>
        by_cases hc : clB t f = true
        · cases r with
          | nil => rw [oneS_cl1 ho' hc]; exact h f List.mem_cons_self
          | cons g q => rw [oneS_cl2 ho' hc]; exact ih _ _ ht' (put _ _ fun f' hf' => h f' (List.mem_cons_of_mem _ hf'))
        · rw [oneS_in ho' (by simpa using hc)]
          exact ih _ _ ht' (put _ _ h)
theorem allA_tok {p : Tk → Prop} (hz : p tk0) (L : List Tk) (hL : ∀ t ∈ L, p t) : ∀ (k a : Nat), L.length - a ≤ k → ∀ n ∈ allA L a, p n.tok := by
  intro k
  induction k with
  | zero => intro a h n hn; rw [allA_ge (by omega)] at hn; cases hn
  | succ k ih =>
    intro a h n hn
    by_cases hl : a < L.length
    · have h1 := one_next hl
      rw [allA_lt hl] at hn
      rcases List.mem_cons.1 hn with rfl | hn
      · exact oneS_tok hz _ _ _ (fun t ht => hL t (List.mem_of_mem_drop ht)) (fun f hf => by cases hf)
      · exact ih _ (by omega) n hn
    · rw [allA_ge (by omega)] at hn; cases hn
/-- Trimmed. -/
theorem trimB_cons {a : Nd} {r : List Nd} (h : whN a = false) : trimB (a :: r) = a :: trimB r := by
  have e : ∀ x : List Nd, (x ++ [a]).dropWhile whN = x.dropWhile whN ++ [a] := by
    intro x
    induction x with
    | nil => simp [h]
    | cons y x ih =>
      rw [List.cons_append, List.dropWhile_cons, List.dropWhile_cons]
      split
      · exact ih
      · rfl
  rw [trimB, List.reverse_cons, e, List.reverse_append]
  rfl
theorem trimB_idem (r : List Nd) : trimB (trimB r) = trimB r := by
  have e : ∀ x : List Nd, (x.dropWhile whN).dropWhile whN = x.dropWhile whN := by
    intro x
    induction x with
    | nil => rfl
    | cons y x ih =>
      rw [List.dropWhile_cons]
      split
      · exact ih
      · rename_i h
        rw [List.dropWhile_cons, if_neg h]
  rw [trimB, trimB, List.reverse_reverse, e]
theorem drop_head (l : List Nd) : l.dropWhile whN = [] ∨ ∃ a r, l.dropWhile whN = a :: r ∧ whN a = false := by
  induction l with
  | nil => exact .inl rfl
  | cons a r ih =>
    rw [List.dropWhile_cons]
    split
    · exact ih
    · rename_i h
      exact .inr ⟨a, r, rfl, by simpa using h⟩
theorem trim_idem (l : List Nd) : trimF (trimF l) = trimF l := by
  rcases drop_head l with h | ⟨a, r, h, ha⟩
  · rw [trimF, trimF, h]; rfl
  · have e : trimF l = a :: trimB r := by rw [trimF, h, trimB_cons ha]
    rw [e, trimF, List.dropWhile_cons, if_neg (by rw [ha]; decide), trimB_cons ha, trimB_idem]
theorem deepF_append (l m : List Nd) : deepF (l ++ m) = max (deepF l) (deepF m) := by
  induction l with
  | nil => rw [List.nil_append, deepF]; omega
  | cons n r ih => rw [List.cons_append, deepF, ih, deepF]; omega
theorem deepF_one {l : List Nd} (h : l ≠ []) : 1 ≤ deepF l := by
  cases l with
  | nil => exact absurd rfl h
  | cons n r => rw [deepF, deepN_eq]; omega
theorem deep_drop : ∀ (l : List Nd), (∀ n ∈ l, whN n = true → deepN n = 1) → l.dropWhile whN ≠ [] → deepF (l.dropWhile whN) = deepF l
  | [], _, _ => rfl
  | n :: r, h, hne => by
    rw [List.dropWhile_cons] at hne ⊢
    split
    · rename_i hw
      rw [if_pos hw] at hne
      rw [deep_drop r (fun m hm => h m (List.mem_cons_of_mem _ hm)) hne, deepF, h n List.mem_cons_self hw]
      have h1 := deepF_one hne
      rw [deep_drop r (fun m hm => h m (List.mem_cons_of_mem _ hm)) hne] at h1
      omega
    · rfl
theorem deepF_rev (l : List Nd) : deepF l.reverse = deepF l := by
  induction l with
  | nil => rfl
  | cons n r ih => rw [List.reverse_cons, deepF_snoc, ih, deepF]; omega
theorem deep_trim {l : List Nd} (h : ∀ n ∈ l, whN n = true → deepN n = 1) (hne : trimF l ≠ []) : deepF (trimF l) = deepF l := by
  have h1 : l.dropWhile whN ≠ [] := by
    intro h0
    rw [trimF, h0] at hne
    exact hne rfl
  rw [trimF, trimB, deepF_rev]
  rw [deep_drop (l.dropWhile whN).reverse (fun n hn => h n ((List.dropWhile_sublist _).subset (List.mem_reverse.1 hn))) (by
    intro h0
    rw [trimF, trimB, h0] at hne
    exact hne rfl), deepF_rev, deep_drop l h h1]
theorem wf_white {n : Nd} (h : wfN n) (hw : whN n = true) : deepN n = 1 := by
  obtain ⟨t, k⟩ := n
  have hk : t.kind = 13 := by rw [whN, decide_eq_true_eq] at hw; exact hw
  rcases h with ⟨h, _⟩ | ⟨_, rfl⟩
  · rcases opB_kind h with h | h <;> omega
  · rw [deepN, deepF]
theorem all_trim_deep (L : List Tk) (hne : trimF (allA L 0) ≠ []) : deepF (trimF (allA L 0)) = deepF (allA L 0) :=
  deep_trim (fun n hn hw => wf_white (allA_ok L L.length 0 (by omega) n hn).1 hw) hne
/-- Split. -/
def cm : Nd := .mk (tkK 18 ⟨#[]⟩) []
def cmB (n : Nd) : Bool := decide (n.tok.kind = 18)
def splitG : List Nd → List (List Nd) → List Nd → List (List Nd)
  | [], pre, cur => pre ++ [cur]
  | n :: r, pre, cur => if cmB n = true then splitG r (pre ++ [cur]) [] else splitG r pre (cur ++ [n])
def splitF (l : List Nd) : List (List Nd) := splitG l [] []
theorem splitG_len : ∀ (l : List Nd) (pre : List (List Nd)) (cur : List Nd), (splitG l pre cur).length = pre.length + 1 + l.countP cmB
  | [], pre, cur => by rw [splitG, List.length_append, List.length_singleton]; rfl
  | n :: r, pre, cur => by
    rw [splitG, List.countP_cons]
    split
    · rw [splitG_len, List.length_append, List.length_singleton]; omega
    · rw [splitG_len]; omega
def joinF (ps : List (List Nd)) : List Nd := (ps.flatMap fun p => cm :: p).drop 1
theorem joinF_snoc {ps : List (List Nd)} (h : ps ≠ []) (p : List Nd) : joinF (ps ++ [p]) = joinF ps ++ cm :: p := by
  cases ps with
  | nil => exact absurd rfl h
  | cons q r => simp [joinF]
theorem join_split : ∀ (l : List Nd) (pre : List (List Nd)) (cur : List Nd), (∀ n ∈ l, cmB n = true → n = cm) → joinF (splitG l pre cur) = joinF (pre ++ [cur]) ++ l
  | [], pre, cur, _ => by rw [splitG, List.append_nil]
  | n :: r, pre, cur, h => by
    have h' : ∀ n ∈ r, cmB n = true → n = cm := fun m hm => h m (List.mem_cons_of_mem _ hm)
    rw [splitG]
    split
    · rename_i hc
      rw [join_split r _ _ h', joinF_snoc (by simp), h n List.mem_cons_self hc]
      simp
    · rw [join_split r _ _ h']
      by_cases hp : pre = []
      · rw [hp]
        simp [joinF]
      · rw [joinF_snoc hp, joinF_snoc hp]
        simp
end Go.Proofs.Ytogjmafjoliimaa

/- nest: Split. -/
namespace Go.Proofs.Ytogjmafjoliimaa
open Go Go.RowKit

structure SS (l : List Nd) where
  i : Nat
  pre : List (List Nd)
  cur : List Nd
  hi : i ≤ l.length
  h1 : pre.length ≤ i
  h2 : cur.length ≤ i
  eq : splitG (l.drop i) pre cur = splitF l
def nds (l : List Nd) : D := .sl 7 (l.map nF)
theorem nds_fine (l : List Nd) : (nds l).fine := by rw [nds, D.fine]; trivial
set_option maxHeartbeats 2000000 in
theorem split_ok (n : Nat) (l : List Nd) (hn : nszs l < n) (hb : n ≤ 1099511627776) : PCalls Try.prog 16 [.sl 7 (l.map nF)] (.sl 1 ((splitF l).map nds)) := by
  refine p_start Try.func16 Try.ntmps16 rfl rfl rfl fun S w => ?_
  have hll := nszs_len l
  have hlm : (l.map nF).length = l.length := List.length_map _
  repeat (first
    | refine awp_seq ?_
    | refine a_region ?_
    | refine r_done ?_
    | (refine r_id ?_; first
      | refine r_ev tab_ok rfl rfl rfl rfl (by first | exact trivial | exact ⟨by omega, by omega⟩ | omega | exact ⟨by omega, by omega, by omega, by omega⟩ | exact Nat.le_of_ble_eq_true rfl) rfl ?_))
  refine r_built_row tab_ok rfl rfl rfl rfl rfl rfl rfl rfl rfl ?_
  repeat (first
    | refine awp_seq ?_
    | refine a_region ?_
    | refine r_done ?_
    | (refine r_id ?_; first
      | refine r_ev tab_ok rfl rfl rfl rfl (by first | exact trivial | exact ⟨by omega, by omega⟩ | omega | exact ⟨by omega, by omega, by omega, by omega⟩ | exact Nat.le_of_ble_eq_true rfl) rfl ?_))
  refine r_call (copy_ok n l hn hb) call25 rfl rfl ⟨Sub.refl _, trivial⟩ rfl rfl rfl rfl ?_
  repeat (first
    | refine thenA_normal ?_
    | refine awp_block ?_
    | refine r_done ?_
    | (refine r_id ?_; first
      | refine r_len tab_ok rfl rfl rfl rfl rfl rfl rfl ?_
      | refine r_ev tab_ok rfl rfl rfl rfl (by first | exact trivial | exact ⟨by omega, by omega⟩ | omega | exact ⟨by omega, by omega, by omega, by omega⟩ | exact Nat.le_of_ble_eq_true rfl) rfl ?_))
  refine a_loop (σ := SS l) (fun x => [.rowo 0 23 1 (x.pre.map nds) 1 [.row 1 0], .row 0 36 7 (x.cur.map nF)]) (fun x => [(3, .row 0 0), (8, .sl 7 (l.map nF)), (9, .val (.int .i64 l.length)), (10, .val (.int .i64 x.i))]) (fun x => l.length - x.i) ⟨0, [], [], Nat.zero_le _, Nat.le_refl _, Nat.le_refl _, rfl⟩
    (fits_trans (fits_open (i := 0) (pre := []) rfl) (fits_conv (by repeat' first | exact trivial | exact rfl | (rw [List.map_append]; first | done | rfl) | exact c_sub rfl (Sub.refl _) rfl | exact c_nil rfl rfl | exact c_thaw rfl rfl rfl | exact c_row rfl rfl rfl | exact c_row rfl rfl (by rw [List.map_append]; first | done | rfl) | exact c_ptr rfl rfl rfl rfl | exact Or.inl ⟨c_sub rfl (Sub.refl _) rfl, c_ptr rfl rfl rfl rfl⟩ | exact c_alt rfl rfl rfl rfl | exact c_ro rfl rfl | exact c_eo rfl rfl | exact c_sub rfl (Sub.altl _ _) rfl | exact c_sub rfl (Sub.nil _) rfl | refine ⟨_, _, rfl, ?_, ?_⟩ | apply And.intro) (by repeat' first | exact trivial | exact rfl | (rw [List.map_append]; first | done | rfl) | exact c_sub rfl (Sub.refl _) rfl | exact c_nil rfl rfl | exact c_thaw rfl rfl rfl | exact c_row rfl rfl rfl | exact c_row rfl rfl (by rw [List.map_append]; first | done | rfl) | exact c_ptr rfl rfl rfl rfl | exact Or.inl ⟨c_sub rfl (Sub.refl _) rfl, c_ptr rfl rfl rfl rfl⟩ | exact c_alt rfl rfl rfl rfl | exact c_ro rfl rfl | exact c_eo rfl rfl | exact c_sub rfl (Sub.altl _ _) rfl | exact c_sub rfl (Sub.nil _) rfl | refine ⟨_, _, rfl, ?_, ?_⟩ | apply And.intro))) ?_
  rintro ⟨i, pre, cur, hi, h1, h2, heq⟩
  dsimp only
  have hpl : (pre.map nds).length = pre.length := List.length_map _
  have hcl : (cur.map nF).length = cur.length := List.length_map _
  repeat (first
    | refine awp_seq ?_
    | refine a_region ?_
    | refine r_done ?_
    | (refine r_id ?_; first
      | refine r_ev tab_ok rfl rfl rfl rfl (by first | exact trivial | exact ⟨by omega, by omega⟩ | omega | exact ⟨by omega, by omega, by omega, by omega⟩ | exact Nat.le_of_ble_eq_true rfl) rfl ?_))
  refine awp_cond_p rfl (fun hlt => ?_) (fun hge => ?_)
  · have hlt' : i < l.length := by omega
    have hi' : ((i : Nat) : Int).toNat < l.length := by simp only [Int.toNat_natCast]; exact hlt'
    rw [List.drop_eq_getElem_cons hlt', splitG] at heq
    repeat (first
      | refine awp_seq ?_
      | refine thenA_normal ?_
      | refine awp_block ?_
      | refine a_region ?_
      | refine awp_skip ?_
      | refine r_done ?_
      | (refine r_id ?_; first
        | refine r_ev tab_ok rfl rfl rfl rfl (by first | exact trivial | exact ⟨by omega, by omega⟩ | omega | exact ⟨by omega, by omega, by omega, by omega⟩ | exact Nat.le_of_ble_eq_true rfl) rfl ?_
        | refine r_ld tab_ok rfl rfl rfl rfl rfl ?_
        | refine r_idx tab_ok rfl rfl rfl rfl rfl rfl rfl (by first | exact ⟨by omega, by omega⟩ | (simp; omega)) rfl rfl ?_
        | refine r_wr tab_ok rfl rfl rfl rfl rfl ?_
        | refine r_st tab_ok rfl rfl rfl rfl ?_))
    refine awp_cond rfl (fun hc => ?_) (fun hc => ?_)
    · simp only [Int.toNat_natCast] at hc
      rw [if_pos (show cmB l[i] = true from hc)] at heq
      refine awp_fits (s' := ⟨[.rowo 0 23 1 (pre.map nds) 1 [.row 1 0], .row 0 36 7 (cur.map nF)], [(3, .row 0 0), (5, .dptr (ncl (l[((i : Nat) : Int).toNat]'hi'))), (8, .sl 7 (l.map nF)), (9, .val (.int .i64 l.length)), (10, .val (.int .i64 i))]⟩) (fits_trans (fits_sinkp (i := 2) (d := 5) rfl rfl rfl) (fits_drop 2 rfl rfl ⟨⟨rfl, Sub.refl _⟩, ⟨rfl, Sub.refl _⟩, ⟨rfl, Sub.refl _⟩, ⟨rfl, Sub.refl _⟩, ⟨rfl, Sub.refl _⟩, trivial⟩)) ?_
      repeat (first
        | refine awp_seq ?_
        | refine a_region ?_
        | (refine r_id ?_; first
          | refine r_ev tab_ok rfl rfl rfl rfl (by first | exact trivial | exact ⟨by omega, by omega⟩ | omega | exact ⟨by omega, by omega, by omega, by omega⟩ | exact Nat.le_of_ble_eq_true rfl) rfl ?_
          | refine r_built tab_ok rfl rfl rfl rfl rfl rfl rfl rfl rfl ?_))
      refine r_append_o tab_ok rfl rfl rfl rfl rfl rfl rfl rfl rfl (by rw [hpl]; show (pre.length + 1 + 1) * 24 ≤ 140737488355328; omega) rfl rfl ?_
      repeat (first
        | refine thenA_normal ?_
        | refine a_region ?_
        | refine awp_exit ?_
        | refine r_done ?_
        | (refine r_id ?_; first
          | refine r_ev tab_ok rfl rfl rfl rfl (by first | exact trivial | exact ⟨by omega, by omega⟩ | omega | exact ⟨by omega, by omega, by omega, by omega⟩ | exact Nat.le_of_ble_eq_true rfl) rfl ?_))
      refine ⟨⟨i + 1, pre ++ [cur], [], hlt', by rw [List.length_append, List.length_singleton]; omega, Nat.zero_le _, heq⟩, by dsimp only; omega, ?_⟩
      dsimp only
      rw [List.map_append]
      refine fits_trans (s' := ⟨[.rowo 0 23 1 (pre.map nds) 2 [.sl 7 (cur.map nF), .val (.slice none 0 0)], .gone], [(3, .row 0 0), (8, .sl 7 (l.map nF)), (9, .val (.int .i64 l.length)), (10, .val (.int .i64 ((i + 1 : Nat) : Int)))]⟩) (fits_conv (by repeat' first | exact trivial | exact rfl | (rw [List.map_append]; first | done | rfl) | exact c_sub rfl (Sub.refl _) rfl | exact c_nil rfl rfl | exact c_thaw rfl rfl rfl | exact c_row rfl rfl rfl | exact c_row rfl rfl (by rw [List.map_append]; first | done | rfl) | exact c_ptr rfl rfl rfl rfl | exact Or.inl ⟨c_sub rfl (Sub.refl _) rfl, c_ptr rfl rfl rfl rfl⟩ | exact c_alt rfl rfl rfl rfl | exact c_ro rfl rfl | exact c_eo rfl rfl | exact c_sub rfl (Sub.altl _ _) rfl | exact c_sub rfl (Sub.nil _) rfl | refine ⟨_, _, rfl, ?_, ?_⟩ | apply And.intro) (by repeat' first | exact trivial | exact rfl | (rw [List.map_append]; first | done | rfl) | exact c_sub rfl (Sub.refl _) rfl | exact c_nil rfl rfl | exact c_thaw rfl rfl rfl | exact c_row rfl rfl rfl | exact c_row rfl rfl (by rw [List.map_append]; first | done | rfl) | exact c_ptr rfl rfl rfl rfl | exact Or.inl ⟨c_sub rfl (Sub.refl _) rfl, c_ptr rfl rfl rfl rfl⟩ | exact c_alt rfl rfl rfl rfl | exact c_ro rfl rfl | exact c_eo rfl rfl | exact c_sub rfl (Sub.altl _ _) rfl | exact c_sub rfl (Sub.nil _) rfl | refine ⟨_, _, rfl, ?_, ?_⟩ | apply And.intro)) ?_
      refine fits_trans (fits_shut (i := 0) (nds cur) rfl (nds_fine cur) rfl) ?_
      refine fits_trans (s' := ⟨[.rowo 0 23 1 (pre.map nds ++ [nds cur]) 1 [.val (.slice none 0 0)]], [(3, .row 0 0), (8, .sl 7 (l.map nF)), (9, .val (.int .i64 l.length)), (10, .val (.int .i64 ((i + 1 : Nat) : Int)))]⟩) (fits_drop 1 rfl rfl ⟨⟨rfl, Sub.refl _⟩, ⟨rfl, Sub.refl _⟩, ⟨rfl, Sub.refl _⟩, ⟨rfl, Sub.refl _⟩, trivial⟩) ?_
      exact fits_conv (by repeat' first | exact trivial | exact rfl | (rw [List.map_append]; first | done | rfl) | exact c_sub rfl (Sub.refl _) rfl | exact c_nil rfl rfl | exact c_thaw rfl rfl rfl | exact c_row rfl rfl rfl | exact c_row rfl rfl (by rw [List.map_append]; first | done | rfl) | exact c_ptr rfl rfl rfl rfl | exact Or.inl ⟨c_sub rfl (Sub.refl _) rfl, c_ptr rfl rfl rfl rfl⟩ | exact c_alt rfl rfl rfl rfl | exact c_ro rfl rfl | exact c_eo rfl rfl | exact c_sub rfl (Sub.altl _ _) rfl | exact c_sub rfl (Sub.nil _) rfl | refine ⟨_, _, rfl, ?_, ?_⟩ | apply And.intro) (by repeat' first | exact trivial | exact rfl | (rw [List.map_append]; first | done | rfl) | exact c_sub rfl (Sub.refl _) rfl | exact c_nil rfl rfl | exact c_thaw rfl rfl rfl | exact c_row rfl rfl rfl | exact c_row rfl rfl (by rw [List.map_append]; first | done | rfl) | exact c_ptr rfl rfl rfl rfl | exact Or.inl ⟨c_sub rfl (Sub.refl _) rfl, c_ptr rfl rfl rfl rfl⟩ | exact c_alt rfl rfl rfl rfl | exact c_ro rfl rfl | exact c_eo rfl rfl | exact c_sub rfl (Sub.altl _ _) rfl | exact c_sub rfl (Sub.nil _) rfl | refine ⟨_, _, rfl, ?_, ?_⟩ | apply And.intro)
    · simp only [Int.toNat_natCast] at hc
      rw [if_neg (by rw [show cmB l[i] = false from hc]; decide)] at heq
      refine awp_fits (s' := ⟨[.rowo 0 23 1 (pre.map nds) 1 [.row 1 0], .row 0 36 7 (cur.map nF)], [(3, .row 0 0), (5, .dptr (ncl (l[((i : Nat) : Int).toNat]'hi'))), (8, .sl 7 (l.map nF)), (9, .val (.int .i64 l.length)), (10, .val (.int .i64 i))]⟩) (fits_trans (fits_sinkp (i := 2) (d := 5) rfl rfl rfl) (fits_drop 2 rfl rfl ⟨⟨rfl, Sub.refl _⟩, ⟨rfl, Sub.refl _⟩, ⟨rfl, Sub.refl _⟩, ⟨rfl, Sub.refl _⟩, ⟨rfl, Sub.refl _⟩, trivial⟩)) ?_
      repeat (first
        | refine awp_seq ?_
        | refine awp_skip ?_)
      refine a_coin tab_ok mixed_ok rfl rfl rfl rfl rfl rfl rfl rfl rfl rfl rfl rfl rfl rfl rfl rfl rfl (by kernel_rfl) (by kernel_rfl) (by kernel_rfl) (by kernel_rfl) (by kernel_rfl) (by kernel_rfl) (fun b => rfl) (fun b => ?_)
      refine awp_fits (s' := ⟨[.rowo 0 23 1 (pre.map nds) 1 [.row 1 0], .row 0 36 7 (cur.map nF)], [(3, .row 0 0), (5, .dptr (ncl (l[((i : Nat) : Int).toNat]'hi'))), (8, .sl 7 (l.map nF)), (9, .val (.int .i64 l.length)), (10, .val (.int .i64 i)), (22, .val (.bool b))]⟩) (fits_drop 2 rfl rfl ⟨⟨rfl, Sub.refl _⟩, ⟨rfl, Sub.refl _⟩, ⟨rfl, Sub.refl _⟩, ⟨rfl, Sub.refl _⟩, ⟨rfl, Sub.refl _⟩, ⟨rfl, Sub.refl _⟩, trivial⟩) ?_
      have hj : ((((pre.map nds).length + 1 : Nat) : Int) - 1).toNat = (pre.map nds).length := by omega
      have hclt : ((((cur.map nF).length : Nat) : Int)).toNat = (cur.map nF).length := Int.toNat_natCast _
      refine awp_cond rfl (fun hb => ?_) (fun hb => ?_)
      · subst hb
        repeat (first
          | refine awp_seq ?_)
        refine a_draw rfl (List.replicate 13 1 ++ [2, 1, 2]) (by kernel_rfl) ?_
        repeat (first
          | (refine r_id ?_; first
            | refine r_ev tab_ok rfl rfl rfl rfl (by first | exact trivial | exact ⟨by omega, by omega⟩ | omega | exact ⟨by omega, by omega, by omega, by omega⟩ | exact Nat.le_of_ble_eq_true rfl) rfl ?_)
          | refine r_len_o tab_ok rfl rfl rfl rfl rfl rfl rfl rfl ?_)
        refine r_idx_o tab_ok rfl rfl rfl rfl rfl rfl rfl rfl (by omega) (by omega) rfl ?_
        rw [hj]
        refine r_ld_o tab_ok rfl rfl rfl rfl rfl (o' := 0) rfl rfl rfl rfl rfl ?_
        repeat (first
          | (refine r_id ?_; first
            | refine r_ev tab_ok rfl rfl rfl rfl (by first | exact trivial | exact ⟨by omega, by omega⟩ | omega | exact ⟨by omega, by omega, by omega, by omega⟩ | exact Nat.le_of_ble_eq_true rfl) rfl ?_
            | refine r_ld tab_ok rfl rfl rfl rfl rfl ?_))
        refine r_by1 (AStep.sub (astep_buildSlice (ρ := unagg _) (ds := [zD]) tab_ok rfl rfl rfl rfl rfl) (fun x _ => unagg_sub _ x)) rfl rfl rfl rfl rfl ?_
        refine r_append tab_ok rfl rfl rfl rfl rfl rfl rfl rfl rfl (by rw [hcl]; simp; omega) rfl ?_
        refine r_idx_o tab_ok rfl rfl rfl rfl rfl rfl rfl rfl (by omega) (by omega) rfl ?_
        rw [hj]
        refine r_by2n (astep_store_o tab_ok rfl rfl rfl rfl (o' := 0) rfl rfl rfl rfl) rfl rfl rfl ?_
        repeat (first
          | refine thenA_normal ?_
          | refine a_region ?_
          | refine r_done' ?_)
        refine r_idxr tab_ok rfl rfl rfl rfl rfl rfl rfl rfl ⟨by omega, by rw [hclt, List.length_append]; exact Nat.lt_succ_self _⟩ rfl ?_
        refine r_by2n (astep_store_e (d := zD) (xd := nF (l[((i : Nat) : Int).toNat]'hi')) (r := nF (l[((i : Nat) : Int).toNat]'hi')) tab_ok rfl rfl rfl rfl (by rw [hclt, List.getElem?_append_right (Nat.le_refl _), Nat.sub_self]; rfl) rfl rfl rfl rfl rfl) rfl rfl rfl ?_
        repeat (first
          | refine thenA_normal ?_
          | refine a_region ?_
          | refine r_done ?_
          | (refine r_id ?_; first
            | refine r_ev tab_ok rfl rfl rfl rfl (by first | exact trivial | exact ⟨by omega, by omega⟩ | omega | exact ⟨by omega, by omega, by omega, by omega⟩ | exact Nat.le_of_ble_eq_true rfl) rfl ?_))
        refine ⟨⟨i + 1, pre, cur ++ [l[i]], hlt', by omega, by rw [List.length_append, List.length_singleton]; omega, heq⟩, by dsimp only; omega, ?_⟩
        dsimp only
        rw [List.map_append]
        have e : (cur.map nF ++ [zD]).set ((((cur.map nF).length : Nat) : Int)).toNat (nF l[i]) = cur.map nF ++ [l[i]].map nF := by rw [hclt, List.set_append_right _ _ (Nat.le_refl _), Nat.sub_self]; rfl
        rw [← e]
        exact fits_conv (by repeat' first | exact trivial | exact rfl | (rw [List.map_append]; first | done | rfl) | exact c_sub rfl (Sub.refl _) rfl | exact c_nil rfl rfl | exact c_thaw rfl rfl rfl | exact c_row rfl rfl rfl | exact c_row rfl rfl (by rw [List.map_append]; first | done | rfl) | exact c_ptr rfl rfl rfl rfl | exact Or.inl ⟨c_sub rfl (Sub.refl _) rfl, c_ptr rfl rfl rfl rfl⟩ | exact c_alt rfl rfl rfl rfl | exact c_ro rfl rfl | exact c_eo rfl rfl | exact c_sub rfl (Sub.altl _ _) rfl | exact c_sub rfl (Sub.nil _) rfl | refine ⟨_, _, rfl, ?_, ?_⟩ | apply And.intro) (by repeat' first | exact trivial | exact rfl | (rw [List.map_append]; first | done | rfl) | exact c_sub rfl (Sub.refl _) rfl | exact c_nil rfl rfl | exact c_thaw rfl rfl rfl | exact c_row rfl rfl rfl | exact c_row rfl rfl (by rw [List.map_append]; first | done | rfl) | exact c_ptr rfl rfl rfl rfl | exact Or.inl ⟨c_sub rfl (Sub.refl _) rfl, c_ptr rfl rfl rfl rfl⟩ | exact c_alt rfl rfl rfl rfl | exact c_ro rfl rfl | exact c_eo rfl rfl | exact c_sub rfl (Sub.altl _ _) rfl | exact c_sub rfl (Sub.nil _) rfl | refine ⟨_, _, rfl, ?_, ?_⟩ | apply And.intro)
      · subst hb
        refine a_draw rfl [0, 0, 11, 0, 1, 1, 1, 1, 1, 1, 1, 1, 12, 1, 2] (by kernel_rfl) ?_
        repeat (first
          | (refine r_id ?_; first
            | refine r_ev tab_ok rfl rfl rfl rfl (by first | exact trivial | exact ⟨by omega, by omega⟩ | omega | exact ⟨by omega, by omega, by omega, by omega⟩ | exact Nat.le_of_ble_eq_true rfl) rfl ?_))
        refine r_byrd 1 (fun M2 h => astep_len_o tab_ok rfl rfl rfl (agree_at 0 h rfl rfl)) rfl rfl rfl rfl rfl ?_
        repeat (first
          | (refine r_id ?_; first
            | refine r_ev tab_ok rfl rfl rfl rfl (by first | exact trivial | exact ⟨by omega, by omega⟩ | omega | exact ⟨by omega, by omega, by omega, by omega⟩ | exact Nat.le_of_ble_eq_true rfl) rfl ?_)
          | refine r_len_o tab_ok rfl rfl rfl rfl rfl rfl rfl rfl ?_)
        refine r_idx_o tab_ok rfl rfl rfl rfl rfl rfl rfl rfl (by omega) (by omega) rfl ?_
        rw [hj]
        refine r_ld_o tab_ok rfl rfl rfl rfl rfl (o' := 0) rfl rfl rfl rfl rfl ?_
        repeat (first
          | (refine r_id ?_; first
            | refine r_ev tab_ok rfl rfl rfl rfl (by first | exact trivial | exact ⟨by omega, by omega⟩ | omega | exact ⟨by omega, by omega, by omega, by omega⟩ | exact Nat.le_of_ble_eq_true rfl) rfl ?_
            | refine r_built tab_ok rfl rfl rfl rfl rfl rfl rfl rfl rfl ?_))
        refine r_bykp 1 (astep_append tab_ok rfl rfl rfl rfl rfl rfl (by rw [hcl]; simp; omega)) (agree_set rfl) rfl rfl rfl rfl rfl ?_
        refine r_idx_o tab_ok rfl rfl rfl rfl rfl rfl rfl rfl (by omega) (by omega) rfl ?_
        rw [hj]
        refine r_by2n (astep_store_o tab_ok rfl rfl rfl rfl (o' := 0) rfl rfl rfl rfl) rfl rfl rfl ?_
        repeat (first
          | refine thenA_normal ?_
          | refine a_region ?_
          | refine r_done ?_
          | refine r_done' ?_
          | (refine r_id ?_; first
            | refine r_ev tab_ok rfl rfl rfl rfl (by first | exact trivial | exact ⟨by omega, by omega⟩ | omega | exact ⟨by omega, by omega, by omega, by omega⟩ | exact Nat.le_of_ble_eq_true rfl) rfl ?_))
        refine ⟨⟨i + 1, pre, cur ++ [l[i]], hlt', by omega, by rw [List.length_append, List.length_singleton]; omega, heq⟩, by dsimp only; omega, ?_⟩
        dsimp only
        rw [List.map_append]
        exact fits_conv (by repeat' first | exact trivial | exact rfl | (rw [List.map_append]; first | done | rfl) | exact c_sub rfl (Sub.refl _) rfl | exact c_nil rfl rfl | exact c_thaw rfl rfl rfl | exact c_row rfl rfl rfl | exact c_row rfl rfl (by rw [List.map_append]; first | done | rfl) | exact c_ptr rfl rfl rfl rfl | exact Or.inl ⟨c_sub rfl (Sub.refl _) rfl, c_ptr rfl rfl rfl rfl⟩ | exact c_alt rfl rfl rfl rfl | exact c_ro rfl rfl | exact c_eo rfl rfl | exact c_sub rfl (Sub.altl _ _) rfl | exact c_sub rfl (Sub.nil _) rfl | refine ⟨_, _, rfl, ?_, ?_⟩ | apply And.intro) (by repeat' first | exact trivial | exact rfl | (rw [List.map_append]; first | done | rfl) | exact c_sub rfl (Sub.refl _) rfl | exact c_nil rfl rfl | exact c_thaw rfl rfl rfl | exact c_row rfl rfl rfl | exact c_row rfl rfl (by rw [List.map_append]; first | done | rfl) | exact c_ptr rfl rfl rfl rfl | exact Or.inl ⟨c_sub rfl (Sub.refl _) rfl, c_ptr rfl rfl rfl rfl⟩ | exact c_alt rfl rfl rfl rfl | exact c_ro rfl rfl | exact c_eo rfl rfl | exact c_sub rfl (Sub.altl _ _) rfl | exact c_sub rfl (Sub.nil _) rfl | refine ⟨_, _, rfl, ?_, ?_⟩ | apply And.intro)
  · rw [List.drop_of_length_le (by omega), splitG] at heq
    rw [← heq, List.map_append]
    refine awp_fits (s' := ⟨[.rowo 0 23 1 (pre.map nds) 1 [.sl 7 (cur.map nF)], .gone], [(3, .row 0 0)]⟩) (fits_conv (by repeat' first | exact trivial | exact rfl | (rw [List.map_append]; first | done | rfl) | exact c_sub rfl (Sub.refl _) rfl | exact c_nil rfl rfl | exact c_thaw rfl rfl rfl | exact c_row rfl rfl rfl | exact c_row rfl rfl (by rw [List.map_append]; first | done | rfl) | exact c_ptr rfl rfl rfl rfl | exact Or.inl ⟨c_sub rfl (Sub.refl _) rfl, c_ptr rfl rfl rfl rfl⟩ | exact c_alt rfl rfl rfl rfl | exact c_ro rfl rfl | exact c_eo rfl rfl | exact c_sub rfl (Sub.altl _ _) rfl | exact c_sub rfl (Sub.nil _) rfl | refine ⟨_, _, rfl, ?_, ?_⟩ | apply And.intro) (by repeat' first | exact trivial | exact rfl | (rw [List.map_append]; first | done | rfl) | exact c_sub rfl (Sub.refl _) rfl | exact c_nil rfl rfl | exact c_thaw rfl rfl rfl | exact c_row rfl rfl rfl | exact c_row rfl rfl (by rw [List.map_append]; first | done | rfl) | exact c_ptr rfl rfl rfl rfl | exact Or.inl ⟨c_sub rfl (Sub.refl _) rfl, c_ptr rfl rfl rfl rfl⟩ | exact c_alt rfl rfl rfl rfl | exact c_ro rfl rfl | exact c_eo rfl rfl | exact c_sub rfl (Sub.altl _ _) rfl | exact c_sub rfl (Sub.nil _) rfl | refine ⟨_, _, rfl, ?_, ?_⟩ | apply And.intro)) ?_
    refine awp_fits (fits_close (i := 0) (nds cur) 3 rfl rfl rfl (nds_fine cur)) ?_
    repeat (first
      | refine awp_seq ?_
      | refine thenA_normal ?_
      | refine a_region ?_
      | refine awp_ret ?_
      | refine awp_exit ?_
      | refine r_done ?_
      | (refine r_id ?_; first
        | refine r_ev tab_ok rfl rfl rfl rfl (by first | exact trivial | exact ⟨by omega, by omega⟩ | omega | exact ⟨by omega, by omega, by omega, by omega⟩ | exact Nat.le_of_ble_eq_true rfl) rfl ?_)
      | refine ret1 (by first | exact .inl rfl | exact .inr rfl) rfl rfl rfl ?_)
    exact Sub.refl _
end Go.Proofs.Ytogjmafjoliimaa

/- nest: the tokens of a text; awake. -/
namespace Go.Proofs.Ytogjmafjoliimaa
open Go Go.RowKit

theorem toksF_len (L : List Int) : (toksF L).length ≤ L.length := by
  obtain ⟨r, j, h1, h2, h3, h4, h5⟩ := goAt_end (tStep_goes L) L.length 0 (Nat.zero_le _) (by omega)
  rw [toksF]
  omega
def toks (s : ByteArray) : List Tk := toksF (readL s)
theorem toks_len (s : ByteArray) : (toks s).length ≤ s.size := Nat.le_trans (toksF_len _) (readL_len s)
set_option maxHeartbeats 1000000 in
theorem text_ok (s : ByteArray) (hs : s.size ≤ 549755813888) : PCalls Try.prog 10 [.val (.string s)] (.sl 6 ((toks s).map tD)) := by
  refine p_start Try.func10 Try.ntmps10 rfl rfl rfl fun S w => ?_
  repeat (first
    | refine awp_seq ?_
    | refine a_region ?_
    | refine r_done ?_
    | (refine r_id ?_; first
      | refine r_ev tab_ok rfl rfl rfl rfl (by first | exact trivial | exact ⟨by omega, by omega⟩ | omega | exact ⟨by omega, by omega, by omega, by omega⟩ | exact Nat.le_of_ble_eq_true rfl) rfl ?_
      | refine r_strd tab_ok rfl rfl rfl rfl rfl rfl (by omega) rfl rfl rfl ?_))
  refine r_call (refRead s.data.toList (by have : s.data.toList.length = s.size := rfl; omega)) call20 rfl rfl ⟨Sub.refl _, trivial⟩ rfl rfl rfl rfl ?_
  have hl := readL_len s
  refine r_call (tokens_ok (readL s) (by omega)) call19 rfl rfl ⟨Sub.refl _, trivial⟩ rfl rfl rfl rfl ?_
  repeat (first
    | refine thenA_normal ?_
    | refine awp_ret ?_
    | refine r_done ?_
    | (refine r_id ?_; first
      | refine r_ev tab_ok rfl rfl rfl rfl (by first | exact trivial | exact ⟨by omega, by omega⟩ | omega | exact ⟨by omega, by omega, by omega, by omega⟩ | exact Nat.le_of_ble_eq_true rfl) rfl ?_)
    | refine ret1 (by first | exact .inl rfl | exact .inr rfl) rfl rfl rfl ?_)
  exact Sub.refl _
def c1 : ByteArray := ⟨#[0x66, 0x28, 0x61, 0x2c, 0x20, 0x62, 0x29, 0x20, 0x7b, 0x63]⟩
def c2 : ByteArray := ⟨#[0x5b, 0x78, 0x5d, 0x79]⟩
def c3 : ByteArray := ⟨#[0x20, 0x61, 0x20]⟩
def idN (s : ByteArray) : Nd := .mk (tkK 1 s) []
def whT : Tk := tkK 13 ⟨#[]⟩
def l1 : List Nd := [.mk (tkK 2 ⟨#[0x66]⟩) [idN ⟨#[0x61]⟩, .mk (tkK 18 ⟨#[]⟩) [], .mk whT [], idN ⟨#[0x62]⟩], .mk whT [], .mk (tkK 19 ⟨#[0x7b]⟩) [idN ⟨#[0x63]⟩]]
theorem tok2 : toks c2 = [tkK 19 ⟨#[0x5b]⟩, tkK 1 ⟨#[0x78]⟩, tkK 20 ⟨#[0x5d]⟩, tkK 1 ⟨#[0x79]⟩] := by kernel_rfl
theorem aw1 : allA (toks c1) 0 = l1 := by kernel_rfl
theorem aw2 : oneS ((toks c2).drop 0) [] 0 = (.mk (tkK 19 ⟨#[0x5b]⟩) [idN ⟨#[0x78]⟩], 3) := by kernel_rfl
theorem aw3 : allA (toks c3) 0 = [.mk whT [], idN ⟨#[0x61]⟩, .mk whT []] := by kernel_rfl
theorem awAll : PCalls Try.prog 9 [.sl 6 ((toks c1).map tD)] (.sl 7 (l1.map nF)) := by
  rw [← aw1]
  exact all_ok _ (Nat.le_trans (toks_len _) (by decide))
theorem awOne : PCalls Try.prog 17 [.sl 6 ((toks c2).map tD), .val (.int .i64 0)] (.tup [nA (.mk (tkK 19 ⟨#[0x5b]⟩) [idN ⟨#[0x78]⟩]), .val (.int .i64 3)]) := by
  have := one_ok (toks c2) 0 (Nat.le_trans (toks_len _) (by decide)) (by decide)
  rw [aw2] at this
  exact this
theorem awOne3 : PCalls Try.prog 17 [.sl 6 [], .val (.int .i64 3)] (.tup [nA zN, .val (.int .i64 3)]) := one_out [] 3 (by decide) (by decide) (by decide)
theorem awDeep : PCalls Try.prog 11 [.sl 7 (l1.map nF)] (.val (.int .i64 2)) := by
  have := deep_ok 100 l1 (by decide) (by decide)
  rw [show deepF l1 = 2 by rfl] at this
  exact this
theorem awSplit : PCalls Try.prog 16 [.sl 7 ((l1[0]'(by decide)).kids.map nD)] (.sl 1 ([[idN ⟨#[0x61]⟩], [.mk whT [], idN ⟨#[0x62]⟩]].map nds)) := by
  rw [nD_fun]
  exact split_ok 100 _ (by decide) (by decide)
theorem awAll3 : PCalls Try.prog 9 [.sl 6 ((toks c3).map tD)] (.sl 7 ([.mk whT [], idN ⟨#[0x61]⟩, .mk whT []].map nF)) := by
  rw [← aw3]
  exact all_ok _ (Nat.le_trans (toks_len _) (by decide))
theorem awTrim : PCalls Try.prog 18 [.sl 7 ([.mk whT [], idN ⟨#[0x61]⟩, .mk whT []].map nF)] (.sl 7 ([idN ⟨#[0x61]⟩].map nF)) := trim_ok 100 _ (by decide) (by decide)
theorem awFlat : PCalls Try.prog 12 [.sl 7 (l1.map nF)] (.sl 6 ((flatF l1).map tD)) := flat_ok 100 _ (by decide) (by decide)
theorem awSame : PCalls Try.prog 13 [.sl 7 (l1.map nF), .sl 7 (l1.map nF)] (.val (.bool true)) := by
  have := same_ok 100 l1 l1 (by decide) (by decide)
  rw [sameL_self] at this
  exact this
theorem awSame0 : PCalls Try.prog 13 [.sl 7 (l1.map nF), .sl 7 []] (.val (.bool false)) := by
  have := same_ok 100 l1 [] (by decide) (by decide)
  rw [sameL_no (by intro h; cases h)] at this
  exact this
set_option maxHeartbeats 4000000 in
theorem awake_ok : PCalls Try.prog 8 [] (.val (.bool true)) := by
  refine p_start Try.func8 Try.ntmps8 rfl rfl rfl fun S w => ?_
  repeat (first
    | refine awp_seq ?_
    | refine a_region ?_
    | refine r_done ?_
    | (refine r_id ?_; first
      | refine r_ev tab_ok rfl rfl rfl rfl (by first | exact trivial | exact ⟨by omega, by omega⟩ | omega | exact ⟨by omega, by omega, by omega, by omega⟩ | exact Nat.le_of_ble_eq_true rfl) rfl ?_))
  refine r_call (text_ok c1 (by decide)) call10 rfl rfl ⟨Sub.refl _, trivial⟩ rfl rfl rfl rfl ?_
  refine r_call awAll call9 rfl rfl ⟨Sub.refl _, trivial⟩ rfl rfl rfl rfl ?_
  repeat (first
    | refine awp_seq ?_
    | refine a_region ?_
    | refine r_done ?_
    | (refine r_id ?_; first
      | refine r_ev tab_ok rfl rfl rfl rfl (by first | exact trivial | exact ⟨by omega, by omega⟩ | omega | exact ⟨by omega, by omega, by omega, by omega⟩ | exact Nat.le_of_ble_eq_true rfl) rfl ?_))
  refine r_call (text_ok c2 (by decide)) call10 rfl rfl ⟨Sub.refl _, trivial⟩ rfl rfl rfl rfl ?_
  refine r_call awOne call17 rfl rfl ⟨Sub.refl _, Sub.refl _, trivial⟩ rfl rfl rfl rfl ?_
  repeat (first
    | refine awp_seq ?_
    | refine a_region ?_
    | refine r_done ?_
    | (refine r_id ?_; first
      | refine r_ev tab_ok rfl rfl rfl rfl (by first | exact trivial | exact ⟨by omega, by omega⟩ | omega | exact ⟨by omega, by omega, by omega, by omega⟩ | exact Nat.le_of_ble_eq_true rfl) rfl ?_
      | refine r_wr tab_ok rfl rfl rfl rfl rfl ?_
      | refine r_st tab_ok rfl rfl rfl rfl ?_))
  refine r_call awOne3 call17 rfl rfl ⟨Sub.nil _, Sub.refl _, trivial⟩ rfl rfl rfl rfl ?_
  repeat (first
    | refine awp_seq ?_
    | refine a_region ?_
    | refine r_done ?_
    | (refine r_id ?_; first
      | refine r_len tab_ok rfl rfl rfl rfl rfl rfl rfl ?_
      | refine r_ev tab_ok rfl rfl rfl rfl (by first | exact trivial | exact ⟨by omega, by omega⟩ | omega | exact ⟨by omega, by omega, by omega, by omega⟩ | exact Nat.le_of_ble_eq_true rfl) rfl ?_
      | refine r_idxd tab_ok rfl rfl rfl rfl rfl rfl rfl (by decide) rfl rfl rfl ?_
      | refine r_wr tab_ok rfl rfl rfl rfl rfl ?_
      | refine r_st tab_ok rfl rfl rfl rfl ?_
      | refine r_pick_t rfl rfl rfl rfl rfl rfl rfl ?_
      | refine r_len_on tab_ok rfl rfl rfl rfl rfl rfl rfl rfl rfl ?_
      | refine r_ev_on tab_ok rfl rfl rfl rfl rfl rfl (by first | exact trivial | exact ⟨by omega, by omega⟩ | omega) rfl ?_
      | refine r_ld_on tab_ok rfl rfl rfl rfl rfl rfl rfl ?_
      | refine r_build tab_ok rfl rfl rfl rfl rfl rfl ?_)
    | refine r_g rfl rfl rfl ?_)
  refine r_eqT (c := tk0) (d := tk0) rfl rfl rfl rfl rfl rfl rfl ?_
  repeat (first
    | (refine r_id ?_; first
      | refine r_ev tab_ok rfl rfl rfl rfl (by first | exact trivial | exact ⟨by omega, by omega⟩ | omega | exact ⟨by omega, by omega, by omega, by omega⟩ | exact Nat.le_of_ble_eq_true rfl) rfl ?_
      | refine r_pick_t rfl rfl rfl rfl rfl rfl rfl ?_
      | refine r_ev_on tab_ok rfl rfl rfl rfl rfl rfl (by first | exact trivial | exact ⟨by omega, by omega⟩ | omega) rfl ?_)
    | refine r_g rfl rfl rfl ?_)
  refine r_call awDeep call11 rfl rfl ⟨Sub.refl _, trivial⟩ rfl rfl rfl rfl ?_
  repeat (first
    | (refine r_id ?_; first
      | refine r_ev tab_ok rfl rfl rfl rfl (by first | exact trivial | exact ⟨by omega, by omega⟩ | omega | exact ⟨by omega, by omega, by omega, by omega⟩ | exact Nat.le_of_ble_eq_true rfl) rfl ?_
      | refine r_idxd tab_ok rfl rfl rfl rfl rfl rfl rfl (by decide) rfl rfl rfl ?_
      | refine r_pick_t rfl rfl rfl rfl rfl rfl rfl ?_
      | refine r_ev_on tab_ok rfl rfl rfl rfl rfl rfl (by first | exact trivial | exact ⟨by omega, by omega⟩ | omega) rfl ?_)
    | refine r_g rfl rfl rfl ?_)
  refine r_call awSplit call16 rfl rfl ⟨Sub.refl _, trivial⟩ rfl rfl rfl rfl ?_
  repeat (first
    | (refine r_id ?_; first
      | refine r_ev tab_ok rfl rfl rfl rfl (by first | exact trivial | exact ⟨by omega, by omega⟩ | omega | exact ⟨by omega, by omega, by omega, by omega⟩ | exact Nat.le_of_ble_eq_true rfl) rfl ?_
      | refine r_pick_t rfl rfl rfl rfl rfl rfl rfl ?_
      | refine r_len_on tab_ok rfl rfl rfl rfl rfl rfl rfl rfl rfl ?_
      | refine r_ev_on tab_ok rfl rfl rfl rfl rfl rfl (by first | exact trivial | exact ⟨by omega, by omega⟩ | omega) rfl ?_)
    | refine r_g rfl rfl rfl ?_)
  refine r_call (text_ok c3 (by decide)) call10 rfl rfl ⟨Sub.refl _, trivial⟩ rfl rfl rfl rfl ?_
  repeat (first
    | refine r_g rfl rfl rfl ?_)
  refine r_call awAll3 call9 rfl rfl ⟨Sub.refl _, trivial⟩ rfl rfl rfl rfl ?_
  repeat (first
    | refine r_g rfl rfl rfl ?_)
  refine r_call awTrim call18 rfl rfl ⟨Sub.refl _, trivial⟩ rfl rfl rfl rfl ?_
  repeat (first
    | (refine r_id ?_; first
      | refine r_ev tab_ok rfl rfl rfl rfl (by first | exact trivial | exact ⟨by omega, by omega⟩ | omega | exact ⟨by omega, by omega, by omega, by omega⟩ | exact Nat.le_of_ble_eq_true rfl) rfl ?_
      | refine r_pick_t rfl rfl rfl rfl rfl rfl rfl ?_
      | refine r_len_on tab_ok rfl rfl rfl rfl rfl rfl rfl rfl rfl ?_
      | refine r_ev_on tab_ok rfl rfl rfl rfl rfl rfl (by first | exact trivial | exact ⟨by omega, by omega⟩ | omega) rfl ?_)
    | refine r_g rfl rfl rfl ?_)
  refine r_call awFlat call12 rfl rfl ⟨Sub.refl _, trivial⟩ rfl rfl rfl rfl ?_
  repeat (first
    | (refine r_id ?_; first
      | refine r_ev tab_ok rfl rfl rfl rfl (by first | exact trivial | exact ⟨by omega, by omega⟩ | omega | exact ⟨by omega, by omega, by omega, by omega⟩ | exact Nat.le_of_ble_eq_true rfl) rfl ?_
      | refine r_pick_t rfl rfl rfl rfl rfl rfl rfl ?_
      | refine r_len_on tab_ok rfl rfl rfl rfl rfl rfl rfl rfl rfl ?_
      | refine r_ev_on tab_ok rfl rfl rfl rfl rfl rfl (by first | exact trivial | exact ⟨by omega, by omega⟩ | omega) rfl ?_)
    | refine r_g rfl rfl rfl ?_)
  refine r_call awSame call13 rfl rfl ⟨Sub.refl _, Sub.refl _, trivial⟩ rfl rfl rfl rfl ?_
  repeat (first
    | (refine r_id ?_; first
      | refine r_ev tab_ok rfl rfl rfl rfl (by first | exact trivial | exact ⟨by omega, by omega⟩ | omega | exact ⟨by omega, by omega, by omega, by omega⟩ | exact Nat.le_of_ble_eq_true rfl) rfl ?_
      | refine r_pick_t rfl rfl rfl rfl rfl rfl rfl ?_
      | refine r_ev_on tab_ok rfl rfl rfl rfl rfl rfl (by first | exact trivial | exact ⟨by omega, by omega⟩ | omega) rfl ?_)
    | refine r_g rfl rfl rfl ?_)
  refine r_call awSame0 call13 rfl rfl ⟨Sub.refl _, Sub.nil _, trivial⟩ rfl rfl rfl rfl ?_
  repeat (first
    | refine thenA_normal ?_
    | refine awp_ret ?_
    | refine r_done ?_
    | (refine r_id ?_; first
      | refine r_ev tab_ok rfl rfl rfl rfl (by first | exact trivial | exact ⟨by omega, by omega⟩ | omega | exact ⟨by omega, by omega, by omega, by omega⟩ | exact Nat.le_of_ble_eq_true rfl) rfl ?_
      | refine r_pick_t rfl rfl rfl rfl rfl rfl rfl ?_
      | refine r_ev_on tab_ok rfl rfl rfl rfl rfl rfl (by first | exact trivial | exact ⟨by omega, by omega⟩ | omega) rfl ?_)
    | refine ret1 (by first | exact .inl rfl | exact .inr rfl) rfl rfl rfl ?_)
  exact Sub.refl _
end Go.Proofs.Ytogjmafjoliimaa
