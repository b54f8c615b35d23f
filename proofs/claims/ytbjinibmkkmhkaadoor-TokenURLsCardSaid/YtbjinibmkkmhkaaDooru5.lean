/- The law TokenComments. -/
import Derived.Test.YtbjinibmkkmhkaaDooru2
import Derived.Test.YtbjinibmkkmhkaaDoorr7
namespace Go.Proofs.YtbjinibmkkmhkaaDoor
open Go Go.RowKit
set_option maxRecDepth 20000

def ltB (c : UInt8) : Bool := decide (97 ≤ c.toNat) && decide (c.toNat ≤ 122)
theorem lt_facts {c : UInt8} (h : ltB c = true) : plB c = true ∧ letF (bI c) = true ∧ nameF (bI c) = true ∧ c.toNat < 128 := by
  rw [ltB, Bool.and_eq_true, decide_eq_true_eq, decide_eq_true_eq] at h
  have h1 : letF (bI c) = true := by
    rw [letF, decide_eq_true (show 97 ≤ bI c by unfold bI; omega), decide_eq_true (show bI c ≤ 122 by unfold bI; omega)]; rfl
  refine ⟨?_, h1, let_name h1, by omega⟩
  simp only [plB, Bool.and_eq_true, decide_eq_true_eq, Bool.not_eq_true', decide_eq_false_iff_not]
  omega
def wdB (w : List UInt8) : Bool := !w.isEmpty && w.all ltB
/-- A word at the head of bytes. -/
theorem toks_word (w r : List UInt8) (hw : wdB w = true) (h1 : nameF (gt (readS false false r) 0) = false) (h2 : gt (readS false false r) 0 ≠ 92) (h3 : gt (readS false false r) 0 ≠ 40) : toksL (readS false false (w ++ r)) = tkK 1 ⟨w.toArray⟩ :: toksL (readS false false r) := by
  rw [wdB, Bool.and_eq_true] at hw
  have hall := List.all_eq_true.1 hw.2
  have hpl : w.all plB = true := List.all_eq_true.2 fun c hc => (lt_facts (hall c hc)).1
  have hrun : runesBytes (w.map bI) = ⟨w.toArray⟩ := runes_ascii w (List.all_eq_true.2 fun c hc => decide_eq_true (lt_facts (hall c hc)).2.2.2)
  rw [readS_pls w r hpl]
  cases w with
  | nil => cases hw.1
  | cons c q =>
    have h := toksL_word (bI c) (q.map bI) (readS false false r) (lt_facts (hall c (by simp))).2.1 (by rw [List.all_map]; exact List.all_eq_true.2 fun d hd => (lt_facts (hall d (by simp [hd]))).2.2.1) h1 h2 h3
    rw [show (bI c :: q.map bI) = (c :: q).map bI from rfl, hrun] at h
    exact h
def comB (l : List UInt8) : List UInt8 := 47 :: 42 :: (l ++ [42, 47])
def comS (l : List UInt8) (ws : List (List UInt8)) : List UInt8 := comB l ++ ws.flatMap fun w => w ++ comB l
theorem com_head (l r : List UInt8) : gt (readS false false (comB l ++ r)) 0 = 47 := by
  rw [comB, List.cons_append, readS_pl false 47 _ rfl]; rfl
theorem com_skip (fi : Bool) (l r : List UInt8) (h : noAdj l = true) (hlast : ∀ x, l.getLast? = some x → x.toNat ≠ 42) : toksL (readS fi false (comB l ++ r)) = toksL (readS false false r) := by
  have e : comB l ++ r = 47 :: 42 :: (l ++ 42 :: 47 :: r) := by simp [comB]
  rw [e, toks_comment fi l r h hlast]
theorem com_toks (l : List UInt8) (h : noAdj l = true) (hlast : ∀ x, l.getLast? = some x → x.toNat ≠ 42) (tail : List UInt8) : ∀ ws : List (List UInt8), (∀ w ∈ ws, wdB w = true) → toksL (readS false false ((ws.flatMap fun w => w ++ comB l) ++ tail)) = ws.map (fun w => tkK 1 ⟨w.toArray⟩) ++ toksL (readS false false tail)
  | [], _ => rfl
  | w :: ws, hw => by
    have e : ((w :: ws).flatMap fun w => w ++ comB l) ++ tail = w ++ (comB l ++ ((ws.flatMap fun w => w ++ comB l) ++ tail)) := by simp
    have hh := com_head l ((ws.flatMap fun w => w ++ comB l) ++ tail)
    rw [e, toks_word w _ (hw w (by simp)) (by rw [hh]; decide) (by rw [hh]; decide) (by rw [hh]; decide), com_skip false l _ h hlast, com_toks l h hlast tail ws fun v hv => hw v (by simp [hv])]
    rfl
theorem com_all (l : List UInt8) (h : noAdj l = true) (hlast : ∀ x, l.getLast? = some x → x.toNat ≠ 42) (ws : List (List UInt8)) (hw : ∀ w ∈ ws, wdB w = true) : toks ⟨(comS l ws).toArray⟩ = ws.map (fun w => tkK 1 ⟨w.toArray⟩) := by
  have := com_toks l h hlast [] ws hw
  rw [List.append_nil, readS_nil, toksL_nil, List.append_nil] at this
  rw [toks_bytes, comS, com_skip true l _ h hlast, this]
theorem noAdj_snoc : ∀ (l : List UInt8) (a b : UInt8), a.toNat ≠ 47 → ¬ (a.toNat = 42 ∧ b.toNat = 47) → noAdj l = true → noAdj (l ++ [a, b]) = true
  | [], a, b, _, h2, _ => by
    show (!(decide (a.toNat = 42) && decide (b.toNat = 47)) && true) = true
    rw [Bool.and_true, Bool.not_eq_true', Bool.and_eq_false_iff, decide_eq_false_iff_not, decide_eq_false_iff_not]
    by_cases h : a.toNat = 42
    · exact .inr fun h3 => h2 ⟨h, h3⟩
    · exact .inl h
  | [c], a, b, h1, h2, _ => by
    have := noAdj_snoc [] a b h1 h2 rfl
    show (!(decide (c.toNat = 42) && decide (a.toNat = 47)) && noAdj [a, b]) = true
    rw [decide_eq_false h1, Bool.and_false, Bool.not_false, Bool.true_and]
    exact this
  | c :: d :: r, a, b, h1, h2, h => by
    rw [noAdj, Bool.and_eq_true] at h
    have := noAdj_snoc (d :: r) a b h1 h2 h.2
    show (!(decide (c.toNat = 42) && decide (d.toNat = 47)) && noAdj (d :: r ++ [a, b])) = true
    rw [h.1, Bool.true_and]
    exact this
theorem com_open (l : List UInt8) (h : noAdj l = true) (hlast : ∀ x, l.getLast? = some x → x.toNat ≠ 42) (ws : List (List UInt8)) (hw : ∀ w ∈ ws, wdB w = true) : toks ⟨(comS l ws ++ (47 :: 42 :: (l ++ [32, 120]))).toArray⟩ = ws.map (fun w => tkK 1 ⟨w.toArray⟩) := by
  have := com_toks l h hlast (47 :: 42 :: (l ++ [32, 120])) ws hw
  rw [toks_open false (l ++ [32, 120]) (noAdj_snoc l 32 120 (by decide) (by decide) h), List.append_nil] at this
  rw [toks_bytes, comS, List.append_assoc, com_skip true l _ h hlast, this]
theorem noAdj_of : ∀ (l : List UInt8), (∀ i, i + 1 < l.length → ¬ ((l.getD i 0).toNat = 42 ∧ (l.getD (i + 1) 0).toNat = 47)) → noAdj l = true
  | [], _ => rfl
  | [c], _ => rfl
  | c :: d :: r, h => by
    have h0 := h 0 (by simp)
    have := noAdj_of (d :: r) fun i hi => h (i + 1) (by simpa using hi)
    rw [noAdj, this, Bool.and_true, Bool.not_eq_true', Bool.and_eq_false_iff, decide_eq_false_iff_not, decide_eq_false_iff_not]
    by_cases h1 : c.toNat = 42
    · exact .inr fun h2 => h0 ⟨h1, h2⟩
    · exact .inl h1
def csD' (s : ByteArray) : D := .val (.string s)
theorem str_bytes (s : ByteArray) : s = ⟨s.data.toList.toArray⟩ := rfl
theorem cat_l (a b : List UInt8) : (⟨a.toArray⟩ : ByteArray) ++ (⟨b.toArray⟩ : ByteArray) = ⟨(a ++ b).toArray⟩ := bytes_cat a b
def wsL (l : List ByteArray) : List (List UInt8) := l.map fun s => s.data.toList
set_option maxHeartbeats 16000000 in
theorem lawComments (l : List ByteArray) (inner : ByteArray) (hl : l.length ≤ 9223372036854775807) (hls : ∀ s ∈ l, s.size ≤ 9223372036854775807) (hn : inner.size ≤ 9223372036854775807) : PCalls Tryd.prog 9 [.sl 1 (l.map csD'), .val (.string inner)] (.val (.bool true)) := by
  refine p_start Tryd.func9 Tryd.ntmps9 rfl rfl rfl fun S w => ?_
  have hlm : (l.map csD').length = l.length := List.length_map _
  have hsz := str_size inner
  repeat (first | refine awp_seq ?_ | refine thenA_normal ?_ | refine a_region ?_ | refine r_done ?_ | (refine r_id ?_; first | refine r_len tab_ok rfl rfl rfl rfl rfl rfl rfl ?_ | refine r_ev tab_ok rfl rfl rfl rfl (by first | exact trivial | exact ⟨by omega, by omega⟩ | omega | exact ⟨by omega, by omega, by omega, by omega⟩ | exact Nat.le_of_ble_eq_true rfl) rfl ?_ | refine r_ev_cnd tab_ok rfl rfl rfl rfl rfl rfl (by first | exact fun _ => rfl | exact cs1 | exact cs2 | exact cs3) (by first | exact fun _ => trivial | (intro h; simp at h; first | exact ⟨by omega, by omega⟩ | omega)) rfl ?_ | refine r_or rfl rfl rfl rfl rfl rfl rfl rfl ?_))
  refine awp_cond rfl (fun h => ?_) (fun h => ?_)
  · repeat (first | refine awp_seq ?_ | refine a_region ?_)
    refine r_call awake2_ok call12 rfl rfl trivial rfl rfl rfl rfl ?_
    repeat (first | refine thenA_normal ?_ | refine awp_ret ?_ | refine thenA_ret ?_ | refine r_done ?_ | (refine r_id ?_; first | refine r_ev tab_ok rfl rfl rfl rfl (by first | exact trivial | exact ⟨by omega, by omega⟩ | omega | exact ⟨by omega, by omega, by omega, by omega⟩ | exact Nat.le_of_ble_eq_true rfl) rfl ?_) | refine ret1 (by first | exact .inl rfl | exact .inr rfl) rfl rfl rfl ?_)
    exact Sub.refl _
  rw [Bool.or_eq_false_iff, decide_eq_false_iff_not, decide_eq_false_iff_not] at h
  repeat (first | refine awp_seq ?_ | refine thenA_normal ?_ | refine awp_block ?_ | refine a_region ?_ | refine awp_skip ?_ | refine r_done ?_ | (refine r_id ?_; first | refine r_ev tab_ok rfl rfl rfl rfl (by first | exact trivial | exact ⟨by omega, by omega⟩ | omega | exact ⟨by omega, by omega, by omega, by omega⟩ | exact Nat.le_of_ble_eq_true rfl) rfl ?_))
  refine a_loop (σ := {i : Nat // i ≤ inner.size ∧ ∀ j < i, j + 1 < inner.size → ¬ ((inner.data.toList.getD j 0).toNat = 42 ∧ (inner.data.toList.getD (j + 1) 0).toNat = 47)}) (fun _ => []) (fun x => [(0, .sl 1 (l.map csD')), (1, .val (.string inner)), (5, .val (.int .i64 x.1))]) (fun x => inner.size - x.1) ⟨0, Nat.zero_le _, fun j hj => absurd hj (by omega)⟩ (fits_of rfl (by repeat' first | exact trivial | exact Sub.refl _ | exact rfl | apply And.intro)) ?_
  rintro ⟨i, hi, hno⟩
  dsimp only
  repeat (first | refine awp_seq ?_ | refine thenA_normal ?_ | refine a_region ?_ | refine r_done ?_ | (refine r_id ?_; first | refine r_ev tab_ok rfl rfl rfl rfl (by first | exact trivial | exact ⟨by omega, by omega⟩ | omega | exact ⟨by omega, by omega, by omega, by omega⟩ | exact Nat.le_of_ble_eq_true rfl) rfl ?_))
  refine awp_cond_p rfl (fun hlt => ?_) (fun hge => ?_)
  · repeat (first | refine awp_seq ?_ | refine thenA_normal ?_ | refine awp_block ?_ | refine a_region ?_ | refine awp_skip ?_ | refine r_done ?_ | (refine r_id ?_; first | refine r_ev tab_ok rfl rfl rfl rfl (by first | exact trivial | exact ⟨by omega, by omega⟩ | omega | exact ⟨by omega, by omega, by omega, by omega⟩ | exact Nat.le_of_ble_eq_true rfl) rfl ?_ | refine r_ev_cnd tab_ok rfl rfl rfl rfl rfl rfl (by first | exact fun _ => rfl | exact cs1 | exact cs2 | exact cs3) (by first | exact fun _ => trivial | (intro h; simp at h; first | exact ⟨by omega, by omega⟩ | omega)) rfl ?_ | refine r_and rfl rfl rfl rfl rfl rfl rfl rfl ?_))
    refine awp_cond rfl (fun h2 => ?_) (fun h2 => ?_)
    · repeat (first | refine awp_seq ?_ | refine a_region ?_)
      refine r_call awake2_ok call12 rfl rfl trivial rfl rfl rfl rfl ?_
      repeat (first | refine thenA_normal ?_ | refine awp_ret ?_ | refine thenA_ret ?_ | refine blockA_ret ?_ | refine r_done ?_ | (refine r_id ?_; first | refine r_ev tab_ok rfl rfl rfl rfl (by first | exact trivial | exact ⟨by omega, by omega⟩ | omega | exact ⟨by omega, by omega, by omega, by omega⟩ | exact Nat.le_of_ble_eq_true rfl) rfl ?_) | refine ret1 (by first | exact .inl rfl | exact .inr rfl) rfl rfl rfl ?_)
      exact Sub.refl _
    · have h2' : ¬ ((inner.data.toList.getD i 0).toNat = 42 ∧ (inner.data.toList.getD (i + 1) 0).toNat = 47) := fun h3 => by
        have e1 : ((i : Nat) : Int).toNat = i := by omega
        have e2 : (((i : Nat) : Int) + 1).toNat = i + 1 := by omega
        rw [e1, e2] at h2
        rw [h3.1, h3.2] at h2
        simp at h2
      repeat (first | refine thenA_normal ?_ | refine a_region ?_ | refine awp_skip ?_ | refine r_done ?_ | (refine r_id ?_; first | refine r_ev tab_ok rfl rfl rfl rfl (by first | exact trivial | exact ⟨by omega, by omega⟩ | omega | exact ⟨by omega, by omega, by omega, by omega⟩ | exact Nat.le_of_ble_eq_true rfl) rfl ?_))
      exact ⟨⟨i + 1, by omega, fun j hj hj2 => by
        rcases Nat.lt_or_eq_of_le (Nat.le_of_lt_succ hj) with h4 | h4
        · exact hno j h4 hj2
        · subst h4; exact h2'⟩, by dsimp only; omega, fits_of rfl (by repeat' first | exact trivial | exact Sub.refl _ | exact rfl | apply And.intro)⟩
  have hadj : noAdj inner.data.toList = true := noAdj_of _ fun j hj => hno j (by omega) (by omega)
  clear hno
  repeat (first | refine awp_seq ?_ | refine thenA_normal ?_ | refine a_region ?_ | refine awp_exit ?_ | refine r_done ?_ | (refine r_id ?_; first | refine r_ev tab_ok rfl rfl rfl rfl (by first | exact trivial | exact ⟨by omega, by omega⟩ | omega | exact ⟨by omega, by omega, by omega, by omega⟩ | exact Nat.le_of_ble_eq_true rfl) rfl ?_ | refine r_ev_cnd tab_ok rfl rfl rfl rfl rfl rfl (by first | exact fun _ => rfl | exact cs1 | exact cs2 | exact cs3) (by first | exact fun _ => trivial | (intro h; simp at h; first | exact ⟨by omega, by omega⟩ | omega)) rfl ?_ | refine r_and rfl rfl rfl rfl rfl rfl rfl rfl ?_))
  refine awp_cond rfl (fun h2 => ?_) (fun h2 => ?_)
  · repeat (first | refine awp_seq ?_ | refine a_region ?_)
    refine r_call awake2_ok call12 rfl rfl trivial rfl rfl rfl rfl ?_
    repeat (first | refine thenA_normal ?_ | refine awp_ret ?_ | refine thenA_ret ?_ | refine r_done ?_ | (refine r_id ?_; first | refine r_ev tab_ok rfl rfl rfl rfl (by first | exact trivial | exact ⟨by omega, by omega⟩ | omega | exact ⟨by omega, by omega, by omega, by omega⟩ | exact Nat.le_of_ble_eq_true rfl) rfl ?_) | refine ret1 (by first | exact .inl rfl | exact .inr rfl) rfl rfl rfl ?_)
    exact Sub.refl _
  have hlast : ∀ x, inner.data.toList.getLast? = some x → x.toNat ≠ 42 := fun x hx h4 => by
    have hpos : 0 < inner.data.toList.length := by
      rcases Nat.eq_zero_or_pos inner.data.toList.length with h5 | h5
      · rw [List.length_eq_zero_iff.1 h5] at hx; cases hx
      · exact h5
    have e1 : ((inner.size : Int) - 1).toNat = inner.data.toList.length - 1 := by omega
    have e2 : inner.data.toList.getD (inner.data.toList.length - 1) 0 = x := by
      rw [List.getLast?_eq_getElem?] at hx
      rw [List.getD_eq_getElem?_getD, hx]; rfl
    rw [e1, e2, h4, decide_eq_true (show (0 : Int) < inner.size by omega)] at h2
    simp at h2
  clear h2 hi hge
  have hz2 : (⟨#[47, 42]⟩ : ByteArray).size = 2 := rfl
  have hz2' : (⟨#[42, 47]⟩ : ByteArray).size = 2 := rfl
  have hz3 : ((⟨#[47, 42]⟩ : ByteArray) ++ inner).size = 2 + inner.size := by rw [ByteArray.size_append]; rfl
  have hcom : (⟨#[47, 42]⟩ : ByteArray) ++ inner ++ (⟨#[42, 47]⟩ : ByteArray) = ⟨(comB inner.data.toList).toArray⟩ := by
    rw [show (⟨#[47, 42]⟩ : ByteArray) = ⟨[47, 42].toArray⟩ from rfl, str_bytes inner, show (⟨#[42, 47]⟩ : ByteArray) = ⟨[42, 47].toArray⟩ from rfl, bytes_cat, bytes_cat]
    rfl
  repeat (first | refine awp_seq ?_ | refine thenA_normal ?_ | refine awp_block ?_ | refine a_region ?_ | refine awp_skip ?_ | refine r_done ?_ | (refine r_id ?_; first | refine r_ev tab_ok rfl rfl rfl rfl (by first | exact trivial | exact ⟨by omega, by omega⟩ | omega | exact ⟨by omega, by omega, by omega, by omega⟩ | exact Nat.le_of_ble_eq_true rfl) rfl ?_))
  rw [hcom]
  generalize hL : inner.data.toList = L at hadj hlast hcom hsz
  have hcl : (⟨(comB L).toArray⟩ : ByteArray).size = L.length + 4 := by rw [sz_list]; simp [comB]
  refine a_loop (σ := {i : Nat // i ≤ l.length ∧ (∀ w ∈ wsL (l.take i), wdB w = true) ∧ (comS L (wsL (l.take i))).length ≤ 104 + i * 124}) (fun x => [.row 0 33 6 (((wsL (l.take x.1)).map (fun w => tkK 1 ⟨w.toArray⟩)).map tD)]) (fun x => [(0, .sl 1 (l.map csD')), (1, .val (.string inner)), (6, .val (.string ⟨(comB L).toArray⟩)), (7, .val (.string ⟨(comS L (wsL (l.take x.1))).toArray⟩)), (8, .row 0 0), (9, .val (.int .i64 x.1))]) (fun x => l.length - x.1) ⟨0, Nat.zero_le _, (fun w hw => by cases hw), (by simp [comS, wsL, comB]; omega)⟩ (fits_conv (by repeat' first | exact trivial | exact rfl | (rw [List.map_append]; first | done | rfl) | exact c_sub rfl (Sub.refl _) rfl | exact c_nil rfl rfl | exact c_thaw rfl rfl rfl | exact c_row rfl rfl rfl | exact c_row rfl rfl (by rw [List.map_append]; first | done | rfl) | exact c_ptr rfl rfl rfl rfl | exact Or.inl ⟨c_sub rfl (Sub.refl _) rfl, c_ptr rfl rfl rfl rfl⟩ | exact c_alt rfl rfl rfl rfl | exact c_ro rfl rfl | exact c_eo rfl rfl | exact c_sub rfl (Sub.altl _ _) rfl | exact c_sub rfl (Sub.nil _) rfl | refine ⟨_, _, rfl, ?_, ?_⟩ | apply And.intro) ⟨c_sub rfl (Sub.refl _) rfl, c_sub rfl (Sub.refl _) rfl, c_sub rfl (Sub.refl _) rfl, c_sub rfl (Sub.of_eq (show AV.val (.string ⟨(comB L).toArray⟩) = AV.val (.string ⟨(comS L []).toArray⟩) by simp [comS])) rfl, c_nil rfl rfl, c_sub rfl (Sub.refl _) rfl, trivial⟩) ?_
  rintro ⟨i, hi, hwd, hlen⟩
  dsimp only
  have hrl : (((wsL (l.take i)).map (fun w => tkK 1 ⟨w.toArray⟩)).map tD).length = i := by
    rw [List.length_map, List.length_map, wsL, List.length_map, List.length_take]; omega
  have hrl2 : (wsL (l.take i)).length = i := by rw [wsL, List.length_map, List.length_take]; omega
  have hcs : (⟨(comS L (wsL (l.take i))).toArray⟩ : ByteArray).size = (comS L (wsL (l.take i))).length := sz_list _
  repeat (first | refine awp_seq ?_ | refine thenA_normal ?_ | refine a_region ?_ | refine r_done ?_ | (refine r_id ?_; first | refine r_len tab_ok rfl rfl rfl rfl rfl rfl rfl ?_ | refine r_ev tab_ok rfl rfl rfl rfl (by first | exact trivial | exact ⟨by omega, by omega⟩ | omega | exact ⟨by omega, by omega, by omega, by omega⟩ | exact Nat.le_of_ble_eq_true rfl) rfl ?_))
  refine awp_cond_p rfl (fun hlt => ?_) (fun hge => ?_)
  · have hi' : i < l.length := by omega
    have hww := hls _ (List.getElem_mem hi')
    have htk : wsL (l.take (i + 1)) = wsL (l.take i) ++ [(l[((i : Nat) : Int).toNat]'(by simpa using hi')).data.toList] := by
      have e : l.take (i + 1) = l.take i ++ [l[i]] := by rw [List.take_add_one, List.getElem?_eq_getElem hi']; rfl
      rw [e, wsL, wsL, List.map_append]
      rfl
    repeat (first | refine awp_seq ?_ | refine thenA_normal ?_ | refine awp_block ?_ | refine a_region ?_ | refine awp_skip ?_ | refine r_done ?_ | (refine r_id ?_; first | refine r_ev tab_ok rfl rfl rfl rfl (by first | exact trivial | exact ⟨by omega, by omega⟩ | omega | exact ⟨by omega, by omega, by omega, by omega⟩ | exact Nat.le_of_ble_eq_true rfl) rfl ?_ | refine r_idx tab_ok rfl rfl rfl rfl rfl rfl rfl (by first | exact ⟨by omega, by omega⟩ | (simp; omega)) rfl rfl ?_ | refine r_ev_cnd tab_ok rfl rfl rfl rfl rfl rfl (by first | exact fun _ => rfl | exact cs1 | exact cs2 | exact cs3) (by first | exact fun _ => trivial | (intro h; simp at h; first | exact ⟨by omega, by omega⟩ | omega)) rfl ?_ | refine r_or rfl rfl rfl rfl rfl rfl rfl rfl ?_))
    have hww' : (l[((i : Nat) : Int).toNat]'(by simpa using hi')).size ≤ 9223372036854775807 := hls _ (List.getElem_mem _)
    generalize (l[((i : Nat) : Int).toNat]'(by simpa using hi')) = wd at htk hww' ⊢
    have hwz := str_size wd
    refine awp_cond rfl (fun h2 => ?_) (fun h2 => ?_)
    · repeat (first | refine awp_seq ?_ | refine a_region ?_)
      refine r_call awake2_ok call12 rfl rfl trivial rfl rfl rfl rfl ?_
      repeat (first | refine thenA_normal ?_ | refine awp_ret ?_ | refine thenA_ret ?_ | refine blockA_ret ?_ | refine r_done ?_ | (refine r_id ?_; first | refine r_ev tab_ok rfl rfl rfl rfl (by first | exact trivial | exact ⟨by omega, by omega⟩ | omega | exact ⟨by omega, by omega, by omega, by omega⟩ | exact Nat.le_of_ble_eq_true rfl) rfl ?_) | refine ret1 (by first | exact .inl rfl | exact .inr rfl) rfl rfl rfl ?_)
      exact Sub.refl _
    rw [Bool.or_eq_false_iff, decide_eq_false_iff_not, decide_eq_false_iff_not] at h2
    repeat (first | refine awp_seq ?_ | refine thenA_normal ?_ | refine awp_block ?_ | refine a_region ?_ | refine awp_skip ?_ | refine r_done ?_ | (refine r_id ?_; first | refine r_ev tab_ok rfl rfl rfl rfl (by first | exact trivial | exact ⟨by omega, by omega⟩ | omega | exact ⟨by omega, by omega, by omega, by omega⟩ | exact Nat.le_of_ble_eq_true rfl) rfl ?_))
    refine a_loop (σ := {j : Nat // j ≤ wd.data.toList.length ∧ (wd.data.toList.take j).all ltB = true}) (fun _ => [.row 0 33 6 (((wsL (l.take i)).map (fun w => tkK 1 ⟨w.toArray⟩)).map tD)]) (fun x => [(0, .sl 1 (l.map csD')), (1, .val (.string inner)), (6, .val (.string ⟨(comB L).toArray⟩)), (7, .val (.string ⟨(comS L (wsL (l.take i))).toArray⟩)), (8, .row 0 0), (9, .val (.int .i64 i)), (10, .val (.string wd)), (11, .val (.int .i64 x.1))]) (fun x => wd.data.toList.length - x.1) ⟨0, Nat.zero_le _, rfl⟩ (fits_of rfl (by repeat' first | exact trivial | exact Sub.refl _ | exact rfl | apply And.intro)) ?_
    rintro ⟨j, hj, hall⟩
    dsimp only
    repeat (first | refine awp_seq ?_ | refine thenA_normal ?_ | refine a_region ?_ | refine r_done ?_ | (refine r_id ?_; first | refine r_ev tab_ok rfl rfl rfl rfl (by first | exact trivial | exact ⟨by omega, by omega⟩ | omega | exact ⟨by omega, by omega, by omega, by omega⟩ | exact Nat.le_of_ble_eq_true rfl) rfl ?_))
    refine awp_cond_p rfl (fun hlt2 => ?_) (fun hge2 => ?_)
    · have hj' : j < wd.data.toList.length := by omega
      have hgb : wd.data.toList.getD ((j : Nat) : Int).toNat 0 = wd.data.toList[j] := by rw [Int.toNat_natCast, getD_byte hj']
      repeat (first | refine awp_seq ?_ | refine thenA_normal ?_ | refine awp_block ?_ | refine a_region ?_ | refine awp_skip ?_ | refine r_done ?_ | (refine r_id ?_; first | refine r_ev tab_ok rfl rfl rfl rfl (by first | exact trivial | exact ⟨by omega, by omega⟩ | omega | exact ⟨by omega, by omega, by omega, by omega⟩ | exact Nat.le_of_ble_eq_true rfl) rfl ?_ | refine r_ev_cnd tab_ok rfl rfl rfl rfl rfl rfl (by first | exact fun _ => rfl | exact cs1 | exact cs2 | exact cs3) (by first | exact fun _ => trivial | (intro h; simp at h; first | exact ⟨by omega, by omega⟩ | omega)) rfl ?_ | refine r_or rfl rfl rfl rfl rfl rfl rfl rfl ?_))
      rw [hgb]
      refine awp_cond rfl (fun h3 => ?_) (fun h3 => ?_)
      · repeat (first | refine awp_seq ?_ | refine a_region ?_)
        refine r_call awake2_ok call12 rfl rfl trivial rfl rfl rfl rfl ?_
        repeat (first | refine thenA_normal ?_ | refine awp_ret ?_ | refine thenA_ret ?_ | refine blockA_ret ?_ | refine r_done ?_ | (refine r_id ?_; first | refine r_ev tab_ok rfl rfl rfl rfl (by first | exact trivial | exact ⟨by omega, by omega⟩ | omega | exact ⟨by omega, by omega, by omega, by omega⟩ | exact Nat.le_of_ble_eq_true rfl) rfl ?_) | refine ret1 (by first | exact .inl rfl | exact .inr rfl) rfl rfl rfl ?_)
        exact Sub.refl _
      · have hb : ltB wd.data.toList[j] = true := by
          rw [Bool.or_eq_false_iff, decide_eq_false_iff_not, decide_eq_false_iff_not] at h3
          rw [ltB, Bool.and_eq_true, decide_eq_true_eq, decide_eq_true_eq]
          omega
        repeat (first | refine thenA_normal ?_ | refine a_region ?_ | refine awp_skip ?_ | refine r_done ?_ | (refine r_id ?_; first | refine r_ev tab_ok rfl rfl rfl rfl (by first | exact trivial | exact ⟨by omega, by omega⟩ | omega | exact ⟨by omega, by omega, by omega, by omega⟩ | exact Nat.le_of_ble_eq_true rfl) rfl ?_))
        exact ⟨⟨j + 1, hj', by
          rw [List.take_add_one, List.getElem?_eq_getElem hj', List.all_append, hall, Bool.true_and]
          show (ltB wd.data.toList[j] && true) = true
          rw [hb]; rfl⟩, by dsimp only; omega, fits_of rfl (by repeat' first | exact trivial | exact Sub.refl _ | exact rfl | apply And.intro)⟩
    have hje : j = wd.data.toList.length := by omega
    subst hje
    rw [List.take_length] at hall
    have hwdb : wdB wd.data.toList = true := by
      rw [wdB, hall, Bool.and_true, Bool.not_eq_true', List.isEmpty_eq_false_iff]
      intro h4
      rw [h4] at hwz
      simp at hwz
      omega
    have hcat1 : ((⟨(comS L (wsL (l.take i))).toArray⟩ : ByteArray) ++ wd).size = (comS L (wsL (l.take i))).length + wd.size := by rw [ByteArray.size_append, hcs]
    repeat (first | refine awp_seq ?_ | refine thenA_normal ?_ | refine a_region ?_ | refine awp_exit ?_ | refine r_done ?_ | (refine r_id ?_; first | refine r_ev tab_ok rfl rfl rfl rfl (by first | exact trivial | exact ⟨by omega, by omega⟩ | omega | exact ⟨by omega, by omega, by omega, by omega⟩ | exact Nat.le_of_ble_eq_true rfl) rfl ?_ | refine r_build tab_ok rfl rfl rfl rfl rfl rfl ?_ | refine r_built tab_ok rfl rfl rfl rfl rfl rfl rfl rfl rfl ?_ | refine r_append tab_ok rfl rfl rfl rfl rfl rfl rfl rfl rfl (by first | omega | (simp; omega)) rfl ?_))
    have hsnoc : comS L (wsL (l.take (i + 1))) = comS L (wsL (l.take i)) ++ wd.data.toList ++ comB L := by
      rw [htk, comS, comS, List.flatMap_append]
      simp
    have hscat : (⟨(comS L (wsL (l.take i))).toArray⟩ : ByteArray) ++ wd ++ (⟨(comB L).toArray⟩ : ByteArray) = ⟨(comS L (wsL (l.take (i + 1)))).toArray⟩ := by
      rw [hsnoc, ← cat_l, ← cat_l]
    refine ⟨⟨i + 1, hi', by
      rw [htk]
      intro w hw
      rw [List.mem_append, List.mem_singleton] at hw
      rcases hw with hw | rfl
      · exact hwd w hw
      · exact hwdb, by
      rw [hsnoc, List.length_append, List.length_append, hwz, show (comB L).length = L.length + 4 by simp [comB]]
      omega⟩, by dsimp only; omega, ?_⟩
    dsimp only
    rw [← hscat, htk, List.map_append, List.map_append]
    exact fits_conv (by repeat' first | exact trivial | exact rfl | (rw [List.map_append]; first | done | rfl) | exact c_sub rfl (Sub.refl _) rfl | exact c_nil rfl rfl | exact c_thaw rfl rfl rfl | exact c_row rfl rfl rfl | exact c_row rfl rfl (by rw [List.map_append]; first | done | rfl) | exact c_ptr rfl rfl rfl rfl | exact Or.inl ⟨c_sub rfl (Sub.refl _) rfl, c_ptr rfl rfl rfl rfl⟩ | exact c_alt rfl rfl rfl rfl | exact c_ro rfl rfl | exact c_eo rfl rfl | exact c_sub rfl (Sub.altl _ _) rfl | exact c_sub rfl (Sub.nil _) rfl | refine ⟨_, _, rfl, ?_, ?_⟩ | apply And.intro) (by repeat' first | exact trivial | exact rfl | (rw [List.map_append]; first | done | rfl) | exact c_sub rfl (Sub.refl _) rfl | exact c_nil rfl rfl | exact c_thaw rfl rfl rfl | exact c_row rfl rfl rfl | exact c_row rfl rfl (by rw [List.map_append]; first | done | rfl) | exact c_ptr rfl rfl rfl rfl | exact Or.inl ⟨c_sub rfl (Sub.refl _) rfl, c_ptr rfl rfl rfl rfl⟩ | exact c_alt rfl rfl rfl rfl | exact c_ro rfl rfl | exact c_eo rfl rfl | exact c_sub rfl (Sub.altl _ _) rfl | exact c_sub rfl (Sub.nil _) rfl | refine ⟨_, _, rfl, ?_, ?_⟩ | apply And.intro)
  have hie : i = l.length := by omega
  subst hie
  rw [List.take_length] at hwd hlen hrl hcs hrl2 ⊢
  have ht1 := com_all L hadj hlast (wsL l) hwd
  have ht2 := com_open L hadj hlast (wsL l) hwd
  have hcat2 : (⟨(comS L (wsL l)).toArray⟩ : ByteArray) ++ (⟨#[47, 42]⟩ : ByteArray) ++ inner ++ (⟨#[32, 120]⟩ : ByteArray) = ⟨(comS L (wsL l) ++ (47 :: 42 :: (L ++ [32, 120]))).toArray⟩ := by
    rw [show (⟨#[47, 42]⟩ : ByteArray) = ⟨[47, 42].toArray⟩ from rfl, str_bytes inner, hL, show (⟨#[32, 120]⟩ : ByteArray) = ⟨[32, 120].toArray⟩ from rfl, cat_l, cat_l, cat_l]
    simp
  have hzA : ((⟨(comS L (wsL l)).toArray⟩ : ByteArray) ++ (⟨#[47, 42]⟩ : ByteArray)).size = (comS L (wsL l)).length + 2 := by rw [ByteArray.size_append, hcs]; rfl
  have hzB : ((⟨(comS L (wsL l)).toArray⟩ : ByteArray) ++ (⟨#[47, 42]⟩ : ByteArray) ++ inner).size = (comS L (wsL l)).length + 2 + inner.size := by rw [ByteArray.size_append, hzA]
  have hzC : (⟨#[32, 120]⟩ : ByteArray).size = 2 := rfl
  have hzD : (⟨(comS L (wsL l) ++ (47 :: 42 :: (L ++ [32, 120]))).toArray⟩ : ByteArray).size ≤ 549755813888 := by
    rw [sz_list, List.length_append]
    simp only [List.length_cons, List.length_append, List.length_nil]
    omega
  have hwl : ((wsL l).map (fun w => tkK 1 ⟨w.toArray⟩)).length ≤ 1099511627776 := by rw [List.length_map]; omega
  generalize hT : (wsL l).map (fun w => tkK 1 ⟨w.toArray⟩) = T at ht1 ht2 hwl
  repeat (first | refine awp_seq ?_ | refine awp_exit ?_)
  refine awp_fits (s' := ⟨[.gone], [(1, .val (.string inner)), (7, .val (.string ⟨(comS L (wsL l)).toArray⟩)), (8, .sl 6 (T.map tD))]⟩) (fits_conv (by repeat' first | exact trivial | exact rfl | (rw [List.map_append]; first | done | rfl) | exact c_sub rfl (Sub.refl _) rfl | exact c_nil rfl rfl | exact c_thaw rfl rfl rfl | exact c_row rfl rfl rfl | exact c_row rfl rfl (by rw [List.map_append]; first | done | rfl) | exact c_ptr rfl rfl rfl rfl | exact Or.inl ⟨c_sub rfl (Sub.refl _) rfl, c_ptr rfl rfl rfl rfl⟩ | exact c_alt rfl rfl rfl rfl | exact c_ro rfl rfl | exact c_eo rfl rfl | exact c_sub rfl (Sub.altl _ _) rfl | exact c_sub rfl (Sub.nil _) rfl | refine ⟨_, _, rfl, ?_, ?_⟩ | apply And.intro) ⟨c_sub rfl (Sub.refl _) rfl, c_sub rfl (Sub.refl _) rfl, c_thaw rfl rfl rfl, trivial⟩) ?_
  repeat (first | refine a_region ?_ | (refine r_id ?_; first | refine r_ev tab_ok rfl rfl rfl rfl (by first | exact trivial | exact ⟨by omega, by omega⟩ | omega | exact ⟨by omega, by omega, by omega, by omega⟩ | exact Nat.le_of_ble_eq_true rfl) rfl ?_))
  refine r_call (show PCalls Tryd.prog 19 [.val (.string ⟨(comS L (wsL l)).toArray⟩)] (.sl 6 (T.map tD)) by rw [← ht1]; exact all2_ok _ (by omega)) call19 rfl rfl ⟨Sub.refl _, trivial⟩ rfl rfl rfl rfl ?_
  repeat (first | (refine r_id ?_; first | refine r_ev tab_ok rfl rfl rfl rfl (by first | exact trivial | exact ⟨by omega, by omega⟩ | omega | exact ⟨by omega, by omega, by omega, by omega⟩ | exact Nat.le_of_ble_eq_true rfl) rfl ?_))
  refine r_call (eqtoks_self T hwl) call14 rfl rfl ⟨Sub.refl _, Sub.refl _, trivial⟩ rfl rfl rfl rfl ?_
  repeat (first | (refine r_id ?_; first | refine r_ev tab_ok rfl rfl rfl rfl (by first | exact trivial | exact ⟨by omega, by omega⟩ | omega | exact ⟨by omega, by omega, by omega, by omega⟩ | exact Nat.le_of_ble_eq_true rfl) rfl ?_ | refine r_ev_on tab_ok rfl rfl rfl rfl rfl rfl (by first | exact trivial | exact ⟨by omega, by omega⟩ | omega) rfl ?_) | refine r_g rfl rfl rfl ?_)
  refine r_call (show PCalls Tryd.prog 19 [.val (.string ((⟨(comS L (wsL l)).toArray⟩ : ByteArray) ++ (⟨#[47, 42]⟩ : ByteArray) ++ inner ++ (⟨#[32, 120]⟩ : ByteArray)))] (.sl 6 (T.map tD)) by rw [hcat2, ← ht2]; exact all2_ok _ hzD) call19 rfl rfl ⟨Sub.refl _, trivial⟩ rfl rfl rfl rfl ?_
  repeat (first | (refine r_id ?_; first | refine r_ev_on tab_ok rfl rfl rfl rfl rfl rfl (by first | exact trivial | exact ⟨by omega, by omega⟩ | omega) rfl ?_) | refine r_g rfl rfl rfl ?_)
  refine r_call (eqtoks_self T hwl) call14 rfl rfl ⟨Sub.refl _, Sub.refl _, trivial⟩ rfl rfl rfl rfl ?_
  repeat (first | (refine r_id ?_; first | refine r_ev tab_ok rfl rfl rfl rfl (by first | exact trivial | exact ⟨by omega, by omega⟩ | omega | exact ⟨by omega, by omega, by omega, by omega⟩ | exact Nat.le_of_ble_eq_true rfl) rfl ?_ | refine r_pick_t rfl rfl rfl rfl rfl rfl rfl ?_) | refine r_g rfl rfl rfl ?_)
  refine r_call awake2_ok call12 rfl rfl trivial rfl rfl rfl rfl ?_
  repeat (first | refine thenA_normal ?_ | refine awp_ret ?_ | refine r_done ?_ | (refine r_id ?_; first | refine r_ev tab_ok rfl rfl rfl rfl (by first | exact trivial | exact ⟨by omega, by omega⟩ | omega | exact ⟨by omega, by omega, by omega, by omega⟩ | exact Nat.le_of_ble_eq_true rfl) rfl ?_ | refine r_pick_t rfl rfl rfl rfl rfl rfl rfl ?_) | refine ret1 (by first | exact .inl rfl | exact .inr rfl) rfl rfl rfl ?_)
  exact Sub.refl _
end Go.Proofs.YtbjinibmkkmhkaaDoor
