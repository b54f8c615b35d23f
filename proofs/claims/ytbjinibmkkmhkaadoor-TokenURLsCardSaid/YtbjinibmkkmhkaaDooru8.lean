/- Urls: what stands between the parentheses. -/
import Derived.Test.YtbjinibmkkmhkaaDooru6
namespace Go.Proofs.YtbjinibmkkmhkaaDoor
open Go Go.RowKit
set_option maxRecDepth 20000

theorem urlR_let (R : List Int) : ∀ w : List UInt8, w.all ltB = true → urlR (w.map bI ++ R) = ((w.map bI ++ (urlR R).1.1, (urlR R).1.2), (urlR R).2)
  | [], _ => rfl
  | c :: w, h => by
    rw [List.all_cons, Bool.and_eq_true] at h
    have hc : 97 ≤ bI c ∧ bI c ≤ 122 := by
      have := h.1
      rw [ltB, Bool.and_eq_true, decide_eq_true_eq, decide_eq_true_eq] at this
      unfold bI; omega
    have e : (c :: w).map bI ++ R = bI c :: (w.map bI ++ R) := rfl
    have hst : uStepL (bI c :: (w.map bI ++ R)) = .inl ([bI c], w.map bI ++ R) := by
      have g0 : gt (bI c :: (w.map bI ++ R)) 0 = bI c := rfl
      have hw : ¬ whiteF (bI c) = true := by simp only [whiteF, Bool.or_eq_true, decide_eq_true_eq]; omega
      have hb : ¬ (badF (bI c) || (decide (bI c = 92) && !escL (bI c :: (w.map bI ++ R)))) = true := by
        rw [decide_eq_false (by omega), Bool.false_and, Bool.or_false]
        simp only [badF, Bool.or_eq_true, Bool.and_eq_true, decide_eq_true_eq]
        omega
      rw [uStepL, g0, if_neg (by omega), if_neg hw, if_neg hb, if_neg (by omega)]
      rfl
    rw [e, urlR_go hst, urlR_let R w h.2]
    rfl
theorem urlR_close (R : List Int) : urlR (41 :: R) = (([], true), R) := urlR_no (r := (R, true)) (by
  have g0 : gt (41 :: R) 0 = 41 := rfl
  rw [uStepL, g0, if_pos (.inr rfl), if_pos rfl]; rfl)
theorem urlR_nil : urlR [] = (([], true), []) := urlR_no (r := ([], true)) rfl
theorem white_ne {c : Int} (h : whiteF c = true) : ¬ (c < 0 ∨ c = 41) := by
  have := badF_white h
  omega
/-- White, and the end. -/
theorem urlR_white (b : List UInt8) (hb : (b.map bI).all whiteF = true) (R : List Int) (hR : R = [] ∨ ∃ Q, R = 41 :: Q) : urlR (b.map bI ++ R) = urlR R := by
  match b, hb with
  | [], _ => rfl
  | c :: b, hb =>
    have hc : whiteF (bI c) = true := by rw [List.map_cons, List.all_cons, Bool.and_eq_true] at hb; exact hb.1
    have hw : wL ((c :: b).map bI ++ R) = R := wL_run _ R hb (by rcases hR with rfl | ⟨Q, rfl⟩ <;> rfl)
    have hst : uStepL ((c :: b).map bI ++ R) = .inl ([], R) := by
      have g0 : gt ((c :: b).map bI ++ R) 0 = bI c := rfl
      rw [uStepL, g0, if_neg (white_ne hc), if_pos hc, hw, if_pos (by rcases hR with rfl | ⟨Q, rfl⟩; exact .inl (by decide); exact .inr rfl)]
    rw [urlR_go hst]
    rfl
def blF (n : Nat) : List UInt8 := [32, 10, 9, 32].take n
theorem bl_white : ∀ n, ((blF n).map bI).all whiteF = true
  | 0 => rfl
  | 1 => rfl
  | 2 => rfl
  | 3 => rfl
  | n + 4 => by rw [blF, List.take_of_length_le (by simp)]; rfl
theorem let_white {c : UInt8} (h : ltB c = true) : whiteF (bI c) = false ∧ bI c ≠ 34 ∧ bI c ≠ 39 := by
  rw [ltB, Bool.and_eq_true, decide_eq_true_eq, decide_eq_true_eq] at h
  refine ⟨?_, by unfold bI; omega, by unfold bI; omega⟩
  rw [Bool.eq_false_iff]
  simp only [ne_eq, whiteF, Bool.or_eq_true, decide_eq_true_eq]
  unfold bI; omega
/-- White, a word, White, the end. -/
theorem urlL_in (n : Nat) (w : List UInt8) (hw : w.all ltB = true) (R : List Int) (hR : R = [] ∨ ∃ Q, R = 41 :: Q) : urlR (wL ((blF n).map bI ++ (w.map bI ++ ((blF n).map bI ++ R)))) = ((w.map bI, true), (urlR R).2) ∧ gt (wL ((blF n).map bI ++ (w.map bI ++ ((blF n).map bI ++ R)))) 0 ≠ 34 ∧ gt (wL ((blF n).map bI ++ (w.map bI ++ ((blF n).map bI ++ R)))) 0 ≠ 39 := by
  have hRr : urlR R = (([], true), (urlR R).2) := by rcases hR with rfl | ⟨Q, rfl⟩; exact urlR_nil; rw [urlR_close]
  have hRw : whiteF (gt R 0) = false := by rcases hR with rfl | ⟨Q, rfl⟩ <;> rfl
  cases w with
  | nil =>
    have e : (blF n).map bI ++ (([] : List UInt8).map bI ++ ((blF n).map bI ++ R)) = ((blF n).map bI ++ (blF n).map bI) ++ R := by simp
    have hr := wL_run ((blF n).map bI ++ (blF n).map bI) R (by rw [List.all_append, bl_white]; rfl) hRw
    rw [e, hr]
    refine ⟨hRr, ?_⟩
    rcases hR with rfl | ⟨Q, rfl⟩
    · exact ⟨by decide, by decide⟩
    · exact ⟨by show (41 : Int) ≠ 34; decide, by show (41 : Int) ≠ 39; decide⟩
  | cons c q =>
    have hc : ltB c = true := by rw [List.all_cons, Bool.and_eq_true] at hw; exact hw.1
    have hr := wL_run ((blF n).map bI) ((c :: q).map bI ++ ((blF n).map bI ++ R)) (bl_white n) (let_white hc).1
    rw [hr, urlR_let _ _ hw, urlR_white _ (bl_white n) R hR, hRr]
    exact ⟨by simp, (let_white hc).2⟩
def urlB : List UInt8 := [117, 114, 108, 40]
def UrLB : List UInt8 := [85, 114, 76, 40]
theorem idt_url (a b c : Int) (h : letF a = true ∧ nameF a = true ∧ nameF b = true ∧ nameF c = true) (hl : lowS (runesBytes [a, b, c]) = urlS) (X : List Int) (hq : gt (wL X) 0 ≠ 34 ∧ gt (wL X) 0 ≠ 39) : tokL (a :: b :: c :: 40 :: X) = urlL X := by
  have hn := nameL_word [a, b, c] (40 :: X) (by rw [List.all_cons, List.all_cons, List.all_cons, h.2.1, h.2.2.1, h.2.2.2]; rfl) (by show nameF 40 = false; rfl) (by show (40 : Int) ≠ 92; decide)
  rw [tokL_let (by exact h.1), idtL]
  rw [show a :: b :: c :: 40 :: X = [a, b, c] ++ 40 :: X from rfl, hn]
  simp only
  rw [if_pos (show gt (40 :: X) 0 = 40 from rfl), if_pos hl]
  show (if gt (wL X) 0 = 34 ∨ gt (wL X) 0 = 39 then _ else urlL X) = _
  rw [if_neg (fun h => by rcases h with h | h; exact hq.1 h; exact hq.2 h)]
theorem idt_quote (X : List Int) (hq : gt (wL X) 0 = 34 ∨ gt (wL X) 0 = 39) : tokL (117 :: 114 :: 108 :: 40 :: X) = (tkK 2 ⟨#[117, 114, 108]⟩, X.drop (X.length - (wL X).length - 1)) := by
  have hn := nameL_word [117, 114, 108] (40 :: X) rfl (by show nameF 40 = false; rfl) (by show (40 : Int) ≠ 92; decide)
  have hr : runesBytes [117, 114, 108] = ⟨#[117, 114, 108]⟩ := by kernel_rfl
  have hl : lowS ⟨#[117, 114, 108]⟩ = urlS := by kernel_rfl
  rw [tokL_let (by show letF 117 = true; rfl), idtL]
  rw [show (117 : Int) :: 114 :: 108 :: 40 :: X = [117, 114, 108] ++ 40 :: X from rfl, hn]
  simp only
  rw [if_pos (show gt (40 :: X) 0 = 40 from rfl), hr, if_pos hl]
  show (if gt (wL X) 0 = 34 ∨ gt (wL X) 0 = 39 then (tkK 2 ⟨#[117, 114, 108]⟩, X.drop (X.length - (wL X).length - 1)) else urlL X) = _
  rw [if_pos hq]
theorem low_url : lowS (runesBytes [117, 114, 108]) = urlS := by kernel_rfl
theorem low_UrL : lowS (runesBytes [85, 114, 76]) = urlS := by kernel_rfl
theorem toksL_let (c : Int) (X : List Int) (h : letF c = true) : toksL (c :: X) = (tokL (c :: X)).1 :: toksL (tokL (c :: X)).2 := by
  have := let_facts h
  exact toksL_at (l := c :: X) (by show 0 ≤ c; omega) (.inl (by show c ≠ 47; omega))
theorem toks_z : toksL [122] = [tkK 1 ⟨#[122]⟩] := by kernel_rfl
theorem lt_run (w : List UInt8) (h : w.all ltB = true) : runesBytes (w.map bI) = ⟨w.toArray⟩ :=
  runes_ascii w (List.all_eq_true.2 fun c hc => decide_eq_true (lt_facts (List.all_eq_true.1 h c hc)).2.2.2)
theorem lt_pl (w : List UInt8) (h : w.all ltB = true) : w.all plB = true := List.all_eq_true.2 fun c hc => (lt_facts (List.all_eq_true.1 h c hc)).1
theorem bl_pl : ∀ n, (blF n).all plB = true
  | 0 => rfl
  | 1 => rfl
  | 2 => rfl
  | 3 => rfl
  | n + 4 => by rw [blF, List.take_of_length_le (by simp)]; rfl
/-- Bytes that are their own signs: their tokens. -/
theorem toks_pl (l : List UInt8) (h : l.all plB = true) : toks ⟨l.toArray⟩ = toksL (l.map bI) := by rw [toks, read_pl l h, ← toks_L]
section
variable (n : Nat) (w : List UInt8) (h : w.all ltB = true)
include h
theorem url0 : toks ⟨(UrLB ++ (blF n ++ (w ++ (blF n ++ [41, 122])))).toArray⟩ = [tkK 7 ⟨w.toArray⟩, tkK 1 ⟨#[122]⟩] := by
  have hi := urlL_in n w h [41, 122] (.inr ⟨[122], rfl⟩)
  rw [toks_pl _ (by simp only [List.all_append, bl_pl, lt_pl w h]; rfl)]
  simp only [List.map_append]
  show toksL (85 :: 114 :: 76 :: 40 :: ((blF n).map bI ++ (w.map bI ++ ((blF n).map bI ++ [41, 122])))) = _
  rw [toksL_let 85 _ rfl, idt_url 85 114 76 ⟨rfl, rfl, rfl, rfl⟩ low_UrL _ hi.2, url_R, hi.1, urlR_close]
  simp only [if_true]
  rw [lt_run w h, toks_z]
theorem url1 : toks ⟨(urlB ++ (blF n ++ (w ++ (blF n ++ [])))).toArray⟩ = [tkK 7 ⟨w.toArray⟩] := by
  have hi := urlL_in n w h [] (.inl rfl)
  rw [toks_pl _ (by simp only [List.all_append, bl_pl, lt_pl w h]; rfl)]
  simp only [List.map_append]
  show toksL (117 :: 114 :: 108 :: 40 :: ((blF n).map bI ++ (w.map bI ++ ((blF n).map bI ++ [])))) = _
  rw [toksL_let 117 _ rfl, idt_url 117 114 108 ⟨rfl, rfl, rfl, rfl⟩ low_url _ hi.2, url_R, hi.1, urlR_nil]
  simp only [if_true]
  rw [lt_run w h, toksL_nil]
theorem url2 : toks ⟨(urlB ++ (blF n ++ (97 :: (w ++ [32, 98, 41, 122])))).toArray⟩ = [tkK 8 ⟨#[]⟩, tkK 1 ⟨#[122]⟩] := by
  have hr := wL_run ((blF n).map bI) ((97 :: w).map bI ++ [32, 98, 41, 122]) (bl_white n) (by rfl)
  have hb : urlR [32, 98, 41, 122] = (([], false), [122]) := by kernel_rfl
  rw [toks_pl _ (by rw [List.all_append, List.all_append, bl_pl, List.all_cons, List.all_append, lt_pl w h]; rfl)]
  simp only [List.map_append]
  show toksL (117 :: 114 :: 108 :: 40 :: ((blF n).map bI ++ ((97 :: (w ++ [32, 98, 41, 122])).map bI))) = _
  rw [show ((97 :: (w ++ [32, 98, 41, 122])).map bI) = (97 :: w).map bI ++ [32, 98, 41, 122] by simp [bI]]
  rw [toksL_let 117 _ rfl, idt_url 117 114 108 ⟨rfl, rfl, rfl, rfl⟩ low_url _ (by rw [hr]; exact ⟨by show (97 : Int) ≠ 34; decide, by show (97 : Int) ≠ 39; decide⟩), url_R, hr, urlR_let _ (97 :: w) (by rw [List.all_cons, h]; rfl), hb]
  simp only [Bool.false_eq_true, if_false]
  rw [toks_z]
theorem url3 : toks ⟨(urlB ++ (97 :: (w ++ [34, 98, 92, 41, 32, 99, 41, 122]))).toArray⟩ = [tkK 8 ⟨#[]⟩, tkK 1 ⟨#[122]⟩] := by
  have hr : wL ((97 :: w).map bI ++ [34, 98, 92, 41, 32, 99, 41, 122]) = (97 :: w).map bI ++ [34, 98, 92, 41, 32, 99, 41, 122] := wL_no rfl
  have hb : urlR [34, 98, 92, 41, 32, 99, 41, 122] = (([], false), [122]) := by kernel_rfl
  rw [toks_pl _ (by rw [List.all_append, List.all_cons, List.all_append, lt_pl w h]; rfl)]
  simp only [List.map_append]
  show toksL (117 :: 114 :: 108 :: 40 :: ((97 :: (w ++ [34, 98, 92, 41, 32, 99, 41, 122])).map bI)) = _
  rw [show ((97 :: (w ++ [34, 98, 92, 41, 32, 99, 41, 122])).map bI) = (97 :: w).map bI ++ [34, 98, 92, 41, 32, 99, 41, 122] by simp [bI]]
  rw [toksL_let 117 _ rfl, idt_url 117 114 108 ⟨rfl, rfl, rfl, rfl⟩ low_url _ (by rw [hr]; exact ⟨by show (97 : Int) ≠ 34; decide, by show (97 : Int) ≠ 39; decide⟩), url_R, hr, urlR_let _ (97 :: w) (by rw [List.all_cons, h]; rfl), hb]
  simp only [Bool.false_eq_true, if_false]
  rw [toks_z]
theorem url5 : toks ⟨(urlB ++ (w ++ (92 :: 50 :: 57 :: 32 :: (w ++ [41, 122])))).toArray⟩ = [tkK 7 ⟨(w ++ (41 :: w)).toArray⟩, tkK 1 ⟨#[122]⟩] := by
  have hb : urlR (92 :: 50 :: 57 :: 32 :: (w.map bI ++ [41, 122])) = ((41 :: w.map bI, true), [122]) := by
    have hst : uStepL (92 :: 50 :: 57 :: 32 :: (w.map bI ++ [41, 122])) = .inl ([41], w.map bI ++ [41, 122]) := by kernel_rfl
    rw [urlR_go hst, urlR_let _ w h, urlR_close]
    simp
  have hw0 : whiteF (gt (w.map bI ++ 92 :: 50 :: 57 :: 32 :: (w.map bI ++ [41, 122])) 0) = false ∧ gt (w.map bI ++ 92 :: 50 :: 57 :: 32 :: (w.map bI ++ [41, 122])) 0 ≠ 34 ∧ gt (w.map bI ++ 92 :: 50 :: 57 :: 32 :: (w.map bI ++ [41, 122])) 0 ≠ 39 := by
    cases w with
    | nil => exact ⟨rfl, by show (92 : Int) ≠ 34; decide, by show (92 : Int) ≠ 39; decide⟩
    | cons c q => exact let_white (by rw [List.all_cons, Bool.and_eq_true] at h; exact h.1)
  have hr := wL_no hw0.1
  rw [toks_pl _ (by rw [List.all_append, List.all_append, lt_pl w h, List.all_cons, List.all_cons, List.all_cons, List.all_cons, List.all_append, lt_pl w h]; rfl)]
  simp only [List.map_append]
  show toksL (117 :: 114 :: 108 :: 40 :: (w.map bI ++ (92 :: 50 :: 57 :: 32 :: (w ++ [41, 122])).map bI)) = _
  rw [show ((92 :: 50 :: 57 :: 32 :: (w ++ [41, 122]) : List UInt8)).map bI = 92 :: 50 :: 57 :: 32 :: (w.map bI ++ [41, 122]) by simp [bI]]
  rw [toksL_let 117 _ rfl, idt_url 117 114 108 ⟨rfl, rfl, rfl, rfl⟩ low_url _ (by rw [hr]; exact hw0.2), url_R, hr, urlR_let _ w h, hb]
  simp only [if_true]
  rw [show w.map bI ++ 41 :: w.map bI = (w ++ 41 :: w).map bI by simp [bI], toks_z]
  rw [runes_ascii (w ++ 41 :: w) (by
    rw [List.all_append, List.all_cons]
    have : w.all (fun c => decide (c.toNat < 128)) = true := List.all_eq_true.2 fun c hc => decide_eq_true (lt_facts (List.all_eq_true.1 h c hc)).2.2.2
    rw [this]; rfl)]
theorem url4 : toks ⟨(urlB ++ (blF n ++ (39 :: (w ++ [39, 41, 122])))).toArray⟩ = tkK 2 ⟨#[117, 114, 108]⟩ :: ((if n = 0 then [] else [tkK 13 ⟨#[]⟩]) ++ [tkK 5 ⟨w.toArray⟩, tkK 20 ⟨#[41]⟩, tkK 1 ⟨#[122]⟩]) := by
  have hw39 : ∀ X : List Int, wL (39 :: X) = 39 :: X := fun X => wL_no rfl
  have hr := wL_run ((blF n).map bI) (39 :: (w.map bI ++ [39, 41, 122])) (bl_white n) (by rfl)
  have hstr : toksL (39 :: (w.map bI ++ [39, 41, 122])) = [tkK 5 ⟨w.toArray⟩, tkK 20 ⟨#[41]⟩, tkK 1 ⟨#[122]⟩] := by
    have hpr : w.all prB = true := List.all_eq_true.2 fun c hc => by
      have := List.all_eq_true.1 h c hc
      rw [ltB, Bool.and_eq_true, decide_eq_true_eq, decide_eq_true_eq] at this
      rw [prB, Bool.and_eq_true, Bool.and_eq_true, decide_eq_true_eq, decide_eq_true_eq, Bool.not_eq_true', decide_eq_false_iff_not]
      omega
    have htq : tqF 39 w = w := by
      have : ∀ v : List UInt8, v.all ltB = true → tqF 39 v = v := by
        intro v
        induction v with
        | nil => intro _; rfl
        | cons c v ih =>
          intro hv
          rw [List.all_cons, Bool.and_eq_true] at hv
          have hc : c ≠ 39 := fun h2 => by
            subst h2
            exact absurd hv.1 (by decide)
          rw [tq_cons, if_neg hc, ih hv.2]; rfl
      exact this w h
    have hq := quoR_tq 39 (.inr rfl) [39, 41, 122] w hpr
    rw [htq, show bI 39 = (39 : Int) from rfl] at hq
    have he : quoR 39 [39, 41, 122] = (([], true), [41, 122]) := quoR_no (r := ([41, 122], true)) rfl
    have h3 : toksL [41, 122] = [tkK 20 ⟨#[41]⟩, tkK 1 ⟨#[122]⟩] := by kernel_rfl
    rw [toksL_quote 39 (.inr rfl), hq, he]
    simp only [List.append_nil, if_true]
    rw [pr_run w hpr, h3]
  rw [toks_pl _ (by rw [List.all_append, List.all_append, bl_pl, List.all_cons, List.all_append, lt_pl w h]; rfl)]
  simp only [List.map_append]
  show toksL (117 :: 114 :: 108 :: 40 :: ((blF n).map bI ++ ((39 :: (w ++ [39, 41, 122])).map bI))) = _
  rw [show ((39 :: (w ++ [39, 41, 122])).map bI) = 39 :: (w.map bI ++ [39, 41, 122]) by simp [bI]]
  rw [toksL_let 117 _ rfl, idt_quote _ (by rw [hr]; exact .inr rfl), hr]
  simp only
  congr 1
  have hd : ∀ (B : List Int), (B ++ 39 :: (w.map bI ++ [39, 41, 122])).length - (39 :: (w.map bI ++ [39, 41, 122])).length - 1 = B.length - 1 := fun B => by rw [List.length_append]; omega
  rw [hd]
  match n with
  | 0 => rw [if_pos rfl]; exact hstr
  | 1 => rw [if_neg (by decide), ← hstr]; exact toksL_white 32 [] _ rfl rfl
  | 2 => rw [if_neg (by decide), ← hstr]; exact toksL_white 10 [] _ rfl rfl
  | 3 => rw [if_neg (by decide), ← hstr]; exact toksL_white 9 [] _ rfl rfl
  | n + 4 =>
    have : blF (n + 4) = [32, 10, 9, 32] := by rw [blF, List.take_of_length_le (by simp)]
    rw [this, if_neg (by omega), ← hstr]
    exact toksL_white 32 [] _ rfl rfl
end
end Go.Proofs.YtbjinibmkkmhkaaDoor
