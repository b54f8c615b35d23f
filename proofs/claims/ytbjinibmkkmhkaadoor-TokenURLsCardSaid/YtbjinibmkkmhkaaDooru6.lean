/- The law TokenStrings. -/
import Derived.Test.YtbjinibmkkmhkaaDooru4
import Derived.Test.YtbjinibmkkmhkaaDooru5
import Derived.Test.YtbjinibmkkmhkaaDoorr7
namespace Go.Proofs.YtbjinibmkkmhkaaDoor
open Go Go.RowKit
set_option maxRecDepth 20000

def prB (c : UInt8) : Bool := decide (32 ≤ c.toNat) && decide (c.toNat ≤ 126) && !decide (c.toNat = 92)
theorem pr_facts {c : UInt8} (h : prB c = true) : 32 ≤ c.toNat ∧ c.toNat ≤ 126 ∧ c.toNat ≠ 92 ∧ plB c = true := by
  rw [prB, Bool.and_eq_true, Bool.and_eq_true, decide_eq_true_eq, decide_eq_true_eq, Bool.not_eq_true', decide_eq_false_iff_not] at h
  refine ⟨h.1.1, h.1.2, h.2, ?_⟩
  simp only [plB, Bool.and_eq_true, decide_eq_true_eq, Bool.not_eq_true', decide_eq_false_iff_not]
  omega
/-- A text as it stands between quotes. -/
def tqF (q : UInt8) (s : List UInt8) : List UInt8 := s.flatMap fun c => if c = q then [92, c] else [c]
theorem tq_cons (q c : UInt8) (s : List UInt8) : tqF q (c :: s) = (if c = q then [92, c] else [c]) ++ tqF q s := rfl
theorem tq_pl (q : UInt8) : ∀ s : List UInt8, s.all prB = true → (tqF q s).all plB = true
  | [], _ => rfl
  | c :: s, h => by
    rw [List.all_cons, Bool.and_eq_true] at h
    have h1 := (pr_facts h.1).2.2.2
    rw [tq_cons, List.all_append, tq_pl q s h.2, Bool.and_true]
    split
    · rw [List.all_cons, List.all_cons, h1]; rfl
    · rw [List.all_cons, h1]; rfl
theorem tq_len (q : UInt8) : ∀ s : List UInt8, (tqF q s).length ≤ 2 * s.length
  | [] => Nat.le_refl _
  | c :: s => by
    have := tq_len q s
    rw [tq_cons, List.length_append, List.length_cons]
    split <;> simp only [List.length_cons, List.length_nil] <;> omega
theorem quoR_tq (q : UInt8) (hq : q = 34 ∨ q = 39) (R : List Int) : ∀ s : List UInt8, s.all prB = true → quoR (bI q) ((tqF q s).map bI ++ R) = ((s.map bI ++ (quoR (bI q) R).1.1, (quoR (bI q) R).1.2), (quoR (bI q) R).2)
  | [], _ => rfl
  | c :: s, h => by
    rw [List.all_cons, Bool.and_eq_true] at h
    have hc := pr_facts h.1
    have ih := quoR_tq q hq R s h.2
    have hbq : bI q = 34 ∨ bI q = 39 := by rcases hq with rfl | rfl; exact .inl rfl; exact .inr rfl
    rw [tq_cons]
    by_cases he : c = q
    · subst he
      rw [if_pos rfl]
      have e : ([92, c] ++ tqF c s).map bI ++ R = 92 :: bI c :: ((tqF c s).map bI ++ R) := rfl
      have hst : qStepL (bI c) (92 :: bI c :: ((tqF c s).map bI ++ R)) = .inl ([bI c], (tqF c s).map bI ++ R) := by
        have g0 : gt (92 :: bI c :: ((tqF c s).map bI ++ R)) 0 = 92 := rfl
        have g1 : gt (92 :: bI c :: ((tqF c s).map bI ++ R)) 1 = bI c := rfl
        have hx : escEL (bI c :: ((tqF c s).map bI ++ R)) = (bI c, (tqF c s).map bI ++ R) := by
          have g2 : gt (bI c :: ((tqF c s).map bI ++ R)) 0 = bI c := rfl
          have hf : (hexF (bI c)).2 = false := by rcases hbq with h | h <;> rw [h] <;> rfl
          rw [escEL, g2, if_neg (by omega), if_pos hf]
          rfl
        rw [qStepL, g0, g1, if_neg (by decide), if_neg (by omega), if_neg (by decide), if_neg (by omega), if_neg (by omega), if_pos rfl]
        show Sum.inl ([(escEL (bI c :: ((tqF c s).map bI ++ R))).1], (escEL (bI c :: ((tqF c s).map bI ++ R))).2) = _
        rw [hx]
      rw [e, quoR_go hst, ih]
      rfl
    · rw [if_neg he]
      have e : ([c] ++ tqF q s).map bI ++ R = bI c :: ((tqF q s).map bI ++ R) := rfl
      have hne : bI c ≠ bI q := fun h2 => he (by
        have : c.toNat = q.toNat := by unfold bI at h2; omega
        exact UInt8.toNat_inj.1 this)
      have hst : qStepL (bI q) (bI c :: ((tqF q s).map bI ++ R)) = .inl ([bI c], (tqF q s).map bI ++ R) := by
        have g0 : gt (bI c :: ((tqF q s).map bI ++ R)) 0 = bI c := rfl
        have h1 : 32 ≤ bI c ∧ bI c ≠ 92 := by unfold bI; omega
        rw [qStepL, g0, if_neg (by omega), if_neg hne, if_neg (by omega), if_neg (fun h => h1.2 h.1), if_neg (fun h => h1.2 h.1), if_neg h1.2]
        rfl
      rw [e, quoR_go hst, ih]
      rfl
theorem tokL_quote (q : Int) (hq : q = 34 ∨ q = 39) (X : List Int) : tokL (q :: X) = (if (quoR q X).1.2 = true then tkK 5 (runesBytes (quoR q X).1.1) else tkK 6 ⟨#[]⟩, (quoR q X).2) := by
  have g0 : gt (q :: X) 0 = q := rfl
  have hw : ¬ whiteF q = true := by simp only [whiteF, Bool.or_eq_true, decide_eq_true_eq]; omega
  rw [tokL, g0, if_neg (plI_no (by omega)), if_neg hw, if_pos hq]
  show quoL q X = _
  rw [quo_R]
theorem toksL_quote (q : Int) (hq : q = 34 ∨ q = 39) (X : List Int) : toksL (q :: X) = (if (quoR q X).1.2 = true then tkK 5 (runesBytes (quoR q X).1.1) else tkK 6 ⟨#[]⟩) :: toksL (quoR q X).2 := by
  rw [toksL_at (l := q :: X) (by show 0 ≤ q; omega) (.inl (by show q ≠ 47; omega)), tokL_quote q hq]
theorem pr_run (s : List UInt8) (h : s.all prB = true) : runesBytes (s.map bI) = ⟨s.toArray⟩ :=
  runes_ascii s (List.all_eq_true.2 fun c hc => decide_eq_true (by have := pr_facts (List.all_eq_true.1 h c hc); omega))
section
variable (q : UInt8) (hq : q = 34 ∨ q = 39) (s : List UInt8) (h : s.all prB = true)
include hq h
theorem str_read (tail : List UInt8) (ht : tail.all plB = true) : toks ⟨(q :: (tqF q s ++ tail)).toArray⟩ = toksL (bI q :: ((tqF q s).map bI ++ tail.map bI)) := by
  rw [toks, read_pl, ← toks_L, List.map_cons, List.map_append]
  rw [List.all_cons, List.all_append, tq_pl q s h, ht]
  rcases hq with rfl | rfl <;> rfl
omit h in
theorem bq : bI q = 34 ∨ bI q = 39 := by rcases hq with rfl | rfl; exact .inl rfl; exact .inr rfl
theorem str0 : toks ⟨(q :: (tqF q s ++ [q, 97])).toArray⟩ = [tkK 5 ⟨s.toArray⟩, tkK 1 ⟨#[97]⟩] := by
  have hb := bq q hq
  have he : quoR (bI q) [bI q, 97] = (([], true), [97]) := quoR_no (r := ([97], true)) (by
    have g0 : gt [bI q, 97] 0 = bI q := rfl
    rw [qStepL, g0, if_neg (by omega), if_pos rfl]; rfl)
  have h97 : toksL [97] = [tkK 1 ⟨#[97]⟩] := by kernel_rfl
  rw [str_read q hq s h [q, 97] (by rcases hq with rfl | rfl <;> rfl), toksL_quote _ hb, quoR_tq q hq _ s h]
  show (if (quoR (bI q) [bI q, 97]).1.2 = true then _ else _) :: _ = _
  rw [show [q, 97].map bI = [bI q, 97] from rfl, he]
  simp only [List.append_nil, if_true]
  rw [pr_run s h, h97]
theorem str1 : toks ⟨(q :: (tqF q s ++ [])).toArray⟩ = [tkK 5 ⟨s.toArray⟩] := by
  have hb := bq q hq
  have he : quoR (bI q) [] = (([], true), []) := quoR_no (r := ([], true)) rfl
  rw [str_read q hq s h [] rfl, toksL_quote _ hb, quoR_tq q hq _ s h]
  rw [show ([] : List UInt8).map bI = [] from rfl, he]
  simp only [List.append_nil, if_true]
  rw [pr_run s h, toksL_nil]
theorem str2 : toks ⟨(q :: (tqF q s ++ [10, 98])).toArray⟩ = [tkK 6 ⟨#[]⟩, tkK 13 ⟨#[]⟩, tkK 1 ⟨#[98]⟩] := by
  have hb := bq q hq
  have he : quoR (bI q) [10, 98] = (([], false), [10, 98]) := quoR_no (r := ([10, 98], false)) (by
    have g0 : gt [10, 98] 0 = 10 := rfl
    rw [qStepL, g0, if_neg (by decide), if_neg (by omega), if_pos rfl])
  have h98 : toksL [10, 98] = [tkK 13 ⟨#[]⟩, tkK 1 ⟨#[98]⟩] := by kernel_rfl
  rw [str_read q hq s h [10, 98] rfl, toksL_quote _ hb, quoR_tq q hq _ s h]
  rw [show ([10, 98] : List UInt8).map bI = [10, 98] from rfl, he]
  simp only [Bool.false_eq_true, if_false]
  rw [h98]
theorem str3 : toks ⟨(q :: (tqF q s ++ (92 :: 10 :: (tqF q s ++ [q])))).toArray⟩ = [tkK 5 ⟨(s ++ s).toArray⟩] := by
  have hb := bq q hq
  have he : quoR (bI q) [bI q] = (([], true), []) := quoR_no (r := ([], true)) (by
    have g0 : gt [bI q] 0 = bI q := rfl
    rw [qStepL, g0, if_neg (by omega), if_pos rfl]; rfl)
  have hl : quoR (bI q) (92 :: 10 :: ((tqF q s).map bI ++ [bI q])) = quoR (bI q) ((tqF q s).map bI ++ [bI q]) := by
    have hst : qStepL (bI q) (92 :: 10 :: ((tqF q s).map bI ++ [bI q])) = .inl ([], (tqF q s).map bI ++ [bI q]) := by
      have g0 : gt (92 :: 10 :: ((tqF q s).map bI ++ [bI q])) 0 = 92 := rfl
      have g1 : gt (92 :: 10 :: ((tqF q s).map bI ++ [bI q])) 1 = 10 := rfl
      rw [qStepL, g0, g1, if_neg (by decide), if_neg (by omega), if_neg (by decide), if_neg (by decide), if_pos ⟨rfl, rfl⟩]
      rfl
    rw [quoR_go hst]
    rfl
  rw [str_read q hq s h (92 :: 10 :: (tqF q s ++ [q])) (by
    rw [List.all_cons, List.all_cons, List.all_append, tq_pl q s h]; rcases hq with rfl | rfl <;> rfl), toksL_quote _ hb, quoR_tq q hq _ s h]
  rw [show ((92 :: 10 :: (tqF q s ++ [q]) : List UInt8)).map bI = 92 :: 10 :: ((tqF q s).map bI ++ [bI q]) by simp [bI], hl, quoR_tq q hq _ s h, he]
  simp only [List.append_nil, if_true]
  rw [← List.map_append, pr_run (s ++ s) (by rw [List.all_append, h]; rfl), toksL_nil]
end
end Go.Proofs.YtbjinibmkkmhkaaDoor
