import Derived.Test.YtbjinibmkkmhkaaDoorKd
/- The reader said over lists: each part as a function of the signs that are left. -/
namespace Go.Proofs.YtbjinibmkkmhkaaDoor
open Go Go.RowKit

/-- The sign so many places on; -1: the end. -/
def gt : List Int → Nat → Int
  | [], _ => -1
  | c :: _, 0 => c
  | _ :: l, k + 1 => gt l k
theorem gt_get (l : List Int) : ∀ k, gt l k = (l[k]?).getD (-1) := by
  induction l with
  | nil => intro k; rfl
  | cons c l ih =>
    intro k
    cases k with
    | zero => rfl
    | succ k => rw [gt, ih k]; rfl
theorem sg_gt (L : List Int) (i : Nat) : sg L (i : Int) = gt (L.drop i) 0 := by
  rw [gt_get, List.getElem?_drop, Nat.add_zero]
  unfold sg
  by_cases h : i < L.length
  · rw [dif_pos ⟨by omega, by simpa using h⟩, List.getElem?_eq_getElem h]; rfl
  · rw [dif_neg (by omega), List.getElem?_eq_none (by omega)]; rfl
theorem gt_drop (l : List Int) (j k : Nat) : gt (l.drop j) k = gt l (j + k) := by rw [gt_get, gt_get, List.getElem?_drop]
theorem sg_gt1 (L : List Int) (i : Nat) : sg L ((i : Int) + 1) = gt (L.drop i) 1 := by
  rw [show (i : Int) + 1 = ((i + 1 : Nat) : Int) from rfl, sg_gt, gt_drop, gt_drop, Nat.add_zero]
theorem sg_gt2 (L : List Int) (i : Nat) : sg L ((i : Int) + 2) = gt (L.drop i) 2 := by
  rw [show (i : Int) + 2 = ((i + 2 : Nat) : Int) from rfl, sg_gt, gt_drop, gt_drop, Nat.add_zero]
theorem sg_gt3 (L : List Int) (i : Nat) : sg L ((i : Int) + 3) = gt (L.drop i) 3 := by
  rw [show (i : Int) + 3 = ((i + 3 : Nat) : Int) from rfl, sg_gt, gt_drop, gt_drop, Nat.add_zero]

section
variable {α R R' : Type}
/-- From list to list, with what each step puts out, to the end. -/
def goL (step : List Int → (List α × List Int) ⊕ R) : Nat → List Int → List α × Option R
  | 0, _ => ([], none)
  | f + 1, l => match step l with
    | .inl (o, l') => (o ++ (goL step f l').1, (goL step f l').2)
    | .inr r => ([], some r)
def goLs (step : List Int → (List α × List Int) ⊕ R) (l : List Int) : List α × Option R := goL step (l.length + 1) l
/-- A step over places, said over lists. -/
def SameStep (L : List Int) (step : Nat → (List α × Nat) ⊕ R) (stepL : List Int → (List α × List Int) ⊕ R') (g : R → R') : Prop :=
  ∀ i, i ≤ L.length → stepL (L.drop i) = Sum.map (fun p => (p.1, L.drop p.2)) g (step i)
theorem goL_goE {L : List Int} {step : Nat → (List α × Nat) ⊕ R} {stepL : List Int → (List α × List Int) ⊕ R'} {g : R → R'} (h : SameStep L step stepL g) (hs : Goes2 L.length step) : ∀ (f i : Nat), i ≤ L.length → goL stepL f (L.drop i) = ((goE step f i).1, (goE step f i).2.map g)
  | 0, _, _ => rfl
  | f + 1, i, hi => by
    rw [goL, h i hi, goE]
    cases e : step i with
    | inr r => rfl
    | inl p => simp only [Sum.map_inl]; rw [goL_goE h hs f p.2 (hs i p.1 p.2 hi e).2.1]
theorem goLs_goAt {L : List Int} {step : Nat → (List α × Nat) ⊕ R} {stepL : List Int → (List α × List Int) ⊕ R'} {g : R → R'} (h : SameStep L step stepL g) (hs : Goes2 L.length step) {i : Nat} (hi : i ≤ L.length) : goLs stepL (L.drop i) = ((goAt L.length step i).1, (goAt L.length step i).2.map g) := by
  rw [goLs, List.length_drop, show L.length - i + 1 = L.length + 1 - i by omega, goL_goE h hs _ _ hi, goAt]
/-- Each step leaves less. -/
def Less (stepL : List Int → (List α × List Int) ⊕ R) : Prop := ∀ l o l', stepL l = .inl (o, l') → l'.length < l.length
theorem goL_fuel {stepL : List Int → (List α × List Int) ⊕ R} (h : Less stepL) : ∀ (f f' : Nat) (l : List Int), l.length < f → l.length < f' → goL stepL f l = goL stepL f' l
  | 0, _, l, hf, _ => by omega
  | _ + 1, 0, l, _, hf => by omega
  | f + 1, f' + 1, l, hf, hf' => by
    rw [goL, goL]
    cases e : stepL l with
    | inr r => rfl
    | inl p =>
      have := h l p.1 p.2 e
      simp only
      rw [goL_fuel h f f' p.2 (by omega) (by omega)]
theorem goLs_go {stepL : List Int → (List α × List Int) ⊕ R} (h : Less stepL) {l l' : List Int} {o : List α} (e : stepL l = .inl (o, l')) : goLs stepL l = (o ++ (goLs stepL l').1, (goLs stepL l').2) := by
  have := h l o l' e
  rw [goLs, goL, e]
  simp only
  rw [goL_fuel h l.length (l'.length + 1) l' (by omega) (by omega), goLs]
theorem goLs_stop {stepL : List Int → (List α × List Int) ⊕ R} {l : List Int} {r : R} (e : stepL l = .inr r) : goLs stepL l = ([], some r) := by
  rw [goLs, goL, e]
theorem less_of {step : (L : List Int) → Nat → (List α × Nat) ⊕ R} {stepL : List Int → (List α × List Int) ⊕ R'} {g : List Int → R → R'} (h : ∀ L, SameStep L (step L) stepL (g L)) (hg : ∀ L, Goes2 L.length (step L)) : Less stepL := by
  intro l o l' e
  have h0 := h l 0 (Nat.zero_le _)
  rw [List.drop_zero, e] at h0
  cases e0 : step l 0 with
  | inr r => rw [e0] at h0; cases h0
  | inl p =>
    rw [e0] at h0
    simp only [Sum.map_inl, Sum.inl.injEq, Prod.mk.injEq] at h0
    have := hg l 0 p.1 p.2 (Nat.zero_le _) e0
    rw [h0.2, List.length_drop]
    omega
end

def escL (l : List Int) : Bool := decide (gt l 0 = 92) && !decide (gt l 1 = 10)
def namesL (l : List Int) : Bool := if gt l 0 = 45 then letF (gt l 1) || decide (gt l 1 = 45) || escL (l.drop 1) else letF (gt l 0) || escL l
theorem escF_L (L : List Int) (i : Nat) : escF L (i : Int) = escL (L.drop i) := by rw [escF, escL, sg_gt, sg_gt1]
theorem escF_L1 (L : List Int) (i : Nat) : escF L ((i : Int) + 1) = escL ((L.drop i).drop 1) := by
  rw [show (i : Int) + 1 = ((i + 1 : Nat) : Int) from rfl, escF_L, List.drop_drop]
theorem namesF_L (L : List Int) (i : Nat) : namesF L (i : Int) = namesL (L.drop i) := by
  rw [namesF, namesL, escF_L, escF_L1, sg_gt, sg_gt1]
theorem namesF_L1 (L : List Int) (i : Nat) : namesF L ((i : Int) + 1) = namesL ((L.drop i).drop 1) := by
  rw [show (i : Int) + 1 = ((i + 1 : Nat) : Int) from rfl, namesF_L, List.drop_drop]
def numsL (l : List Int) : Bool :=
  if gt l 0 = 43 ∨ gt l 0 = 45 then digF (gt l 1) || (decide (gt l 1 = 46) && digF (gt l 2)) else digF (gt l 0) || (decide (gt l 0 = 46) && digF (gt l 1))
theorem numsF_L (L : List Int) (i : Nat) : numsF L (i : Int) = numsL (L.drop i) := by
  rw [numsF, numsL, sg_gt]
  by_cases h : gt (L.drop i) 0 = 43 ∨ gt (L.drop i) 0 = 45
  · simp only [if_pos h]
    rw [sg_gt1, sg_gt2]
  · simp only [if_neg h]
    rw [Int.add_zero, sg_gt, sg_gt1]
def hexRL : Nat → List Int → Int → Int × List Int
  | 0, l, n => (n, l)
  | m + 1, l, n => if (hexF (gt l 0)).2 = true then hexRL m (l.drop 1) (n * 16 + (hexF (gt l 0)).1) else (n, l)
theorem hexR_L (L : List Int) : ∀ (m i : Nat) (n : Int), hexRL m (L.drop i) n = ((hexR L m i n).1, L.drop (hexR L m i n).2)
  | 0, _, _ => rfl
  | m + 1, i, n => by
    rw [hexRL, hexR, sg_gt]
    split
    · rw [List.drop_drop, hexR_L L m (i + 1)]
    · rfl
def escEL (l : List Int) : Int × List Int :=
  if gt l 0 < 0 then (65533, l) else if (hexF (gt l 0)).2 = false then (gt l 0, l.drop 1)
  else (codeF (hexRL 6 l 0).1, if whiteF (gt (hexRL 6 l 0).2 0) = true then (hexRL 6 l 0).2.drop 1 else (hexRL 6 l 0).2)
theorem escE_L (L : List Int) (i : Nat) : escEL (L.drop i) = ((escE L i).1, L.drop (escE L i).2) := by
  rw [escEL, escE, sg_gt]
  split
  · rfl
  split
  · rw [List.drop_drop]
  rw [hexR_L]
  simp only
  rw [sg_gt]
  split
  · rw [List.drop_drop]
  · rfl
def digStepL (l : List Int) : (List Int × List Int) ⊕ List Int := if digF (gt l 0) = true then .inl ([gt l 0], l.drop 1) else .inr l
def digL (l : List Int) : List Int × List Int := ((goLs digStepL l).1, ((goLs digStepL l).2).getD [])
def nameStepL (l : List Int) : (List Int × List Int) ⊕ List Int :=
  if nameF (gt l 0) = true then .inl ([gt l 0], l.drop 1) else if escL l = true then .inl ([(escEL (l.drop 1)).1], (escEL (l.drop 1)).2) else .inr l
def nameL (l : List Int) : List Int × List Int := ((goLs nameStepL l).1, ((goLs nameStepL l).2).getD [])
def wStepL (l : List Int) : (List Int × List Int) ⊕ List Int := if whiteF (gt l 0) = true then .inl ([], l.drop 1) else .inr l
def wL (l : List Int) : List Int := ((goLs wStepL l).2).getD []
def bStepL (l : List Int) : (List Int × List Int) ⊕ List Int := if 0 ≤ gt l 0 ∧ gt l 0 ≠ 41 then (if escL l = true then .inl ([], (escEL (l.drop 1)).2) else .inl ([], l.drop 1)) else .inr l
def bL0 (l : List Int) : List Int := ((goLs bStepL l).2).getD []
def bL (l : List Int) : List Int := if gt (bL0 l) 0 = 41 then (bL0 l).drop 1 else bL0 l
theorem dig_same (L : List Int) : SameStep L (digStep L) digStepL (fun j => L.drop j) := by
  intro i hi
  rw [digStepL, digStep, sg_gt, List.drop_drop]
  split <;> rfl
theorem name_same (L : List Int) : SameStep L (nameStep L) nameStepL (fun j => L.drop j) := by
  intro i hi
  rw [nameStepL, nameStep, sg_gt, escF_L, List.drop_drop, escE_L]
  split
  · rfl
  split <;> rfl
theorem w_same (L : List Int) : SameStep L (wStep L) wStepL (fun j => L.drop j) := by
  intro i hi
  rw [wStepL, wStep, sg_gt, List.drop_drop]
  split <;> rfl
theorem b_same (L : List Int) : SameStep L (bStep L) bStepL (fun j => L.drop j) := by
  intro i hi
  rw [bStepL, bStep, sg_gt, escF_L, List.drop_drop, escE_L]
  split
  · split <;> rfl
  · rfl
theorem getD_map {β γ : Type} (o : Option β) (g : β → γ) (a : β) (h : o ≠ none) (c : γ) : (o.map g).getD c = g (o.getD a) := by
  cases o with
  | none => exact absurd rfl h
  | some x => rfl
theorem goAt_some {α R : Type} {n : Nat} {step : Nat → (List α × Nat) ⊕ R} (hs : Goes2 n step) {i : Nat} (hi : i ≤ n) : (goAt n step i).2 ≠ none := by
  obtain ⟨r, j, h1, _⟩ := goAt_end hs n i hi (by omega)
  rw [h1]
  exact fun h => by cases h
theorem dig_L (L : List Int) {i : Nat} (hi : i ≤ L.length) : digL (L.drop i) = (digAt L i, L.drop (digEnd L i)) := by
  rw [digL, goLs_goAt (dig_same L) (digStep_goes L) hi, digAt, digEnd]
  simp only
  rw [getD_map _ _ 0 (goAt_some (digStep_goes L) hi)]
theorem name_L (L : List Int) {i : Nat} (hi : i ≤ L.length) : nameL (L.drop i) = (nameAt L i, L.drop (nameEnd L i)) := by
  rw [nameL, goLs_goAt (name_same L) (nameStep_goes L) hi, nameAt, nameEnd]
  simp only
  rw [getD_map _ _ 0 (goAt_some (nameStep_goes L) hi)]
theorem w_L (L : List Int) {i : Nat} (hi : i ≤ L.length) : wL (L.drop i) = L.drop (wEnd L i) := by
  rw [wL, goLs_goAt (w_same L) (wStep_goes L) hi, wEnd]
  simp only
  rw [getD_map _ _ 0 (goAt_some (wStep_goes L) hi)]
theorem b_L0 (L : List Int) {i : Nat} (hi : i ≤ L.length) : bL0 (L.drop i) = L.drop (bEnd0 L i) := by
  rw [bL0, goLs_goAt (b_same L) (bStep_goes L) hi, bEnd0]
  simp only
  rw [getD_map _ _ 0 (goAt_some (bStep_goes L) hi)]
theorem b_L (L : List Int) {i : Nat} (hi : i ≤ L.length) : bL (L.drop i) = L.drop (bEnd L i) := by
  rw [bL, b_L0 L hi, bEnd, sg_gt]
  split
  · rw [List.drop_drop]
  · rfl
def qStepL (q : Int) (l : List Int) : (List Int × List Int) ⊕ (List Int × Bool) :=
  if gt l 0 < 0 then .inr (l, true) else if gt l 0 = q then .inr (l.drop 1, true) else if gt l 0 = 10 then .inr (l, false)
  else if gt l 0 = 92 ∧ gt l 1 < 0 then .inl ([], l.drop 1) else if gt l 0 = 92 ∧ gt l 1 = 10 then .inl ([], l.drop 2)
  else if gt l 0 = 92 then .inl ([(escEL (l.drop 1)).1], (escEL (l.drop 1)).2) else .inl ([gt l 0], l.drop 1)
theorem q_same (q : Int) (L : List Int) : SameStep L (qStep q L) (qStepL q) (fun r => (L.drop r.1, r.2)) := by
  intro i hi
  rw [qStepL, qStep, sg_gt, sg_gt1, List.drop_drop, List.drop_drop, escE_L]
  repeat' split
  all_goals rfl
def quoL (q : Int) (l : List Int) : Tk × List Int :=
  (if (((goLs (qStepL q) l).2).getD ([], false)).2 = true then tkK 5 (runesBytes (goLs (qStepL q) l).1) else tkK 6 ⟨#[]⟩, (((goLs (qStepL q) l).2).getD ([], false)).1)
theorem quo_L (q : Int) (L : List Int) {i : Nat} (hi : i ≤ L.length) : quoL q (L.drop i) = ((quoF q L i).1, L.drop (quoF q L i).2) := by
  rw [quoL, goLs_goAt (q_same q L) (qStep_goes q L) hi, quoF, quoE]
  simp only
  rw [getD_map _ _ (0, false) (goAt_some (qStep_goes q L) hi)]
def uStepL (l : List Int) : (List Int × List Int) ⊕ (List Int × Bool) :=
  if gt l 0 < 0 ∨ gt l 0 = 41 then .inr (if gt l 0 = 41 then l.drop 1 else l, true)
  else if whiteF (gt l 0) = true then (if gt (wL l) 0 < 0 ∨ gt (wL l) 0 = 41 then .inl ([], wL l) else .inr (bL (wL l), false))
  else if (badF (gt l 0) || (decide (gt l 0 = 92) && !escL l)) = true then .inr (bL l, false)
  else if gt l 0 = 92 then .inl ([(escEL (l.drop 1)).1], (escEL (l.drop 1)).2) else .inl ([gt l 0], l.drop 1)
theorem u_same (L : List Int) : SameStep L (uStep L) uStepL (fun r => (L.drop r.1, r.2)) := by
  intro i hi
  rw [uStepL, uStep, sg_gt, escF_L, List.drop_drop, escE_L]
  split
  · split <;> rfl
  rw [w_L L hi, sg_gt, b_L L hi, b_L L (wEnd_le L hi).2.1]
  repeat' split
  all_goals rfl
def urlL (l : List Int) : Tk × List Int :=
  (if (((goLs uStepL (wL l)).2).getD ([], false)).2 = true then tkK 7 (runesBytes (goLs uStepL (wL l)).1) else tkK 8 ⟨#[]⟩, (((goLs uStepL (wL l)).2).getD ([], false)).1)
theorem url_L (L : List Int) {i : Nat} (hi : i ≤ L.length) : urlL (L.drop i) = ((urlF L i).1, L.drop (urlF L i).2) := by
  have hw := (wEnd_le L hi).2.1
  rw [urlL, w_L L hi, goLs_goAt (u_same L) (uStep_goes L) hw, urlF, urlE]
  simp only
  rw [getD_map _ _ (0, false) (goAt_some (uStep_goes L) hw)]
def idtL (l : List Int) : Tk × List Int :=
  if gt (nameL l).2 0 = 40 then
    (if lowS (runesBytes (nameL l).1) = urlS then
      (if gt (wL ((nameL l).2.drop 1)) 0 = 34 ∨ gt (wL ((nameL l).2.drop 1)) 0 = 39 then (tkK 2 (runesBytes (nameL l).1), ((nameL l).2.drop 1).drop (((nameL l).2.drop 1).length - (wL ((nameL l).2.drop 1)).length - 1))
        else urlL ((nameL l).2.drop 1))
      else (tkK 2 (runesBytes (nameL l).1), (nameL l).2.drop 1))
  else (tkK 1 (runesBytes (nameL l).1), (nameL l).2)
theorem gt_in {l : List Int} {c : Int} (h : gt l 0 = c) (hc : c ≠ -1) : 0 < l.length := by
  cases l with
  | nil => exact absurd h.symm hc
  | cons a l => exact Nat.succ_pos _
theorem idt_L (L : List Int) {i : Nat} (hi : i ≤ L.length) : idtL (L.drop i) = ((idtF L i).1, L.drop (idtF L i).2) := by
  have hn := nameEnd_le L hi
  rw [idtL, name_L L hi, idtF, sg_gt]
  simp only
  split
  · rename_i h40
    have hin := gt_in h40 (by decide)
    rw [List.length_drop] at hin
    have hw := wEnd_le L (i := nameEnd L i + 1) (by omega)
    rw [List.drop_drop, w_L L (i := nameEnd L i + 1) (by omega), sg_gt, url_L L (i := nameEnd L i + 1) (by omega)]
    split
    · split
      · simp only [List.drop_drop, List.length_drop]
        congr 2
        omega
      · rfl
    · rfl
  · rfl
def nSL (l : List Int) : Bool := decide (gt l 0 = 43) || decide (gt l 0 = 45)
def n1L (l : List Int) : List Int := if nSL l = true then l.drop 1 else l
def nT1L (l : List Int) : List Int := if nSL l = true then [gt l 0] else []
def nTL (l : List Int) : List Int := nT1L l ++ (digL (n1L l)).1
def n2L (l : List Int) : List Int := (digL (n1L l)).2
def nDotL (l : List Int) : Bool := decide (gt l 0 = 46) && digF (gt l 1)
def n3L (l : List Int) : List Int := if nDotL l = true then (digL (l.drop 1)).2 else l
def nKL (l : List Int) : Nat := if (decide (gt l 1 = 43) || decide (gt l 1 = 45)) = true then 2 else 1
def nExL (l : List Int) : Bool := (decide (gt l 0 = 101) || decide (gt l 0 = 69)) && digF (gt l (nKL l))
def n4L (l : List Int) : List Int := if nExL l = true then (digL (l.drop (nKL l))).2 else l
def nWL (l : List Int) : Bool := !nDotL (n2L l) && !nExL (n3L (n2L l))
def nPL (l : List Int) : List Int := n4L (n3L (n2L l))
def nTkL (l : List Int) : Tk := ⟨10, ⟨#[]⟩, if nWL l = true then intF (runesBytes (nTL l)) else 0, nWL l, nSL l, false⟩
def numL (l : List Int) : Tk × List Int :=
  if namesL (nPL l) = true then ({ nTkL l with kind := 12, text := runesBytes (nameL (nPL l)).1 }, (nameL (nPL l)).2)
  else if gt (nPL l) 0 = 37 then ({ nTkL l with kind := 11 }, (nPL l).drop 1) else (nTkL l, nPL l)
theorem nS_L (L : List Int) (i : Nat) : nS L i = nSL (L.drop i) := by rw [nS, nSL, sg_gt]
theorem n1_L (L : List Int) (i : Nat) : n1L (L.drop i) = L.drop (n1 L i) := by
  rw [n1L, n1, nS_L, List.drop_drop]
  split <;> rfl
theorem nT1_L (L : List Int) (i : Nat) : nT1L (L.drop i) = nT1 L i := by rw [nT1L, nT1, nS_L, sg_gt]
theorem n2_L (L : List Int) {i : Nat} (hi : i ≤ L.length) : n2L (L.drop i) = L.drop (n2 L i) := by rw [n2L, n1_L, dig_L L (n1_le L hi).2, n2]
theorem nT_L (L : List Int) {i : Nat} (hi : i ≤ L.length) : nTL (L.drop i) = nT L i := by rw [nTL, nT1_L, n1_L, dig_L L (n1_le L hi).2, nT]
theorem nDot_L (L : List Int) (i : Nat) : nDotL (L.drop i) = nDot L i := by rw [nDotL, nDot, sg_gt, sg_gt1]
theorem n3_L (L : List Int) {i : Nat} (hi : i ≤ L.length) : n3L (L.drop i) = L.drop (n3 L i) := by
  rw [n3L, n3, nDot_L]
  split
  · rename_i h
    have := nDot_in h
    rw [List.drop_drop, dig_L L (by omega)]
  · rfl
theorem nK_L (L : List Int) (i : Nat) : nKL (L.drop i) = nK L i := by rw [nKL, nK, nEs, sg_gt1]
theorem nEx_L (L : List Int) (i : Nat) : nExL (L.drop i) = nEx L i := by
  rw [nExL, nEx, nE, nK_L, sg_gt, gt_drop, show ((i : Int) + (nK L i : Int)) = ((i + nK L i : Nat) : Int) from rfl, sg_gt, gt_drop, Nat.add_zero, gt_drop, Nat.add_zero]
theorem n4_L (L : List Int) {i : Nat} (hi : i ≤ L.length) : n4L (L.drop i) = L.drop (n4 L i) := by
  rw [n4L, n4, nEx_L, nK_L]
  split
  · rename_i h
    rw [nEx, Bool.and_eq_true] at h
    have := nEx_in h.2
    rw [List.drop_drop, dig_L L (by omega)]
  · rfl
theorem nW_L (L : List Int) {i : Nat} (hi : i ≤ L.length) : nWL (L.drop i) = nW L i := by
  rw [nWL, nW, n2_L L hi, n3_L L (n2_le L hi).2, nDot_L, nEx_L]
theorem nP_L (L : List Int) {i : Nat} (hi : i ≤ L.length) : nPL (L.drop i) = L.drop (nP L i) := by
  rw [nPL, nP, n2_L L hi, n3_L L (n2_le L hi).2, n4_L L (n3_le L (n2_le L hi).2).2]
theorem nP_le (L : List Int) {i : Nat} (hi : i ≤ L.length) : nP L i ≤ L.length := (n4_le L (n3_le L (n2_le L hi).2).2).2
theorem nTk_L (L : List Int) {i : Nat} (hi : i ≤ L.length) : nTkL (L.drop i) = nTk L i := by rw [nTkL, nTk, nW_L L hi, nT_L L hi, ← nS_L]
theorem num_L (L : List Int) {i : Nat} (hi : i ≤ L.length) : numL (L.drop i) = ((numF L i).1, L.drop (numF L i).2) := by
  rw [numL, numF, nP_L L hi, name_L L (nP_le L hi), nTk_L L hi, namesF_L, sg_gt, List.drop_drop]
  split
  · rfl
  split <;> rfl
def hashL (l : List Int) : Bool := decide (gt l 0 = 35) && (nameF (gt l 1) || escL (l.drop 1))
def numBL (l : List Int) : Bool := (decide (gt l 0 = 43) || decide (gt l 0 = 45) || decide (gt l 0 = 46) || digF (gt l 0)) && numsL l
def cdcL (l : List Int) : Bool := decide (gt l 0 = 45) && decide (gt l 1 = 45) && decide (gt l 2 = 62)
def cdoL (l : List Int) : Bool := decide (gt l 0 = 60) && decide (gt l 1 = 33) && decide (gt l 2 = 45) && decide (gt l 3 = 45)
def atL (l : List Int) : Bool := decide (gt l 0 = 64) && namesL (l.drop 1)
def tokL (l : List Int) : Tk × List Int :=
  if plI (gt l 0) < 9 then (tkK (kindsL.getD (plI (gt l 0)) 0) (if plI (gt l 0) < 6 then runesBytes [gt l 0] else ⟨#[]⟩), l.drop 1)
  else if whiteF (gt l 0) = true then (tkK 13 ⟨#[]⟩, wL l)
  else if gt l 0 = 34 ∨ gt l 0 = 39 then quoL (gt l 0) (l.drop 1)
  else if hashL l = true then (⟨4, runesBytes (nameL (l.drop 1)).1, 0, false, false, namesL (l.drop 1)⟩, (nameL (l.drop 1)).2)
  else if numBL l = true then numL l
  else if cdcL l = true then (tkK 15 ⟨#[]⟩, l.drop 3)
  else if cdoL l = true then (tkK 14 ⟨#[]⟩, l.drop 4)
  else if atL l = true then (tkK 3 (runesBytes (nameL (l.drop 1)).1), (nameL (l.drop 1)).2)
  else if namesL l = true then idtL l
  else (tkK 9 (runesBytes [gt l 0]), l.drop 1)
theorem tok_L (L : List Int) {i : Nat} (hi : i < L.length) : tokL (L.drop i) = ((tokF L i).1, L.drop (tokF L i).2) := by
  have hle : i ≤ L.length := by omega
  rw [tokL, tokF, hashL, hashB, numBL, numB, cdcL, cdcB, cdoL, cdoB, atL, atB, numsF_L, namesF_L, namesF_L1, escF_L1, sg_gt, sg_gt1, sg_gt2, sg_gt3, w_L L hle, num_L L hle, idt_L L hle]
  simp only [List.drop_drop]
  rw [quo_L _ L (i := i + 1) hi, name_L L (i := i + 1) hi]
  repeat' split
  all_goals rfl
def eStepL (l : List Int) : (List Int × List Int) ⊕ List Int := if 0 ≤ gt l 0 ∧ (gt l 0 ≠ 42 ∨ gt l 1 ≠ 47) then .inl ([], l.drop 1) else .inr l
theorem e_same (L : List Int) : SameStep L (eStep L) eStepL (fun j => L.drop j) := by
  intro i hi
  rw [eStepL, eStep, sg_gt, sg_gt1, List.drop_drop]
  split <;> rfl
def eL (l : List Int) : List Int := ((goLs eStepL l).2).getD []
theorem e_L (L : List Int) {i : Nat} (hi : i ≤ L.length) : eL (L.drop i) = L.drop (eEnd L i) := by
  rw [eL, goLs_goAt (e_same L) (eStep_goes L) hi, eEnd]
  simp only
  rw [getD_map _ _ 0 (goAt_some (eStep_goes L) hi)]
def cStepL (l : List Int) : (List Int × List Int) ⊕ List Int := if gt l 0 = 47 ∧ gt l 1 = 42 then .inl ([], (eL (l.drop 2)).drop 2) else .inr l
theorem drop_min (L : List Int) (k : Nat) : L.drop (min k L.length) = L.drop k := by
  rcases Nat.le_total k L.length with h | h
  · rw [Nat.min_eq_left h]
  · rw [Nat.min_eq_right h, List.drop_eq_nil_of_le (Nat.le_refl _), List.drop_eq_nil_of_le h]
theorem gt_in1 {l : List Int} {k : Nat} {c : Int} (h : gt l k = c) (hc : c ≠ -1) : k < l.length := by
  rcases Nat.lt_or_ge k l.length with h1 | h1
  · exact h1
  · rw [gt_get, List.getElem?_eq_none h1] at h
    exact absurd h.symm hc
theorem c_same (L : List Int) : SameStep L (cStep L) cStepL (fun j => L.drop j) := by
  intro i hi
  rw [cStepL, cStep, sg_gt, sg_gt1]
  split
  · rename_i h
    have := gt_in1 h.2 (by decide)
    rw [List.length_drop] at this
    rw [List.drop_drop, e_L L (by omega), List.drop_drop]
    simp only [Sum.map_inl]
    rw [drop_min]
  · rfl
def cL (l : List Int) : List Int := ((goLs cStepL l).2).getD []
theorem c_L (L : List Int) {i : Nat} (hi : i ≤ L.length) : cL (L.drop i) = L.drop (cEnd L i) := by
  rw [cL, goLs_goAt (c_same L) (cStep_goes L) hi, cEnd]
  simp only
  rw [getD_map _ _ 0 (goAt_some (cStep_goes L) hi)]
def tStepL (l : List Int) : (List Tk × List Int) ⊕ Unit := if gt (cL l) 0 < 0 then .inr () else .inl ([(tokL (cL l)).1], (tokL (cL l)).2)
/-- The tokens of signs. -/
def toksL (l : List Int) : List Tk := (goLs tStepL l).1
theorem dig_less : Less digStepL := less_of dig_same digStep_goes
theorem name_less : Less nameStepL := less_of name_same nameStep_goes
theorem w_less : Less wStepL := less_of w_same wStep_goes
theorem q_less (q : Int) : Less (qStepL q) := less_of (q_same q) (qStep_goes q)
theorem u_less : Less uStepL := less_of u_same uStep_goes
theorem e_less : Less eStepL := less_of e_same eStep_goes
theorem c_less : Less cStepL := less_of c_same cStep_goes
/-- Signs that were read: none is below 0. -/
theorem t_same (L : List Int) : SameStep L (tStep L) tStepL id := by
  intro i h
  have hc := cEnd_le L h
  rw [tStepL, tStep, c_L L h, sg_gt]
  rcases Nat.lt_or_ge (cEnd L i) L.length with h2 | h2
  · have e : ((gt (L.drop (cEnd L i)) 0 < 0 ∨ L.length ≤ cEnd L i) ↔ gt (L.drop (cEnd L i)) 0 < 0) := ⟨fun h => h.resolve_right (by omega), .inl⟩
    rw [tok_L L h2]
    simp only [e]
    split <;> rfl
  · rw [List.drop_eq_nil_of_le h2, if_pos (by decide), if_pos (.inr h2)]
    rfl
theorem t_less : Less tStepL := less_of (g := fun _ => id) t_same tStep_goes
theorem toks_L (L : List Int) : toksL L = toksF L := by
  have := goLs_goAt (t_same L) (tStep_goes L) (Nat.zero_le _)
  rw [List.drop_zero] at this
  rw [toksL, this, toksF]
theorem toksL_stop {l : List Int} (h : gt (cL l) 0 < 0) : toksL l = [] := by rw [toksL, goLs_stop (r := ()) (if_pos h)]
theorem toksL_go {l : List Int} (h : ¬ gt (cL l) 0 < 0) : toksL l = (tokL (cL l)).1 :: toksL (tokL (cL l)).2 := by
  rw [toksL, goLs_go t_less (show tStepL l = .inl ([(tokL (cL l)).1], (tokL (cL l)).2) from if_neg h)]
  rfl
theorem cL_no {l : List Int} (h : ¬ (gt l 0 = 47 ∧ gt l 1 = 42)) : cL l = l := by rw [cL, goLs_stop (r := l) (if_neg h)]; rfl
theorem cL_go {l : List Int} (h : gt l 0 = 47 ∧ gt l 1 = 42) : cL l = cL ((eL (l.drop 2)).drop 2) := by
  rw [cL, goLs_go c_less (show cStepL l = .inl ([], (eL (l.drop 2)).drop 2) from if_pos h)]
  rfl
/-- A sign at which no comment begins: its token, and what comes behind. -/
theorem toksL_at {l : List Int} (h0 : 0 ≤ gt l 0) (h : gt l 0 ≠ 47 ∨ gt l 1 ≠ 42) : toksL l = (tokL l).1 :: toksL (tokL l).2 := by
  have hc : cL l = l := cL_no (fun h' => by rcases h with h | h; exact h h'.1; exact h h'.2)
  have := toksL_go (l := l) (by rw [hc]; omega)
  rwa [hc] at this
theorem digL_go {l : List Int} (h : digF (gt l 0) = true) : digL l = (gt l 0 :: (digL (l.drop 1)).1, (digL (l.drop 1)).2) := by
  rw [digL, goLs_go dig_less (show digStepL l = .inl ([gt l 0], l.drop 1) from if_pos h)]
  rfl
theorem digL_no {l : List Int} (h : digF (gt l 0) = false) : digL l = ([], l) := by rw [digL, goLs_stop (r := l) (if_neg (by rw [h]; decide))]; rfl
theorem nameL_go {l : List Int} (h : nameF (gt l 0) = true) : nameL l = (gt l 0 :: (nameL (l.drop 1)).1, (nameL (l.drop 1)).2) := by
  rw [nameL, goLs_go name_less (show nameStepL l = .inl ([gt l 0], l.drop 1) from if_pos h)]
  rfl
theorem nameL_no {l : List Int} (h : nameF (gt l 0) = false) (h2 : escL l = false) : nameL l = ([], l) := by
  rw [nameL, goLs_stop (r := l) (by rw [nameStepL, if_neg (by rw [h]; decide), if_neg (by rw [h2]; decide)])]; rfl
theorem wL_go {l : List Int} (h : whiteF (gt l 0) = true) : wL l = wL (l.drop 1) := by
  rw [wL, goLs_go w_less (show wStepL l = .inl ([], l.drop 1) from if_pos h)]
  rfl
theorem wL_no {l : List Int} (h : whiteF (gt l 0) = false) : wL l = l := by rw [wL, goLs_stop (r := l) (if_neg (by rw [h]; decide))]; rfl
theorem eL_go {l : List Int} (h : 0 ≤ gt l 0 ∧ (gt l 0 ≠ 42 ∨ gt l 1 ≠ 47)) : eL l = eL (l.drop 1) := by
  rw [eL, goLs_go e_less (show eStepL l = .inl ([], l.drop 1) from if_pos h)]
  rfl
theorem eL_no {l : List Int} (h : ¬ (0 ≤ gt l 0 ∧ (gt l 0 ≠ 42 ∨ gt l 1 ≠ 47))) : eL l = l := by rw [eL, goLs_stop (r := l) (if_neg h)]; rfl
end Go.Proofs.YtbjinibmkkmhkaaDoor

/- Signs read of bytes, said over lists. -/
namespace Go.Proofs.YtbjinibmkkmhkaaDoor
open Go Go.RowKit

theorem get_list (l : List UInt8) (j : Nat) : (⟨l.toArray⟩ : ByteArray).get! j = l[j]! := by
  simp [ByteArray.get!]
/-- The sign at the head of bytes, and how many bytes it takes. -/
def decL (l : List UInt8) : Nat × Nat := Utf8.decode ⟨l.toArray⟩ 0
theorem bang_drop (l : List UInt8) (i k : Nat) : (l.drop i)[k]! = l[i + k]! := by
  rw [List.getElem!_eq_getElem?_getD, List.getElem!_eq_getElem?_getD, List.getElem?_drop]
theorem sz_list (l : List UInt8) : (⟨l.toArray⟩ : ByteArray).size = l.length := List.size_toArray
theorem dec_drop (l : List UInt8) (i : Nat) : Utf8.decode ⟨l.toArray⟩ i = decL (l.drop i) := by
  have hc : ∀ k, decide (0 + k < l.length - i) = decide (i + k < l.length) := fun k => by
    rw [decide_eq_decide]; omega
  simp only [decL, Utf8.decode, get_list, sz_list, List.length_drop, bang_drop, Nat.zero_add] at hc ⊢
  simp only [hc]
theorem dec_ascii (c : UInt8) (l : List UInt8) (h : c.toNat < 128) : decL (c :: l) = (c.toNat, 1) := by
  simp only [decL, Utf8.decode, get_list]
  rw [if_pos (show ((c :: l)[0 + 0]!).toNat < 128 from h)]
  rfl
theorem dec_loc (a : List UInt8) (c : UInt8) (b : List UInt8) (ha : a ≠ []) (hc : c.toNat < 128) : decL (a ++ c :: b) = decL a ∧ (decL a).2 ≤ a.length ∧ 1 ≤ (decL a).2 := by
  have hn : ¬ c.toNat / 64 = 2 := by omega
  match a, ha with
  | [x], _ => 
    simp only [decL, Utf8.decode, get_list, sz_list, List.cons_append, List.nil_append, List.length_cons, List.length_nil]
    have e0 : (x :: c :: b)[0 + 0]! = x := rfl
    have e1 : (x :: c :: b)[0 + 1]! = c := rfl
    have f0 : [x][0 + 0]! = x := rfl
    simp only [e0, e1, f0]
    simp [hn]
    split <;> simp
  | [x, y], _ =>
    simp only [decL, Utf8.decode, get_list, sz_list, List.cons_append, List.nil_append, List.length_cons, List.length_nil]
    have e0 : (x :: y :: c :: b)[0 + 0]! = x := rfl
    have e1 : (x :: y :: c :: b)[0 + 1]! = y := rfl
    have e2 : (x :: y :: c :: b)[0 + 2]! = c := rfl
    have f0 : [x, y][0 + 0]! = x := rfl
    have f1 : [x, y][0 + 1]! = y := rfl
    simp only [e0, e1, e2, f0, f1]
    simp [hn]
    repeat' split
    all_goals simp
  | [x, y, z], _ =>
    simp only [decL, Utf8.decode, get_list, sz_list, List.cons_append, List.nil_append, List.length_cons, List.length_nil]
    have e0 : (x :: y :: z :: c :: b)[0 + 0]! = x := rfl
    have e1 : (x :: y :: z :: c :: b)[0 + 1]! = y := rfl
    have e2 : (x :: y :: z :: c :: b)[0 + 2]! = z := rfl
    have e3 : (x :: y :: z :: c :: b)[0 + 3]! = c := rfl
    have f0 : [x, y, z][0 + 0]! = x := rfl
    have f1 : [x, y, z][0 + 1]! = y := rfl
    have f2 : [x, y, z][0 + 2]! = z := rfl
    simp only [e0, e1, e2, e3, f0, f1, f2]
    simp [hn]
    repeat' split
    all_goals simp
  | x :: y :: z :: u :: r, _ =>
    simp only [decL, Utf8.decode, get_list, sz_list, List.cons_append, List.length_cons, List.length_append]
    have e0 : (x :: y :: z :: u :: (r ++ c :: b))[0 + 0]! = x := rfl
    have e1 : (x :: y :: z :: u :: (r ++ c :: b))[0 + 1]! = y := rfl
    have e2 : (x :: y :: z :: u :: (r ++ c :: b))[0 + 2]! = z := rfl
    have e3 : (x :: y :: z :: u :: (r ++ c :: b))[0 + 3]! = u := rfl
    have f0 : (x :: y :: z :: u :: r)[0 + 0]! = x := rfl
    have f1 : (x :: y :: z :: u :: r)[0 + 1]! = y := rfl
    have f2 : (x :: y :: z :: u :: r)[0 + 2]! = z := rfl
    have f3 : (x :: y :: z :: u :: r)[0 + 3]! = u := rfl
    have g1 : decide (0 + 1 < r.length + (b.length + 1) + 1 + 1 + 1 + 1) = true := by rw [decide_eq_true_eq]; omega
    have g2 : decide (0 + 2 < r.length + (b.length + 1) + 1 + 1 + 1 + 1) = true := by rw [decide_eq_true_eq]; omega
    have g3 : decide (0 + 3 < r.length + (b.length + 1) + 1 + 1 + 1 + 1) = true := by rw [decide_eq_true_eq]; omega
    have h1 : decide (0 + 1 < r.length + 1 + 1 + 1 + 1) = true := by rw [decide_eq_true_eq]; omega
    have h2 : decide (0 + 2 < r.length + 1 + 1 + 1 + 1) = true := by rw [decide_eq_true_eq]; omega
    have h3 : decide (0 + 3 < r.length + 1 + 1 + 1 + 1) = true := by rw [decide_eq_true_eq]; omega
    simp only [e0, e1, e2, e3, f0, f1, f2, f3, g1, g2, g3, h1, h2, h3, Bool.true_and]
    refine ⟨trivial, ?_⟩
    repeat' split
    all_goals (constructor <;> simp only [] <;> omega)
def normR (r : Int) : Int := if r = 13 ∨ r = 12 then 10 else if r = 0 then 65533 else r
/-- Signs of bytes; fi: is it the first one? cr: stands a carriage return ahead? -/
def rdL : Nat → Bool → Bool → List UInt8 → List Int
  | 0, _, _, _ => []
  | f + 1, fi, cr, l =>
    if 0 < l.length then
      (if (fi = true ∧ ((decL l).1 : Int) = 65279) ∨ (((decL l).1 : Int) = 10 ∧ cr = true) then [] else [normR (decL l).1]) ++ rdL f false (decide (((decL l).1 : Int) = 13)) (l.drop (decL l).2)
    else []
theorem dec_one (l : List UInt8) (h : 0 < l.length) : 1 ≤ (decL l).2 := decode_one ⟨l.toArray⟩ 0 (by rw [sz_list]; exact h)
theorem rd_L (l : List UInt8) : ∀ (f pos : Nat) (cr : Bool), rd ⟨l.toArray⟩ f pos cr = rdL f (decide (pos = 0)) cr (l.drop pos)
  | 0, _, _ => rfl
  | f + 1, pos, cr => by
    rw [rd, rdL, sz_list, List.length_drop]
    by_cases h : pos < l.length
    · have h1 := dec_one (l.drop pos) (by rw [List.length_drop]; omega)
      rw [if_pos h, if_pos (show 0 < l.length - pos by omega), dec_drop, rd_L l f, List.drop_drop]
      have e : decide (pos + (decL (l.drop pos)).2 = 0) = false := by rw [decide_eq_false_iff_not]; omega
      rw [e]
      simp only [decide_eq_true_eq, normR]
    · rw [if_neg h, if_neg (by omega)]
theorem rdL_fuel : ∀ (f f' : Nat) (fi cr : Bool) (l : List UInt8), l.length ≤ f → l.length ≤ f' → rdL f fi cr l = rdL f' fi cr l
  | 0, 0, _, _, _, _, _ => rfl
  | 0, f' + 1, _, _, l, h, _ => by rw [rdL, rdL, if_neg (by omega)]
  | f + 1, 0, _, _, l, _, h => by rw [rdL, rdL, if_neg (by omega)]
  | f + 1, f' + 1, fi, cr, l, h, h' => by
    rw [rdL, rdL]
    by_cases hp : 0 < l.length
    · have := dec_one l hp
      rw [if_pos hp, if_pos hp, rdL_fuel f f' _ _ _ (by rw [List.length_drop]; omega) (by rw [List.length_drop]; omega)]
    · rw [if_neg hp, if_neg hp]
def readS (fi cr : Bool) (l : List UInt8) : List Int := rdL l.length fi cr l
theorem read_L (l : List UInt8) : readL ⟨l.toArray⟩ = readS true false l := by
  rw [readL, rdAt, rd_L, sz_list, List.drop_zero]
  rfl
theorem readS_nil (fi cr : Bool) : readS fi cr [] = [] := rfl
theorem readS_step (fi cr : Bool) {l : List UInt8} (h : 0 < l.length) : readS fi cr l = (if (fi = true ∧ ((decL l).1 : Int) = 65279) ∨ (((decL l).1 : Int) = 10 ∧ cr = true) then [] else [normR (decL l).1]) ++ readS false (decide (((decL l).1 : Int) = 13)) (l.drop (decL l).2) := by
  obtain ⟨f, hf⟩ : ∃ f, l.length = f + 1 := ⟨l.length - 1, by omega⟩
  have h1 := dec_one l h
  rw [readS, hf, rdL, if_pos h, readS, rdL_fuel f (l.drop (decL l).2).length _ _ _ (by rw [List.length_drop]; omega) (Nat.le_refl _)]
theorem readS_ascii (fi cr : Bool) (c : UInt8) (l : List UInt8) (h : c.toNat < 128) : readS fi cr (c :: l) = (if (c.toNat : Int) = 10 ∧ cr = true then [] else [normR c.toNat]) ++ readS false (decide ((c.toNat : Int) = 13)) l := by
  rw [readS_step fi cr (l := c :: l) (Nat.succ_pos _), dec_ascii c l h]
  simp only [List.drop_succ_cons, List.drop_zero]
  congr 1
  have : ¬ ((c.toNat : Int) = 65279) := by omega
  simp [this]
/-- A byte that is its own sign. -/
def plB (c : UInt8) : Bool := decide (c.toNat < 128) && !decide (c.toNat = 13) && !decide (c.toNat = 12) && !decide (c.toNat = 0)
def bI (c : UInt8) : Int := c.toNat
theorem readS_pl (fi : Bool) (c : UInt8) (l : List UInt8) (h : plB c = true) : readS fi false (c :: l) = bI c :: readS false false l := by
  simp only [plB, Bool.and_eq_true, decide_eq_true_eq, Bool.not_eq_true', decide_eq_false_iff_not] at h
  rw [readS_ascii fi false c l h.1.1.1, if_neg (fun h => by cases h.2), decide_eq_false (by omega), normR, if_neg (by omega), if_neg (by omega)]
  rfl
theorem readS_pls (w l : List UInt8) (h : w.all plB = true) : readS false false (w ++ l) = w.map bI ++ readS false false l := by
  induction w with
  | nil => rfl
  | cons c w ih =>
    rw [List.all_cons, Bool.and_eq_true] at h
    rw [List.cons_append, readS_pl false c _ h.1, ih h.2]
    rfl
theorem readS_plt (fi : Bool) (w l : List UInt8) (h : w.all plB = true) (hw : w ≠ []) : readS fi false (w ++ l) = w.map bI ++ readS false false l := by
  match w, hw with
  | c :: w, _ =>
    rw [List.all_cons, Bool.and_eq_true] at h
    rw [List.cons_append, readS_pl fi c _ h.1, readS_pls w l h.2]
    rfl
theorem read_pl (w : List UInt8) (h : w.all plB = true) : readL ⟨w.toArray⟩ = w.map bI := by
  rw [read_L]
  cases w with
  | nil => rfl
  | cons c w =>
    have := readS_plt true (c :: w) [] h (by simp)
    rw [List.append_nil, readS_nil, List.append_nil] at this
    exact this
end Go.Proofs.YtbjinibmkkmhkaaDoor

/- Tokens at the head of signs. -/
namespace Go.Proofs.YtbjinibmkkmhkaaDoor
open Go Go.RowKit

/-- The tokens of signs, with so many steps. -/
def toksN (f : Nat) (l : List Int) : List Tk := (goL tStepL f l).1
theorem wL_run (w rest : List Int) (hw : w.all whiteF = true) (hr : whiteF (gt rest 0) = false) : wL (w ++ rest) = rest := by
  induction w with
  | nil => exact wL_no hr
  | cons c w ih =>
    rw [List.all_cons, Bool.and_eq_true] at hw
    rw [List.cons_append, wL_go (by exact hw.1)]
    exact ih hw.2
theorem nameL_run (w rest : List Int) (hw : w.all nameF = true) : nameL (w ++ rest) = (w ++ (nameL rest).1, (nameL rest).2) := by
  induction w with
  | nil => rfl
  | cons c w ih =>
    rw [List.all_cons, Bool.and_eq_true] at hw
    rw [List.cons_append, nameL_go (by exact hw.1)]
    show (c :: (nameL (w ++ rest)).1, (nameL (w ++ rest)).2) = _
    rw [ih hw.2]
    rfl
theorem nameL_word (w rest : List Int) (hw : w.all nameF = true) (h1 : nameF (gt rest 0) = false) (h2 : gt rest 0 ≠ 92) : nameL (w ++ rest) = (w, rest) := by
  rw [nameL_run w rest hw, nameL_no h1 (by rw [escL, decide_eq_false h2]; rfl), List.append_nil]
theorem plI_no {c : Int} (h : c ≠ 40 ∧ c ≠ 91 ∧ c ≠ 123 ∧ c ≠ 41 ∧ c ≠ 93 ∧ c ≠ 125 ∧ c ≠ 44 ∧ c ≠ 58 ∧ c ≠ 59) : ¬ plI c < 9 := by
  intro h9
  have h1 := List.findIdx_getElem (xs := plainL) (p := fun x => decide (x = c)) (w := h9)
  have h2 : ∀ x ∈ plainL, x ≠ c := by
    intro x hx
    simp only [plainL, List.mem_cons, List.not_mem_nil, or_false] at hx
    omega
  exact h2 _ (List.getElem_mem _) (of_decide_eq_true h1)
theorem let_facts {c : Int} (h : letF c = true) : (97 ≤ c ∧ c ≤ 122) ∨ (65 ≤ c ∧ c ≤ 90) ∨ c = 95 ∨ 128 ≤ c := by
  simp only [letF, Bool.or_eq_true, Bool.and_eq_true, decide_eq_true_eq] at h
  omega
theorem tokL_let {l : List Int} (h : letF (gt l 0) = true) : tokL l = idtL l := by
  have h1 := let_facts h
  have hw : ¬ whiteF (gt l 0) = true := by simp only [whiteF, Bool.or_eq_true, decide_eq_true_eq]; omega
  have hh : ¬ hashL l = true := by simp only [hashL, Bool.and_eq_true, decide_eq_true_eq]; omega
  have hn : ¬ numBL l = true := by
    simp only [numBL, digF, Bool.and_eq_true, Bool.or_eq_true, decide_eq_true_eq]; omega
  have hc : ¬ cdcL l = true := by simp only [cdcL, Bool.and_eq_true, decide_eq_true_eq]; omega
  have hd : ¬ cdoL l = true := by simp only [cdoL, Bool.and_eq_true, decide_eq_true_eq]; omega
  have ha : ¬ atL l = true := by simp only [atL, Bool.and_eq_true, decide_eq_true_eq]; omega
  have hi : namesL l = true := by rw [namesL, if_neg (by omega), h]; rfl
  rw [tokL, if_neg (plI_no (by omega)), if_neg hw, if_neg (by omega), if_neg hh, if_neg hn, if_neg hc, if_neg hd, if_neg ha, if_pos hi]
theorem let_name {c : Int} (h : letF c = true) : nameF c = true := by rw [nameF, h]; rfl
/-- A word. -/
theorem tokL_word (c : Int) (w rest : List Int) (hc : letF c = true) (hw : w.all nameF = true) (h1 : nameF (gt rest 0) = false) (h2 : gt rest 0 ≠ 92) (h3 : gt rest 0 ≠ 40) : tokL (c :: w ++ rest) = (tkK 1 (runesBytes (c :: w)), rest) := by
  have hn := nameL_word (c :: w) rest (by rw [List.all_cons, let_name hc, hw]; rfl) h1 h2
  rw [tokL_let (by exact hc), idtL, hn]
  simp only
  rw [if_neg h3]
theorem toksL_word (c : Int) (w rest : List Int) (hc : letF c = true) (hw : w.all nameF = true) (h1 : nameF (gt rest 0) = false) (h2 : gt rest 0 ≠ 92) (h3 : gt rest 0 ≠ 40) : toksL (c :: w ++ rest) = tkK 1 (runesBytes (c :: w)) :: toksL rest := by
  have hf := let_facts hc
  rw [toksL_at (l := c :: w ++ rest) (by show 0 ≤ c; omega) (by left; show c ≠ 47; omega), tokL_word c w rest hc hw h1 h2 h3]
/-- White. -/
theorem tokL_white (c : Int) (w rest : List Int) (hw : (c :: w).all whiteF = true) (hr : whiteF (gt rest 0) = false) : tokL (c :: w ++ rest) = (tkK 13 ⟨#[]⟩, rest) := by
  have h1 : whiteF c = true := by rw [List.all_cons, Bool.and_eq_true] at hw; exact hw.1
  have h2 : c = 10 ∨ c = 9 ∨ c = 32 := by simp only [whiteF, Bool.or_eq_true, decide_eq_true_eq] at h1; omega
  rw [tokL, show gt (c :: w ++ rest) 0 = c from rfl, if_neg (plI_no (by omega)), if_pos h1, wL_run (c :: w) rest hw hr]
theorem toksL_white (c : Int) (w rest : List Int) (hw : (c :: w).all whiteF = true) (hr : whiteF (gt rest 0) = false) : toksL (c :: w ++ rest) = tkK 13 ⟨#[]⟩ :: toksL rest := by
  have h1 : whiteF c = true := by rw [List.all_cons, Bool.and_eq_true] at hw; exact hw.1
  have h2 : c = 10 ∨ c = 9 ∨ c = 32 := by simp only [whiteF, Bool.or_eq_true, decide_eq_true_eq] at h1; omega
  rw [toksL_at (l := c :: w ++ rest) (by show 0 ≤ c; omega) (by left; show c ≠ 47; omega), tokL_white c w rest hw hr]
theorem toksL_nil : toksL [] = [] := toksL_stop (by decide)
/-- Bytes of signs below 128. -/
theorem enc_ascii (c : UInt8) (h : c.toNat < 128) : Utf8.encode (bI c) = ⟨#[c]⟩ := by
  have hv : Utf8.valid (bI c) = true := by unfold Utf8.valid bI; simp; omega
  unfold Utf8.encode
  simp only [hv, if_true]
  have e : (bI c).toNat = c.toNat := rfl
  rw [e, if_pos (by omega)]
  simp
theorem bytes_cat (a b : List UInt8) : (⟨a.toArray⟩ : ByteArray) ++ ⟨b.toArray⟩ = ⟨(a ++ b).toArray⟩ := by
  apply ByteArray.ext
  simp [ByteArray.data_append]
theorem runes_ascii (w : List UInt8) (h : w.all (fun c => decide (c.toNat < 128)) = true) : runesBytes (w.map bI) = ⟨w.toArray⟩ := by
  induction w with
  | nil => rfl
  | cons c w ih =>
    rw [List.all_cons, Bool.and_eq_true, decide_eq_true_eq] at h
    have e : List.map bI (c :: w) = [bI c] ++ w.map bI := rfl
    rw [e, runes_append, ih h.2]
    have e2 : runesBytes [bI c] = ⟨[c].toArray⟩ := by
      rw [runesBytes, List.foldl_cons, List.foldl_nil, ByteArray.empty_append, enc_ascii c h.1]
    rw [e2, bytes_cat]
    rfl
end Go.Proofs.YtbjinibmkkmhkaaDoor

/- Comments, read of bytes. -/
namespace Go.Proofs.YtbjinibmkkmhkaaDoor
open Go Go.RowKit

theorem dec_small (c : UInt8) (l : List UInt8) (h : (decL (c :: l)).1 < 128) : c.toNat < 128 := by
  have hbt : ∀ k, ((c :: l)[0 + k]!).toNat < 256 := fun k => ((c :: l)[0 + k]!).toNat_lt
  have h0 := hbt 0; have h1 := hbt 1; have h2 := hbt 2; have h3 := hbt 3
  have e : (c :: l)[0 + 0]! = c := rfl
  rw [e] at h0
  simp only [decL, Utf8.decode, get_list, sz_list, Utf8.runeError, e] at h
  split at h
  · assumption
  split at h
  · split at h <;> simp only at h <;> omega
  split at h
  · split at h
    · rename_i hc
      simp only [Bool.and_eq_true, decide_eq_true_eq] at hc
      simp only at h; omega
    · simp only at h; omega
  split at h
  · split at h
    · rename_i hc
      simp only [Bool.and_eq_true, decide_eq_true_eq] at hc
      simp only at h; omega
    · simp only at h; omega
  · simp only at h; omega
/-- The first sign, where no carriage return stands ahead. -/
theorem readS_head (c : UInt8) (l : List UInt8) : readS false false (c :: l) = normR (decL (c :: l)).1 :: readS false (decide (((decL (c :: l)).1 : Int) = 13)) ((c :: l).drop (decL (c :: l)).2) := by
  rw [readS_step false false (l := c :: l) (Nat.succ_pos _), if_neg (fun h => by rcases h with h | h; cases h.1; cases h.2)]
  rfl
theorem normR_eq {n : Nat} {c : Int} (h : normR n = c) (hc : c = 42 ∨ c = 47) : (n : Int) = c := by
  unfold normR at h
  split at h
  · omega
  split at h <;> omega
theorem head_byte (c : UInt8) (l : List UInt8) (k : Nat) (hk : k = 42 ∨ k = 47) (h : gt (readS false false (c :: l)) 0 = (k : Int)) : c.toNat = k := by
  rw [readS_head] at h
  have h1 : normR (decL (c :: l)).1 = (k : Int) := h
  have h2 := normR_eq h1 (by omega)
  have h3 := dec_small c l (by omega)
  rw [dec_ascii c l h3] at h2
  simp only at h2
  omega
/-- No star that a slash follows. -/
def noAdj : List UInt8 → Bool
  | c :: d :: r => !(decide (c.toNat = 42) && decide (d.toNat = 47)) && noAdj (d :: r)
  | _ => true
theorem noAdj_tail {c : UInt8} {l : List UInt8} (h : noAdj (c :: l) = true) : noAdj l = true := by
  match l, h with
  | [], _ => rfl
  | d :: r, h =>
    rw [noAdj, Bool.and_eq_true] at h
    exact h.2
theorem noAdj_drop : ∀ (k : Nat) (l : List UInt8), noAdj l = true → noAdj (l.drop k) = true
  | 0, _, h => h
  | k + 1, [], _ => rfl
  | k + 1, c :: l, h => noAdj_drop k l (noAdj_tail h)
theorem normR_nn (n : Nat) : 0 ≤ normR n := by unfold normR; split; omega; split <;> omega
/-- Within a comment that does not end. -/
theorem eL_all : ∀ (n : Nat) (l : List UInt8) (cr : Bool), l.length ≤ n → noAdj l = true → eL (readS false cr l) = [] := by
  intro n
  induction n with
  | zero =>
    intro l cr hl _
    have : l = [] := List.length_eq_zero_iff.1 (by omega)
    subst this; rfl
  | succ n ih =>
    intro l cr hl h
    match l, hl, h with
    | [], _, _ => rfl
    | c :: r, hl, h =>
      have h1 := dec_one (c :: r) (Nat.succ_pos _)
      have hd := ih ((c :: r).drop (decL (c :: r)).2) (decide (((decL (c :: r)).1 : Int) = 13)) (by rw [List.length_drop]; omega) (noAdj_drop _ _ h)
      rw [readS_step false cr (l := c :: r) (Nat.succ_pos _)]
      split
      · exact hd
      · have hgo : eL (normR (decL (c :: r)).1 :: readS false (decide (((decL (c :: r)).1 : Int) = 13)) ((c :: r).drop (decL (c :: r)).2)) = eL (readS false (decide (((decL (c :: r)).1 : Int) = 13)) ((c :: r).drop (decL (c :: r)).2)) := by
          refine eL_go ⟨normR_nn _, ?_⟩
          by_cases h42 : normR (decL (c :: r)).1 = 42
          · right
            have h3 := normR_eq h42 (.inl rfl)
            have h4 := dec_small c r (by omega)
            have h5 := dec_ascii c r h4
            rw [h5] at h3 ⊢
            simp only at h3
            have h13 : decide (((c.toNat, 1).1 : Nat) = (13 : Int)) = false := by rw [decide_eq_false_iff_not]; show ¬ ((c.toNat : Nat) : Int) = 13; omega
            show gt (readS false (decide (((c.toNat : Nat) : Int) = 13)) r) 0 ≠ 47
            rw [show decide (((c.toNat : Nat) : Int) = 13) = false from h13]
            intro h6
            match r, h, h6 with
            | [], _, h6 => cases h6
            | d :: q, h, h6 =>
              have h7 := head_byte d q 47 (.inr rfl) h6
              rw [noAdj, Bool.and_eq_true, decide_eq_true (show c.toNat = 42 by omega), decide_eq_true h7] at h
              cases h.1
          · exact .inl h42
        exact hgo.trans hd
/-- Within a comment, to its end. -/
theorem eL_in (r : List UInt8) : ∀ (n : Nat) (l : List UInt8) (cr : Bool), l.length ≤ n → noAdj l = true → (∀ x, l.getLast? = some x → x.toNat ≠ 42) → eL (readS false cr (l ++ 42 :: 47 :: r)) = 42 :: 47 :: readS false false r := by
  have base : ∀ cr, eL (readS false cr (42 :: 47 :: r)) = 42 :: 47 :: readS false false r := fun cr => by
    rw [readS_ascii false cr 42 _ (by decide), if_neg (fun h => absurd h.1 (by decide))]
    have e : readS false (decide (((42 : UInt8).toNat : Int) = 13)) (47 :: r) = 47 :: readS false false r := readS_pl false 47 r rfl
    rw [e]
    exact eL_no (fun h => by rcases h.2 with h | h <;> exact h rfl)
  intro n
  induction n with
  | zero =>
    intro l cr hl _ _
    have : l = [] := List.length_eq_zero_iff.1 (by omega)
    subst this
    exact base cr
  | succ n ih =>
    intro l cr hl h hlast
    match l, hl, h, hlast with
    | [], _, _, _ => exact base cr
    | c :: q, hl, h, hlast =>
      have hloc := dec_loc (c :: q) 42 (47 :: r) (by simp) (by decide)
      have hlast' : ∀ k, k ≤ (c :: q).length → ∀ x, ((c :: q).drop k).getLast? = some x → x.toNat ≠ 42 := fun k hk x hx => by
        refine hlast x ?_
        have hne : (c :: q).drop k ≠ [] := fun h => by rw [h] at hx; cases hx
        have e : (c :: q).take k ++ (c :: q).drop k = c :: q := List.take_append_drop _ _
        rw [← e, List.getLast?_append, hx]
        rfl
      have hd := ih ((c :: q).drop (decL (c :: q)).2) (decide (((decL (c :: q)).1 : Int) = 13)) (by rw [List.length_drop]; omega) (noAdj_drop _ _ h) (hlast' _ hloc.2.1)
      rw [readS_step false cr (l := c :: q ++ 42 :: 47 :: r) (Nat.succ_pos _), hloc.1, List.drop_append_of_le_length hloc.2.1]
      split
      · exact hd
      · have hgo : eL (normR (decL (c :: q)).1 :: readS false (decide (((decL (c :: q)).1 : Int) = 13)) ((c :: q).drop (decL (c :: q)).2 ++ 42 :: 47 :: r)) = eL (readS false (decide (((decL (c :: q)).1 : Int) = 13)) ((c :: q).drop (decL (c :: q)).2 ++ 42 :: 47 :: r)) := by
          refine eL_go ⟨normR_nn _, ?_⟩
          by_cases h42 : normR (decL (c :: q)).1 = 42
          · right
            have h3 := normR_eq h42 (.inl rfl)
            have h4 := dec_small c q (by omega)
            have h5 := dec_ascii c q h4
            rw [h5] at h3 ⊢
            simp only at h3
            have h13 : decide (((c.toNat : Nat) : Int) = 13) = false := by rw [decide_eq_false_iff_not]; omega
            show gt (readS false (decide (((c.toNat : Nat) : Int) = 13)) (q ++ 42 :: 47 :: r)) 0 ≠ 47
            rw [h13]
            intro h6
            match q, h, hlast, h6 with
            | [], _, hlast, _ => exact hlast c rfl (by omega)
            | d :: q', h, _, h6 =>
              have h7 := head_byte d (q' ++ 42 :: 47 :: r) 47 (.inr rfl) h6
              rw [noAdj, Bool.and_eq_true, decide_eq_true (show c.toNat = 42 by omega), decide_eq_true h7] at h
              cases h.1
          · exact .inl h42
        exact hgo.trans hd
theorem toksL_cL {l l' : List Int} (h : cL l = cL l') : toksL l = toksL l' := by
  by_cases h0 : gt (cL l) 0 < 0
  · rw [toksL_stop h0, toksL_stop (by rw [← h]; exact h0)]
  · rw [toksL_go h0, toksL_go (l := l') (by rw [← h]; exact h0), h]
/-- A comment says nothing. -/
theorem toks_comment (fi : Bool) (l r : List UInt8) (h : noAdj l = true) (hlast : ∀ x, l.getLast? = some x → x.toNat ≠ 42) : toksL (readS fi false (47 :: 42 :: (l ++ 42 :: 47 :: r))) = toksL (readS false false r) := by
  rw [readS_pl fi 47 _ rfl, readS_pl false 42 _ rfl]
  refine toksL_cL ?_
  rw [cL_go (l := bI 47 :: bI 42 :: readS false false (l ++ 42 :: 47 :: r)) ⟨rfl, rfl⟩]
  show cL ((eL (readS false false (l ++ 42 :: 47 :: r))).drop 2) = _
  rw [eL_in r l.length l false (Nat.le_refl _) h hlast]
  rfl
theorem toks_open (fi : Bool) (l : List UInt8) (h : noAdj l = true) : toksL (readS fi false (47 :: 42 :: l)) = [] := by
  rw [readS_pl fi 47 _ rfl, readS_pl false 42 _ rfl]
  refine toksL_stop ?_
  rw [cL_go (l := bI 47 :: bI 42 :: readS false false l) ⟨rfl, rfl⟩]
  show gt (cL ((eL (readS false false l)).drop 2)) 0 < 0
  rw [eL_all l.length l false (Nat.le_refl _) h]
  decide
end Go.Proofs.YtbjinibmkkmhkaaDoor

/- What stands ahead of a blank is read the same, whatever stands behind it. -/
namespace Go.Proofs.YtbjinibmkkmhkaaDoor
open Go Go.RowKit

/-- Nothing, or a blank and something. -/
def Gd (s : List Int) : Prop := s = [] ∨ ∃ B, s = 32 :: B
/-- A part reads so much of l, and the same, whatever stands behind; or it takes the blank, too. -/
def Stb {α : Type} (f : List Int → α × List Int) (l : List Int) : Prop :=
  (∃ v l', l'.length ≤ l.length ∧ ∀ s, Gd s → f (l ++ s) = (v, l' ++ s)) ∨ (f (l ++ [32])).2 = []
section
variable {l s : List Int}
end
def Stw (f : List Int → List Int) (l : List Int) : Prop := (∃ l', l'.length ≤ l.length ∧ ∀ s, Gd s → f (l ++ s) = l' ++ s) ∨ f (l ++ [32]) = []
end Go.Proofs.YtbjinibmkkmhkaaDoor

/- What stands ahead of a blank is read the same: strings, urls, numbers, tokens. -/
namespace Go.Proofs.YtbjinibmkkmhkaaDoor
open Go Go.RowKit

section
variable {α R : Type}
end
/-- A loop's whole answer. -/
def quoR (q : Int) (l : List Int) : (List Int × Bool) × List Int := (((goLs (qStepL q) l).1, (((goLs (qStepL q) l).2).getD ([], false)).2), (((goLs (qStepL q) l).2).getD ([], false)).1)
theorem quoR_go {q : Int} {l l' : List Int} {o : List Int} (h : qStepL q l = .inl (o, l')) : quoR q l = ((o ++ (quoR q l').1.1, (quoR q l').1.2), (quoR q l').2) := by
  rw [quoR, goLs_go (q_less q) h]
  rfl
theorem quoR_no {q : Int} {l : List Int} {r : List Int × Bool} (h : qStepL q l = .inr r) : quoR q l = (([], r.2), r.1) := by
  rw [quoR, goLs_stop h]
  rfl
theorem quo_R (q : Int) (l : List Int) : quoL q l = (if (quoR q l).1.2 = true then tkK 5 (runesBytes (quoR q l).1.1) else tkK 6 ⟨#[]⟩, (quoR q l).2) := rfl
def urlR (l : List Int) : (List Int × Bool) × List Int := (((goLs uStepL l).1, (((goLs uStepL l).2).getD ([], false)).2), (((goLs uStepL l).2).getD ([], false)).1)
theorem urlR_go {l l' : List Int} {o : List Int} (h : uStepL l = .inl (o, l')) : urlR l = ((o ++ (urlR l').1.1, (urlR l').1.2), (urlR l').2) := by
  rw [urlR, goLs_go u_less h]
  rfl
theorem urlR_no {l : List Int} {r : List Int × Bool} (h : uStepL l = .inr r) : urlR l = (([], r.2), r.1) := by
  rw [urlR, goLs_stop h]
  rfl
theorem url_R (l : List Int) : urlL l = (if (urlR (wL l)).1.2 = true then tkK 7 (runesBytes (urlR (wL l)).1.1) else tkK 8 ⟨#[]⟩, (urlR (wL l)).2) := rfl
end Go.Proofs.YtbjinibmkkmhkaaDoor
