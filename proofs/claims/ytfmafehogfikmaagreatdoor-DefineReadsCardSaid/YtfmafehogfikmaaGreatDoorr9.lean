import Derived.Test.YtfmafehogfikmaaGreatDoorKd
/- The reader said over lists: each part as a function of the signs that are left. -/
namespace Go.Proofs.YtfmafehogfikmaaGreatDoor
open Go Go.RowKit

/-- The sign so many places on; -1: the end. -/
def gt : List Int → Nat → Int
  | [], _ => -1
  | c :: _, 0 => c
  | _ :: l, k + 1 => gt l k
theorem gt_get (l : List Int) : ∀ k, gt l k = (l[k]?).getD (-1) := by
  induction l with
  | nil => intro k; rfl
  | cons c l ih =>
    intro k
    cases k with
    | zero => rfl
    | succ k => rw [gt, ih k]; rfl
theorem wz (L : List Int) (i : Nat) : sg L (i : Int) = gt (L.drop i) 0 := by
  rw [gt_get, List.getElem?_drop, Nat.add_zero]
  unfold sg
  by_cases h : i < L.length
  · rw [dif_pos ⟨by omega, by simpa using h⟩, List.getElem?_eq_getElem h]; rfl
  · rw [dif_neg (by omega), List.getElem?_eq_none (by omega)]; rfl
theorem zn (l : List Int) (j k : Nat) : gt (l.drop j) k = gt l (j + k) := by rw [gt_get, gt_get, List.getElem?_drop]
theorem zQ (L : List Int) (i : Nat) : sg L ((i : Int) + 1) = gt (L.drop i) 1 := by
  rw [show (i : Int) + 1 = ((i + 1 : Nat) : Int) from rfl, wz, zn, zn, Nat.add_zero]
theorem sg_gt2 (L : List Int) (i : Nat) : sg L ((i : Int) + 2) = gt (L.drop i) 2 := by
  rw [show (i : Int) + 2 = ((i + 2 : Nat) : Int) from rfl, wz, zn, zn, Nat.add_zero]
theorem sg_gt3 (L : List Int) (i : Nat) : sg L ((i : Int) + 3) = gt (L.drop i) 3 := by
  rw [show (i : Int) + 3 = ((i + 3 : Nat) : Int) from rfl, wz, zn, zn, Nat.add_zero]

section
variable {α R R' : Type}
/-- From list to list, with what each step puts out, to the end. -/
def goL (step : List Int → (List α × List Int) ⊕ R) : Nat → List Int → List α × Option R
  | 0, _ => ([], none)
  | f + 1, l => match step l with
    | .inl (o, l') => (o ++ (goL step f l').1, (goL step f l').2)
    | .inr r => ([], some r)
def yX (step : List Int → (List α × List Int) ⊕ R) (l : List Int) : List α × Option R := goL step (l.length + 1) l
/-- A step over places, said over lists. -/
def xc (L : List Int) (step : Nat → (List α × Nat) ⊕ R) (stepL : List Int → (List α × List Int) ⊕ R') (g : R → R') : Prop :=
  ∀ i, i ≤ L.length → stepL (L.drop i) = Sum.map (fun p => (p.1, L.drop p.2)) g (step i)
theorem goL_goE {L : List Int} {step : Nat → (List α × Nat) ⊕ R} {stepL : List Int → (List α × List Int) ⊕ R'} {g : R → R'} (h : xc L step stepL g) (hs : y5 L.length step) : ∀ (f i : Nat), i ≤ L.length → goL stepL f (L.drop i) = ((goE step f i).1, (goE step f i).2.map g)
  | 0, _, _ => rfl
  | f + 1, i, hi => by
    rw [goL, h i hi, goE]
    cases e : step i with
    | inr r => rfl
    | inl p => simp only [Sum.map_inl]; rw [goL_goE h hs f p.2 (hs i p.1 p.2 hi e).2.1]
theorem xy {L : List Int} {step : Nat → (List α × Nat) ⊕ R} {stepL : List Int → (List α × List Int) ⊕ R'} {g : R → R'} (h : xc L step stepL g) (hs : y5 L.length step) {i : Nat} (hi : i ≤ L.length) : yX stepL (L.drop i) = ((yn L.length step i).1, (yn L.length step i).2.map g) := by
  rw [yX, List.length_drop, show L.length - i + 1 = L.length + 1 - i by omega, goL_goE h hs _ _ hi, yn]
/-- Each step leaves less. -/
def Less (stepL : List Int → (List α × List Int) ⊕ R) : Prop := ∀ l o l', stepL l = .inl (o, l') → l'.length < l.length
theorem less_of {step : (L : List Int) → Nat → (List α × Nat) ⊕ R} {stepL : List Int → (List α × List Int) ⊕ R'} {g : List Int → R → R'} (h : ∀ L, xc L (step L) stepL (g L)) (hg : ∀ L, y5 L.length (step L)) : Less stepL := by
  intro l o l' e
  have h0 := h l 0 (Nat.zero_le _)
  rw [List.drop_zero, e] at h0
  cases e0 : step l 0 with
  | inr r => rw [e0] at h0; cases h0
  | inl p =>
    rw [e0] at h0
    simp only [Sum.map_inl, Sum.inl.injEq, Prod.mk.injEq] at h0
    have := hg l 0 p.1 p.2 (Nat.zero_le _) e0
    rw [h0.2, List.length_drop]
    omega
end

def escL (l : List Int) : Bool := decide (gt l 0 = 92) && !decide (gt l 1 = 10)
def namesL (l : List Int) : Bool := if gt l 0 = 45 then letF (gt l 1) || decide (gt l 1 = 45) || escL (l.drop 1) else letF (gt l 0) || escL l
theorem escF_L (L : List Int) (i : Nat) : escF L (i : Int) = escL (L.drop i) := by rw [escF, escL, wz, zQ]
theorem escF_L1 (L : List Int) (i : Nat) : escF L ((i : Int) + 1) = escL ((L.drop i).drop 1) := by
  rw [show (i : Int) + 1 = ((i + 1 : Nat) : Int) from rfl, escF_L, List.drop_drop]
theorem namesF_L (L : List Int) (i : Nat) : yG L (i : Int) = namesL (L.drop i) := by
  rw [yG, namesL, escF_L, escF_L1, wz, zQ]
theorem namesF_L1 (L : List Int) (i : Nat) : yG L ((i : Int) + 1) = namesL ((L.drop i).drop 1) := by
  rw [show (i : Int) + 1 = ((i + 1 : Nat) : Int) from rfl, namesF_L, List.drop_drop]
def numsL (l : List Int) : Bool :=
  if gt l 0 = 43 ∨ gt l 0 = 45 then qy (gt l 1) || (decide (gt l 1 = 46) && qy (gt l 2)) else qy (gt l 0) || (decide (gt l 0 = 46) && qy (gt l 1))
theorem numsF_L (L : List Int) (i : Nat) : numsF L (i : Int) = numsL (L.drop i) := by
  rw [numsF, numsL, wz]
  by_cases h : gt (L.drop i) 0 = 43 ∨ gt (L.drop i) 0 = 45
  · simp only [if_pos h]
    rw [zQ, sg_gt2]
  · simp only [if_neg h]
    rw [Int.add_zero, wz, zQ]
def hexRL : Nat → List Int → Int → Int × List Int
  | 0, l, n => (n, l)
  | m + 1, l, n => if (yW (gt l 0)).2 = true then hexRL m (l.drop 1) (n * 16 + (yW (gt l 0)).1) else (n, l)
theorem hexR_L (L : List Int) : ∀ (m i : Nat) (n : Int), hexRL m (L.drop i) n = ((hexR L m i n).1, L.drop (hexR L m i n).2)
  | 0, _, _ => rfl
  | m + 1, i, n => by
    rw [hexRL, hexR, wz]
    split
    · rw [List.drop_drop, hexR_L L m (i + 1)]
    · rfl
def escEL (l : List Int) : Int × List Int :=
  if gt l 0 < 0 then (65533, l) else if (yW (gt l 0)).2 = false then (gt l 0, l.drop 1)
  else (codeF (hexRL 6 l 0).1, if yg (gt (hexRL 6 l 0).2 0) = true then (hexRL 6 l 0).2.drop 1 else (hexRL 6 l 0).2)
theorem escE_L (L : List Int) (i : Nat) : escEL (L.drop i) = ((xV L i).1, L.drop (xV L i).2) := by
  rw [escEL, xV, wz]
  split
  · rfl
  split
  · rw [List.drop_drop]
  rw [hexR_L]
  simp only
  rw [wz]
  split
  · rw [List.drop_drop]
  · rfl
def qf (l : List Int) : (List Int × List Int) ⊕ List Int := if qy (gt l 0) = true then .inl ([gt l 0], l.drop 1) else .inr l
def digL (l : List Int) : List Int × List Int := ((yX qf l).1, ((yX qf l).2).getD [])
def yH (l : List Int) : (List Int × List Int) ⊕ List Int :=
  if nameF (gt l 0) = true then .inl ([gt l 0], l.drop 1) else if escL l = true then .inl ([(escEL (l.drop 1)).1], (escEL (l.drop 1)).2) else .inr l
def wZ (l : List Int) : List Int × List Int := ((yX yH l).1, ((yX yH l).2).getD [])
def wStepL (l : List Int) : (List Int × List Int) ⊕ List Int := if yg (gt l 0) = true then .inl ([], l.drop 1) else .inr l
def wL (l : List Int) : List Int := ((yX wStepL l).2).getD []
def bStepL (l : List Int) : (List Int × List Int) ⊕ List Int := if 0 ≤ gt l 0 ∧ gt l 0 ≠ 41 then (if escL l = true then .inl ([], (escEL (l.drop 1)).2) else .inl ([], l.drop 1)) else .inr l
def bL0 (l : List Int) : List Int := ((yX bStepL l).2).getD []
def bL (l : List Int) : List Int := if gt (bL0 l) 0 = 41 then (bL0 l).drop 1 else bL0 l
theorem dig_same (L : List Int) : xc L (yo L) qf (fun j => L.drop j) := by
  intro i hi
  rw [qf, yo, wz, List.drop_drop]
  split <;> rfl
theorem name_same (L : List Int) : xc L (wl L) yH (fun j => L.drop j) := by
  intro i hi
  rw [yH, wl, wz, escF_L, List.drop_drop, escE_L]
  split
  · rfl
  split <;> rfl
theorem w_same (L : List Int) : xc L (yu L) wStepL (fun j => L.drop j) := by
  intro i hi
  rw [wStepL, yu, wz, List.drop_drop]
  split <;> rfl
theorem b_same (L : List Int) : xc L (qK L) bStepL (fun j => L.drop j) := by
  intro i hi
  rw [bStepL, qK, wz, escF_L, List.drop_drop, escE_L]
  split
  · split <;> rfl
  · rfl
theorem yY {β γ : Type} (o : Option β) (g : β → γ) (a : β) (h : o ≠ none) (c : γ) : (o.map g).getD c = g (o.getD a) := by
  cases o with
  | none => exact absurd rfl h
  | some x => rfl
theorem yd {α R : Type} {n : Nat} {step : Nat → (List α × Nat) ⊕ R} (hs : y5 n step) {i : Nat} (hi : i ≤ n) : (yn n step i).2 ≠ none := by
  obtain ⟨r, j, h1, _⟩ := wy hs n i hi (by omega)
  rw [h1]
  exact fun h => by cases h
theorem dig_L (L : List Int) {i : Nat} (hi : i ≤ L.length) : digL (L.drop i) = (digAt L i, L.drop (xf L i)) := by
  rw [digL, xy (dig_same L) (wM L) hi, digAt, xf]
  simp only
  rw [yY _ _ 0 (yd (wM L) hi)]
theorem name_L (L : List Int) {i : Nat} (hi : i ≤ L.length) : wZ (L.drop i) = (xT L i, L.drop (vK L i)) := by
  rw [wZ, xy (name_same L) (vW L) hi, xT, vK]
  simp only
  rw [yY _ _ 0 (yd (vW L) hi)]
theorem w_L (L : List Int) {i : Nat} (hi : i ≤ L.length) : wL (L.drop i) = L.drop (yh L i) := by
  rw [wL, xy (w_same L) (xm L) hi, yh]
  simp only
  rw [yY _ _ 0 (yd (xm L) hi)]
theorem b_L0 (L : List Int) {i : Nat} (hi : i ≤ L.length) : bL0 (L.drop i) = L.drop (kr L i) := by
  rw [bL0, xy (b_same L) (xW L) hi, kr]
  simp only
  rw [yY _ _ 0 (yd (xW L) hi)]
theorem b_L (L : List Int) {i : Nat} (hi : i ≤ L.length) : bL (L.drop i) = L.drop (bEnd L i) := by
  rw [bL, b_L0 L hi, bEnd, wz]
  split
  · rw [List.drop_drop]
  · rfl
def qr (q : Int) (l : List Int) : (List Int × List Int) ⊕ (List Int × Bool) :=
  if gt l 0 < 0 then .inr (l, true) else if gt l 0 = q then .inr (l.drop 1, true) else if gt l 0 = 10 then .inr (l, false)
  else if gt l 0 = 92 ∧ gt l 1 < 0 then .inl ([], l.drop 1) else if gt l 0 = 92 ∧ gt l 1 = 10 then .inl ([], l.drop 2)
  else if gt l 0 = 92 then .inl ([(escEL (l.drop 1)).1], (escEL (l.drop 1)).2) else .inl ([gt l 0], l.drop 1)
theorem q_same (q : Int) (L : List Int) : xc L (xz q L) (qr q) (fun r => (L.drop r.1, r.2)) := by
  intro i hi
  rw [qr, xz, wz, zQ, List.drop_drop, List.drop_drop, escE_L]
  repeat' split
  all_goals rfl
def quoL (q : Int) (l : List Int) : Tk × List Int :=
  (if (((yX (qr q) l).2).getD ([], false)).2 = true then tkK 5 (runesBytes (yX (qr q) l).1) else tkK 6 ⟨#[]⟩, (((yX (qr q) l).2).getD ([], false)).1)
theorem quo_L (q : Int) (L : List Int) {i : Nat} (hi : i ≤ L.length) : quoL q (L.drop i) = ((quoF q L i).1, L.drop (quoF q L i).2) := by
  rw [quoL, xy (q_same q L) (w7 q L) hi, quoF, quoE]
  simp only
  rw [yY _ _ (0, false) (yd (w7 q L) hi)]
def qj (l : List Int) : (List Int × List Int) ⊕ (List Int × Bool) :=
  if gt l 0 < 0 ∨ gt l 0 = 41 then .inr (if gt l 0 = 41 then l.drop 1 else l, true)
  else if yg (gt l 0) = true then (if gt (wL l) 0 < 0 ∨ gt (wL l) 0 = 41 then .inl ([], wL l) else .inr (bL (wL l), false))
  else if (badF (gt l 0) || (decide (gt l 0 = 92) && !escL l)) = true then .inr (bL l, false)
  else if gt l 0 = 92 then .inl ([(escEL (l.drop 1)).1], (escEL (l.drop 1)).2) else .inl ([gt l 0], l.drop 1)
theorem u_same (L : List Int) : xc L (xY L) qj (fun r => (L.drop r.1, r.2)) := by
  intro i hi
  rw [qj, xY, wz, escF_L, List.drop_drop, escE_L]
  split
  · split <;> rfl
  rw [w_L L hi, wz, b_L L hi, b_L L (xH L hi).2.1]
  repeat' split
  all_goals rfl
def urlL (l : List Int) : Tk × List Int :=
  (if (((yX qj (wL l)).2).getD ([], false)).2 = true then tkK 7 (runesBytes (yX qj (wL l)).1) else tkK 8 ⟨#[]⟩, (((yX qj (wL l)).2).getD ([], false)).1)
theorem url_L (L : List Int) {i : Nat} (hi : i ≤ L.length) : urlL (L.drop i) = ((urlF L i).1, L.drop (urlF L i).2) := by
  have hw := (xH L hi).2.1
  rw [urlL, w_L L hi, xy (u_same L) (xJ L) hw, urlF, urlE]
  simp only
  rw [yY _ _ (0, false) (yd (xJ L) hw)]
def idtL (l : List Int) : Tk × List Int :=
  if gt (wZ l).2 0 = 40 then
    (if vk (runesBytes (wZ l).1) = urlS then
      (if gt (wL ((wZ l).2.drop 1)) 0 = 34 ∨ gt (wL ((wZ l).2.drop 1)) 0 = 39 then (tkK 2 (runesBytes (wZ l).1), ((wZ l).2.drop 1).drop (((wZ l).2.drop 1).length - (wL ((wZ l).2.drop 1)).length - 1))
        else urlL ((wZ l).2.drop 1))
      else (tkK 2 (runesBytes (wZ l).1), (wZ l).2.drop 1))
  else (tkK 1 (runesBytes (wZ l).1), (wZ l).2)
theorem gt_in {l : List Int} {c : Int} (h : gt l 0 = c) (hc : c ≠ -1) : 0 < l.length := by
  cases l with
  | nil => exact absurd h.symm hc
  | cons a l => exact Nat.succ_pos _
theorem idt_L (L : List Int) {i : Nat} (hi : i ≤ L.length) : idtL (L.drop i) = ((idtF L i).1, L.drop (idtF L i).2) := by
  have hn := xS L hi
  rw [idtL, name_L L hi, idtF, wz]
  simp only
  split
  · rename_i h40
    have hin := gt_in h40 (by decide)
    rw [List.length_drop] at hin
    have hw := xH L (i := vK L i + 1) (by omega)
    rw [List.drop_drop, w_L L (i := vK L i + 1) (by omega), wz, url_L L (i := vK L i + 1) (by omega)]
    split
    · split
      · simp only [List.drop_drop, List.length_drop]
        congr 2
        omega
      · rfl
    · rfl
  · rfl
def nSL (l : List Int) : Bool := decide (gt l 0 = 43) || decide (gt l 0 = 45)
def n1L (l : List Int) : List Int := if nSL l = true then l.drop 1 else l
def nT1L (l : List Int) : List Int := if nSL l = true then [gt l 0] else []
def nTL (l : List Int) : List Int := nT1L l ++ (digL (n1L l)).1
def n2L (l : List Int) : List Int := (digL (n1L l)).2
def nDotL (l : List Int) : Bool := decide (gt l 0 = 46) && qy (gt l 1)
def n3L (l : List Int) : List Int := if nDotL l = true then (digL (l.drop 1)).2 else l
def nKL (l : List Int) : Nat := if (decide (gt l 1 = 43) || decide (gt l 1 = 45)) = true then 2 else 1
def nExL (l : List Int) : Bool := (decide (gt l 0 = 101) || decide (gt l 0 = 69)) && qy (gt l (nKL l))
def n4L (l : List Int) : List Int := if nExL l = true then (digL (l.drop (nKL l))).2 else l
def nWL (l : List Int) : Bool := !nDotL (n2L l) && !nExL (n3L (n2L l))
def nPL (l : List Int) : List Int := n4L (n3L (n2L l))
def nTkL (l : List Int) : Tk := ⟨10, ⟨#[]⟩, if nWL l = true then intF (runesBytes (nTL l)) else 0, nWL l, nSL l, false⟩
def numL (l : List Int) : Tk × List Int :=
  if namesL (nPL l) = true then ({ nTkL l with kind := 12, text := runesBytes (wZ (nPL l)).1 }, (wZ (nPL l)).2)
  else if gt (nPL l) 0 = 37 then ({ nTkL l with kind := 11 }, (nPL l).drop 1) else (nTkL l, nPL l)
theorem nS_L (L : List Int) (i : Nat) : nS L i = nSL (L.drop i) := by rw [nS, nSL, wz]
theorem n1_L (L : List Int) (i : Nat) : n1L (L.drop i) = L.drop (n1 L i) := by
  rw [n1L, n1, nS_L, List.drop_drop]
  split <;> rfl
theorem nT1_L (L : List Int) (i : Nat) : nT1L (L.drop i) = nT1 L i := by rw [nT1L, nT1, nS_L, wz]
theorem n2_L (L : List Int) {i : Nat} (hi : i ≤ L.length) : n2L (L.drop i) = L.drop (n2 L i) := by rw [n2L, n1_L, dig_L L (n1_le L hi).2, n2]
theorem nT_L (L : List Int) {i : Nat} (hi : i ≤ L.length) : nTL (L.drop i) = nT L i := by rw [nTL, nT1_L, n1_L, dig_L L (n1_le L hi).2, nT]
theorem nDot_L (L : List Int) (i : Nat) : nDotL (L.drop i) = nDot L i := by rw [nDotL, nDot, wz, zQ]
theorem n3_L (L : List Int) {i : Nat} (hi : i ≤ L.length) : n3L (L.drop i) = L.drop (n3 L i) := by
  rw [n3L, n3, nDot_L]
  split
  · rename_i h
    have := nDot_in h
    rw [List.drop_drop, dig_L L (by omega)]
  · rfl
theorem nK_L (L : List Int) (i : Nat) : nKL (L.drop i) = nK L i := by rw [nKL, nK, nEs, zQ]
theorem nEx_L (L : List Int) (i : Nat) : nExL (L.drop i) = nEx L i := by
  rw [nExL, nEx, nE, nK_L, wz, zn, show ((i : Int) + (nK L i : Int)) = ((i + nK L i : Nat) : Int) from rfl, wz, zn, Nat.add_zero, zn, Nat.add_zero]
theorem n4_L (L : List Int) {i : Nat} (hi : i ≤ L.length) : n4L (L.drop i) = L.drop (n4 L i) := by
  rw [n4L, n4, nEx_L, nK_L]
  split
  · rename_i h
    rw [nEx, Bool.and_eq_true] at h
    have := nEx_in h.2
    rw [List.drop_drop, dig_L L (by omega)]
  · rfl
theorem nW_L (L : List Int) {i : Nat} (hi : i ≤ L.length) : nWL (L.drop i) = nW L i := by
  rw [nWL, nW, n2_L L hi, n3_L L (n2_le L hi).2, nDot_L, nEx_L]
theorem nP_L (L : List Int) {i : Nat} (hi : i ≤ L.length) : nPL (L.drop i) = L.drop (nP L i) := by
  rw [nPL, nP, n2_L L hi, n3_L L (n2_le L hi).2, n4_L L (n3_le L (n2_le L hi).2).2]
theorem nP_le (L : List Int) {i : Nat} (hi : i ≤ L.length) : nP L i ≤ L.length := (n4_le L (n3_le L (n2_le L hi).2).2).2
theorem nTk_L (L : List Int) {i : Nat} (hi : i ≤ L.length) : nTkL (L.drop i) = nTk L i := by rw [nTkL, nTk, nW_L L hi, nT_L L hi, ← nS_L]
theorem num_L (L : List Int) {i : Nat} (hi : i ≤ L.length) : numL (L.drop i) = ((numF L i).1, L.drop (numF L i).2) := by
  rw [numL, numF, nP_L L hi, name_L L (nP_le L hi), nTk_L L hi, namesF_L, wz, List.drop_drop]
  split
  · rfl
  split <;> rfl
def hashL (l : List Int) : Bool := decide (gt l 0 = 35) && (nameF (gt l 1) || escL (l.drop 1))
def numBL (l : List Int) : Bool := (decide (gt l 0 = 43) || decide (gt l 0 = 45) || decide (gt l 0 = 46) || qy (gt l 0)) && numsL l
def cdcL (l : List Int) : Bool := decide (gt l 0 = 45) && decide (gt l 1 = 45) && decide (gt l 2 = 62)
def cdoL (l : List Int) : Bool := decide (gt l 0 = 60) && decide (gt l 1 = 33) && decide (gt l 2 = 45) && decide (gt l 3 = 45)
def atL (l : List Int) : Bool := decide (gt l 0 = 64) && namesL (l.drop 1)
def tokL (l : List Int) : Tk × List Int :=
  if plI (gt l 0) < 9 then (tkK (kindsL.getD (plI (gt l 0)) 0) (if plI (gt l 0) < 6 then runesBytes [gt l 0] else ⟨#[]⟩), l.drop 1)
  else if yg (gt l 0) = true then (tkK 13 ⟨#[]⟩, wL l)
  else if gt l 0 = 34 ∨ gt l 0 = 39 then quoL (gt l 0) (l.drop 1)
  else if hashL l = true then (⟨4, runesBytes (wZ (l.drop 1)).1, 0, false, false, namesL (l.drop 1)⟩, (wZ (l.drop 1)).2)
  else if numBL l = true then numL l
  else if cdcL l = true then (tkK 15 ⟨#[]⟩, l.drop 3)
  else if cdoL l = true then (tkK 14 ⟨#[]⟩, l.drop 4)
  else if atL l = true then (tkK 3 (runesBytes (wZ (l.drop 1)).1), (wZ (l.drop 1)).2)
  else if namesL l = true then idtL l
  else (tkK 9 (runesBytes [gt l 0]), l.drop 1)
theorem tok_L (L : List Int) {i : Nat} (hi : i < L.length) : tokL (L.drop i) = ((tokF L i).1, L.drop (tokF L i).2) := by
  have hle : i ≤ L.length := by omega
  rw [tokL, tokF, hashL, hashB, numBL, numB, cdcL, cdcB, cdoL, cdoB, atL, atB, numsF_L, namesF_L, namesF_L1, escF_L1, wz, zQ, sg_gt2, sg_gt3, w_L L hle, num_L L hle, idt_L L hle]
  simp only [List.drop_drop]
  rw [quo_L _ L (i := i + 1) hi, name_L L (i := i + 1) hi]
  repeat' split
  all_goals rfl
def eStepL (l : List Int) : (List Int × List Int) ⊕ List Int := if 0 ≤ gt l 0 ∧ (gt l 0 ≠ 42 ∨ gt l 1 ≠ 47) then .inl ([], l.drop 1) else .inr l
theorem e_same (L : List Int) : xc L (eStep L) eStepL (fun j => L.drop j) := by
  intro i hi
  rw [eStepL, eStep, wz, zQ, List.drop_drop]
  split <;> rfl
def eL (l : List Int) : List Int := ((yX eStepL l).2).getD []
theorem e_L (L : List Int) {i : Nat} (hi : i ≤ L.length) : eL (L.drop i) = L.drop (eEnd L i) := by
  rw [eL, xy (e_same L) (zF L) hi, eEnd]
  simp only
  rw [yY _ _ 0 (yd (zF L) hi)]
def cStepL (l : List Int) : (List Int × List Int) ⊕ List Int := if gt l 0 = 47 ∧ gt l 1 = 42 then .inl ([], (eL (l.drop 2)).drop 2) else .inr l
theorem drop_min (L : List Int) (k : Nat) : L.drop (min k L.length) = L.drop k := by
  rcases Nat.le_total k L.length with h | h
  · rw [Nat.min_eq_left h]
  · rw [Nat.min_eq_right h, List.drop_eq_nil_of_le (Nat.le_refl _), List.drop_eq_nil_of_le h]
theorem gt_in1 {l : List Int} {k : Nat} {c : Int} (h : gt l k = c) (hc : c ≠ -1) : k < l.length := by
  rcases Nat.lt_or_ge k l.length with h1 | h1
  · exact h1
  · rw [gt_get, List.getElem?_eq_none h1] at h
    exact absurd h.symm hc
theorem c_same (L : List Int) : xc L (cStep L) cStepL (fun j => L.drop j) := by
  intro i hi
  rw [cStepL, cStep, wz, zQ]
  split
  · rename_i h
    have := gt_in1 h.2 (by decide)
    rw [List.length_drop] at this
    rw [List.drop_drop, e_L L (by omega), List.drop_drop]
    simp only [Sum.map_inl]
    rw [drop_min]
  · rfl
def cL (l : List Int) : List Int := ((yX cStepL l).2).getD []
theorem c_L (L : List Int) {i : Nat} (hi : i ≤ L.length) : cL (L.drop i) = L.drop (cEnd L i) := by
  rw [cL, xy (c_same L) (yM L) hi, cEnd]
  simp only
  rw [yY _ _ 0 (yd (yM L) hi)]
def qR (l : List Int) : (List Tk × List Int) ⊕ Unit := if gt (cL l) 0 < 0 then .inr () else .inl ([(tokL (cL l)).1], (tokL (cL l)).2)
/-- The tokens of signs. -/
def toksL (l : List Int) : List Tk := (yX qR l).1
theorem dig_less : Less qf := less_of dig_same wM
theorem name_less : Less yH := less_of name_same vW
theorem w_less : Less wStepL := less_of w_same xm
theorem c_less : Less cStepL := less_of c_same yM
/-- Signs that were read: none is below 0. -/
theorem t_same (L : List Int) : xc L (tStep L) qR id := by
  intro i h
  have hc := cEnd_le L h
  rw [qR, tStep, c_L L h, wz]
  rcases Nat.lt_or_ge (cEnd L i) L.length with h2 | h2
  · have e : ((gt (L.drop (cEnd L i)) 0 < 0 ∨ L.length ≤ cEnd L i) ↔ gt (L.drop (cEnd L i)) 0 < 0) := ⟨fun h => h.resolve_right (by omega), .inl⟩
    rw [tok_L L h2]
    simp only [e]
    split <;> rfl
  · rw [List.drop_eq_nil_of_le h2, if_pos (by decide), if_pos (.inr h2)]
    rfl
theorem t_less : Less qR := less_of (g := fun _ => id) t_same xK
theorem toks_L (L : List Int) : toksL L = wj L := by
  have := xy (t_same L) (xK L) (Nat.zero_le _)
  rw [List.drop_zero] at this
  rw [toksL, this, wj]
end Go.Proofs.YtfmafehogfikmaaGreatDoor

/- Signs read of bytes, said over lists. -/
namespace Go.Proofs.YtfmafehogfikmaaGreatDoor
open Go Go.RowKit

/-- The sign at the head of bytes, and how many bytes it takes. -/
def decL (l : List UInt8) : Nat × Nat := Utf8.decode ⟨l.toArray⟩ 0
theorem sz_list (l : List UInt8) : (⟨l.toArray⟩ : ByteArray).size = l.length := List.size_toArray
def normR (r : Int) : Int := if r = 13 ∨ r = 12 then 10 else if r = 0 then 65533 else r
/-- Signs of bytes; fi: is it the first one? cr: stands a carriage return ahead? -/
def rdL : Nat → Bool → Bool → List UInt8 → List Int
  | 0, _, _, _ => []
  | f + 1, fi, cr, l =>
    if 0 < l.length then
      (if (fi = true ∧ ((decL l).1 : Int) = 65279) ∨ (((decL l).1 : Int) = 10 ∧ cr = true) then [] else [normR (decL l).1]) ++ rdL f false (decide (((decL l).1 : Int) = 13)) (l.drop (decL l).2)
    else []
def readS (fi cr : Bool) (l : List UInt8) : List Int := rdL l.length fi cr l
/-- A byte that is its own sign. -/
def plB (c : UInt8) : Bool := decide (c.toNat < 128) && !decide (c.toNat = 13) && !decide (c.toNat = 12) && !decide (c.toNat = 0)
def bI (c : UInt8) : Int := c.toNat
end Go.Proofs.YtfmafehogfikmaaGreatDoor

/- Tokens at the head of signs. -/
namespace Go.Proofs.YtfmafehogfikmaaGreatDoor
open Go Go.RowKit

/-- The tokens of signs, with so many steps. -/
def toksN (f : Nat) (l : List Int) : List Tk := (goL qR f l).1
end Go.Proofs.YtfmafehogfikmaaGreatDoor

/- Comments, read of bytes. -/
namespace Go.Proofs.YtfmafehogfikmaaGreatDoor
open Go Go.RowKit

/-- No star that a slash follows. -/
def noAdj : List UInt8 → Bool
  | c :: d :: r => !(decide (c.toNat = 42) && decide (d.toNat = 47)) && noAdj (d :: r)
  | _ => true
end Go.Proofs.YtfmafehogfikmaaGreatDoor
