import Derived.Test.YtiolnmfaeenlmaaGreatDoorKd
/- The reader said over lists: each part as a function of the signs that are left. -/
namespace Go.Proofs.YtiolnmfaeenlmaaGreatDoor
open Go Go.RowKit

/-- The sign so many places on; -1: the end. -/
def gt : List Int → Nat → Int
  | [], _ => -1
  | c :: _, 0 => c
  | _ :: l, k + 1 => gt l k
theorem gt_get (l : List Int) : ∀ k, gt l k = (l[k]?).getD (-1) := by
  induction l with
  | nil => intro k; rfl
  | cons c l ih =>
    intro k
    cases k with
    | zero => rfl
    | succ k => rw [gt, ih k]; rfl
theorem sg_gt (L : List Int) (i : Nat) : sg L (i : Int) = gt (L.drop i) 0 := by
  rw [gt_get, List.getElem?_drop, Nat.add_zero]
  unfold sg
  by_cases h : i < L.length
  · rw [dif_pos ⟨by omega, by simpa using h⟩, List.getElem?_eq_getElem h]; rfl
  · rw [dif_neg (by omega), List.getElem?_eq_none (by omega)]; rfl
section
variable {α R R' : Type}
/-- From list to list, with what each step puts out, to the end. -/
def goL (step : List Int → (List α × List Int) ⊕ R) : Nat → List Int → List α × Option R
  | 0, _ => ([], none)
  | f + 1, l => match step l with
    | .inl (o, l') => (o ++ (goL step f l').1, (goL step f l').2)
    | .inr r => ([], some r)
def goLs (step : List Int → (List α × List Int) ⊕ R) (l : List Int) : List α × Option R := goL step (l.length + 1) l
/-- A step over places, said over lists. -/
def SameStep (L : List Int) (step : Nat → (List α × Nat) ⊕ R) (stepL : List Int → (List α × List Int) ⊕ R') (g : R → R') : Prop :=
  ∀ i, i ≤ L.length → stepL (L.drop i) = Sum.map (fun p => (p.1, L.drop p.2)) g (step i)
theorem goL_goE {L : List Int} {step : Nat → (List α × Nat) ⊕ R} {stepL : List Int → (List α × List Int) ⊕ R'} {g : R → R'} (h : SameStep L step stepL g) (hs : Goes2 L.length step) : ∀ (f i : Nat), i ≤ L.length → goL stepL f (L.drop i) = ((goE step f i).1, (goE step f i).2.map g)
  | 0, _, _ => rfl
  | f + 1, i, hi => by
    rw [goL, h i hi, goE]
    cases e : step i with
    | inr r => rfl
    | inl p => simp only [Sum.map_inl]; rw [goL_goE h hs f p.2 (hs i p.1 p.2 hi e).2.1]
theorem goLs_goAt {L : List Int} {step : Nat → (List α × Nat) ⊕ R} {stepL : List Int → (List α × List Int) ⊕ R'} {g : R → R'} (h : SameStep L step stepL g) (hs : Goes2 L.length step) {i : Nat} (hi : i ≤ L.length) : goLs stepL (L.drop i) = ((goAt L.length step i).1, (goAt L.length step i).2.map g) := by
  rw [goLs, List.length_drop, show L.length - i + 1 = L.length + 1 - i by omega, goL_goE h hs _ _ hi, goAt]
/-- Each step leaves less. -/
def Less (stepL : List Int → (List α × List Int) ⊕ R) : Prop := ∀ l o l', stepL l = .inl (o, l') → l'.length < l.length
theorem goL_fuel {stepL : List Int → (List α × List Int) ⊕ R} (h : Less stepL) : ∀ (f f' : Nat) (l : List Int), l.length < f → l.length < f' → goL stepL f l = goL stepL f' l
  | 0, _, l, hf, _ => by omega
  | _ + 1, 0, l, _, hf => by omega
  | f + 1, f' + 1, l, hf, hf' => by
    rw [goL, goL]
    cases e : stepL l with
    | inr r => rfl
    | inl p =>
      have := h l p.1 p.2 e
      simp only
      rw [goL_fuel h f f' p.2 (by omega) (by omega)]
theorem goLs_go {stepL : List Int → (List α × List Int) ⊕ R} (h : Less stepL) {l l' : List Int} {o : List α} (e : stepL l = .inl (o, l')) : goLs stepL l = (o ++ (goLs stepL l').1, (goLs stepL l').2) := by
  have := h l o l' e
  rw [goLs, goL, e]
  simp only
  rw [goL_fuel h l.length (l'.length + 1) l' (by omega) (by omega), goLs]
theorem goLs_stop {stepL : List Int → (List α × List Int) ⊕ R} {l : List Int} {r : R} (e : stepL l = .inr r) : goLs stepL l = ([], some r) := by
  rw [goLs, goL, e]
theorem less_of {step : (L : List Int) → Nat → (List α × Nat) ⊕ R} {stepL : List Int → (List α × List Int) ⊕ R'} {g : List Int → R → R'} (h : ∀ L, SameStep L (step L) stepL (g L)) (hg : ∀ L, Goes2 L.length (step L)) : Less stepL := by
  intro l o l' e
  have h0 := h l 0 (Nat.zero_le _)
  rw [List.drop_zero, e] at h0
  cases e0 : step l 0 with
  | inr r => rw [e0] at h0; cases h0
  | inl p =>
    rw [e0] at h0
    simp only [Sum.map_inl, Sum.inl.injEq, Prod.mk.injEq] at h0
    have := hg l 0 p.1 p.2 (Nat.zero_le _) e0
    rw [h0.2, List.length_drop]
    omega
end

def escL (l : List Int) : Bool := decide (gt l 0 = 92) && !decide (gt l 1 = 10)
def namesL (l : List Int) : Bool := if gt l 0 = 45 then letF (gt l 1) || decide (gt l 1 = 45) || escL (l.drop 1) else letF (gt l 0) || escL l
def numsL (l : List Int) : Bool :=
  if gt l 0 = 43 ∨ gt l 0 = 45 then digF (gt l 1) || (decide (gt l 1 = 46) && digF (gt l 2)) else digF (gt l 0) || (decide (gt l 0 = 46) && digF (gt l 1))
def hexRL : Nat → List Int → Int → Int × List Int
  | 0, l, n => (n, l)
  | m + 1, l, n => if (hexF (gt l 0)).2 = true then hexRL m (l.drop 1) (n * 16 + (hexF (gt l 0)).1) else (n, l)
def escEL (l : List Int) : Int × List Int :=
  if gt l 0 < 0 then (65533, l) else if (hexF (gt l 0)).2 = false then (gt l 0, l.drop 1)
  else (codeF (hexRL 6 l 0).1, if whiteF (gt (hexRL 6 l 0).2 0) = true then (hexRL 6 l 0).2.drop 1 else (hexRL 6 l 0).2)
def digStepL (l : List Int) : (List Int × List Int) ⊕ List Int := if digF (gt l 0) = true then .inl ([gt l 0], l.drop 1) else .inr l
def digL (l : List Int) : List Int × List Int := ((goLs digStepL l).1, ((goLs digStepL l).2).getD [])
def nameStepL (l : List Int) : (List Int × List Int) ⊕ List Int :=
  if nameF (gt l 0) = true then .inl ([gt l 0], l.drop 1) else if escL l = true then .inl ([(escEL (l.drop 1)).1], (escEL (l.drop 1)).2) else .inr l
def nameL (l : List Int) : List Int × List Int := ((goLs nameStepL l).1, ((goLs nameStepL l).2).getD [])
def wStepL (l : List Int) : (List Int × List Int) ⊕ List Int := if whiteF (gt l 0) = true then .inl ([], l.drop 1) else .inr l
def wL (l : List Int) : List Int := ((goLs wStepL l).2).getD []
def bStepL (l : List Int) : (List Int × List Int) ⊕ List Int := if 0 ≤ gt l 0 ∧ gt l 0 ≠ 41 then (if escL l = true then .inl ([], (escEL (l.drop 1)).2) else .inl ([], l.drop 1)) else .inr l
def bL0 (l : List Int) : List Int := ((goLs bStepL l).2).getD []
def bL (l : List Int) : List Int := if gt (bL0 l) 0 = 41 then (bL0 l).drop 1 else bL0 l
theorem dig_same (L : List Int) : SameStep L (digStep L) digStepL (fun j => L.drop j) := by
  intro i hi
  rw [digStepL, digStep, sg_gt, List.drop_drop]
  split <;> rfl
theorem getD_map {β γ : Type} (o : Option β) (g : β → γ) (a : β) (h : o ≠ none) (c : γ) : (o.map g).getD c = g (o.getD a) := by
  cases o with
  | none => exact absurd rfl h
  | some x => rfl
theorem goAt_some {α R : Type} {n : Nat} {step : Nat → (List α × Nat) ⊕ R} (hs : Goes2 n step) {i : Nat} (hi : i ≤ n) : (goAt n step i).2 ≠ none := by
  obtain ⟨r, j, h1, _⟩ := goAt_end hs n i hi (by omega)
  rw [h1]
  exact fun h => by cases h
theorem dig_L (L : List Int) {i : Nat} (hi : i ≤ L.length) : digL (L.drop i) = (digAt L i, L.drop (digEnd L i)) := by
  rw [digL, goLs_goAt (dig_same L) (digStep_goes L) hi, digAt, digEnd]
  simp only
  rw [getD_map _ _ 0 (goAt_some (digStep_goes L) hi)]
def qStepL (q : Int) (l : List Int) : (List Int × List Int) ⊕ (List Int × Bool) :=
  if gt l 0 < 0 then .inr (l, true) else if gt l 0 = q then .inr (l.drop 1, true) else if gt l 0 = 10 then .inr (l, false)
  else if gt l 0 = 92 ∧ gt l 1 < 0 then .inl ([], l.drop 1) else if gt l 0 = 92 ∧ gt l 1 = 10 then .inl ([], l.drop 2)
  else if gt l 0 = 92 then .inl ([(escEL (l.drop 1)).1], (escEL (l.drop 1)).2) else .inl ([gt l 0], l.drop 1)
def quoL (q : Int) (l : List Int) : Tk × List Int :=
  (if (((goLs (qStepL q) l).2).getD ([], false)).2 = true then tkK 5 (runesBytes (goLs (qStepL q) l).1) else tkK 6 ⟨#[]⟩, (((goLs (qStepL q) l).2).getD ([], false)).1)
def uStepL (l : List Int) : (List Int × List Int) ⊕ (List Int × Bool) :=
  if gt l 0 < 0 ∨ gt l 0 = 41 then .inr (if gt l 0 = 41 then l.drop 1 else l, true)
  else if whiteF (gt l 0) = true then (if gt (wL l) 0 < 0 ∨ gt (wL l) 0 = 41 then .inl ([], wL l) else .inr (bL (wL l), false))
  else if (badF (gt l 0) || (decide (gt l 0 = 92) && !escL l)) = true then .inr (bL l, false)
  else if gt l 0 = 92 then .inl ([(escEL (l.drop 1)).1], (escEL (l.drop 1)).2) else .inl ([gt l 0], l.drop 1)
def urlL (l : List Int) : Tk × List Int :=
  (if (((goLs uStepL (wL l)).2).getD ([], false)).2 = true then tkK 7 (runesBytes (goLs uStepL (wL l)).1) else tkK 8 ⟨#[]⟩, (((goLs uStepL (wL l)).2).getD ([], false)).1)
def idtL (l : List Int) : Tk × List Int :=
  if gt (nameL l).2 0 = 40 then
    (if lowS (runesBytes (nameL l).1) = urlS then
      (if gt (wL ((nameL l).2.drop 1)) 0 = 34 ∨ gt (wL ((nameL l).2.drop 1)) 0 = 39 then (tkK 2 (runesBytes (nameL l).1), ((nameL l).2.drop 1).drop (((nameL l).2.drop 1).length - (wL ((nameL l).2.drop 1)).length - 1))
        else urlL ((nameL l).2.drop 1))
      else (tkK 2 (runesBytes (nameL l).1), (nameL l).2.drop 1))
  else (tkK 1 (runesBytes (nameL l).1), (nameL l).2)
def nSL (l : List Int) : Bool := decide (gt l 0 = 43) || decide (gt l 0 = 45)
def n1L (l : List Int) : List Int := if nSL l = true then l.drop 1 else l
def nT1L (l : List Int) : List Int := if nSL l = true then [gt l 0] else []
def nTL (l : List Int) : List Int := nT1L l ++ (digL (n1L l)).1
def n2L (l : List Int) : List Int := (digL (n1L l)).2
def nDotL (l : List Int) : Bool := decide (gt l 0 = 46) && digF (gt l 1)
def n3L (l : List Int) : List Int := if nDotL l = true then (digL (l.drop 1)).2 else l
def nKL (l : List Int) : Nat := if (decide (gt l 1 = 43) || decide (gt l 1 = 45)) = true then 2 else 1
def nExL (l : List Int) : Bool := (decide (gt l 0 = 101) || decide (gt l 0 = 69)) && digF (gt l (nKL l))
def n4L (l : List Int) : List Int := if nExL l = true then (digL (l.drop (nKL l))).2 else l
def nWL (l : List Int) : Bool := !nDotL (n2L l) && !nExL (n3L (n2L l))
def nPL (l : List Int) : List Int := n4L (n3L (n2L l))
def nTkL (l : List Int) : Tk := ⟨10, ⟨#[]⟩, if nWL l = true then intF (runesBytes (nTL l)) else 0, nWL l, nSL l, false⟩
def numL (l : List Int) : Tk × List Int :=
  if namesL (nPL l) = true then ({ nTkL l with kind := 12, text := runesBytes (nameL (nPL l)).1 }, (nameL (nPL l)).2)
  else if gt (nPL l) 0 = 37 then ({ nTkL l with kind := 11 }, (nPL l).drop 1) else (nTkL l, nPL l)
theorem nS_L (L : List Int) (i : Nat) : nS L i = nSL (L.drop i) := by rw [nS, nSL, sg_gt]
theorem n1_L (L : List Int) (i : Nat) : n1L (L.drop i) = L.drop (n1 L i) := by
  rw [n1L, n1, nS_L, List.drop_drop]
  split <;> rfl
theorem nT1_L (L : List Int) (i : Nat) : nT1L (L.drop i) = nT1 L i := by rw [nT1L, nT1, nS_L, sg_gt]
theorem n2_L (L : List Int) {i : Nat} (hi : i ≤ L.length) : n2L (L.drop i) = L.drop (n2 L i) := by rw [n2L, n1_L, dig_L L (n1_le L hi).2, n2]
theorem nT_L (L : List Int) {i : Nat} (hi : i ≤ L.length) : nTL (L.drop i) = nT L i := by rw [nTL, nT1_L, n1_L, dig_L L (n1_le L hi).2, nT]
def hashL (l : List Int) : Bool := decide (gt l 0 = 35) && (nameF (gt l 1) || escL (l.drop 1))
def numBL (l : List Int) : Bool := (decide (gt l 0 = 43) || decide (gt l 0 = 45) || decide (gt l 0 = 46) || digF (gt l 0)) && numsL l
def cdcL (l : List Int) : Bool := decide (gt l 0 = 45) && decide (gt l 1 = 45) && decide (gt l 2 = 62)
def cdoL (l : List Int) : Bool := decide (gt l 0 = 60) && decide (gt l 1 = 33) && decide (gt l 2 = 45) && decide (gt l 3 = 45)
def atL (l : List Int) : Bool := decide (gt l 0 = 64) && namesL (l.drop 1)
def tokL (l : List Int) : Tk × List Int :=
  if plI (gt l 0) < 9 then (tkK (kindsL.getD (plI (gt l 0)) 0) (if plI (gt l 0) < 6 then runesBytes [gt l 0] else ⟨#[]⟩), l.drop 1)
  else if whiteF (gt l 0) = true then (tkK 13 ⟨#[]⟩, wL l)
  else if gt l 0 = 34 ∨ gt l 0 = 39 then quoL (gt l 0) (l.drop 1)
  else if hashL l = true then (⟨4, runesBytes (nameL (l.drop 1)).1, 0, false, false, namesL (l.drop 1)⟩, (nameL (l.drop 1)).2)
  else if numBL l = true then numL l
  else if cdcL l = true then (tkK 15 ⟨#[]⟩, l.drop 3)
  else if cdoL l = true then (tkK 14 ⟨#[]⟩, l.drop 4)
  else if atL l = true then (tkK 3 (runesBytes (nameL (l.drop 1)).1), (nameL (l.drop 1)).2)
  else if namesL l = true then idtL l
  else (tkK 9 (runesBytes [gt l 0]), l.drop 1)
def eStepL (l : List Int) : (List Int × List Int) ⊕ List Int := if 0 ≤ gt l 0 ∧ (gt l 0 ≠ 42 ∨ gt l 1 ≠ 47) then .inl ([], l.drop 1) else .inr l
def eL (l : List Int) : List Int := ((goLs eStepL l).2).getD []
def cStepL (l : List Int) : (List Int × List Int) ⊕ List Int := if gt l 0 = 47 ∧ gt l 1 = 42 then .inl ([], (eL (l.drop 2)).drop 2) else .inr l
def cL (l : List Int) : List Int := ((goLs cStepL l).2).getD []
def tStepL (l : List Int) : (List Tk × List Int) ⊕ Unit := if gt (cL l) 0 < 0 then .inr () else .inl ([(tokL (cL l)).1], (tokL (cL l)).2)
/-- The tokens of signs. -/
def toksL (l : List Int) : List Tk := (goLs tStepL l).1
theorem dig_less : Less digStepL := less_of dig_same digStep_goes
theorem digL_go {l : List Int} (h : digF (gt l 0) = true) : digL l = (gt l 0 :: (digL (l.drop 1)).1, (digL (l.drop 1)).2) := by
  rw [digL, goLs_go dig_less (show digStepL l = .inl ([gt l 0], l.drop 1) from if_pos h)]
  rfl
theorem digL_no {l : List Int} (h : digF (gt l 0) = false) : digL l = ([], l) := by rw [digL, goLs_stop (r := l) (if_neg (by rw [h]; decide))]; rfl
end Go.Proofs.YtiolnmfaeenlmaaGreatDoor

/- Signs read of bytes, said over lists. -/
namespace Go.Proofs.YtiolnmfaeenlmaaGreatDoor
open Go Go.RowKit

theorem get_list (l : List UInt8) (j : Nat) : (⟨l.toArray⟩ : ByteArray).get! j = l[j]! := by
  simp [ByteArray.get!]
/-- The sign at the head of bytes, and how many bytes it takes. -/
def decL (l : List UInt8) : Nat × Nat := Utf8.decode ⟨l.toArray⟩ 0
theorem bang_drop (l : List UInt8) (i k : Nat) : (l.drop i)[k]! = l[i + k]! := by
  rw [List.getElem!_eq_getElem?_getD, List.getElem!_eq_getElem?_getD, List.getElem?_drop]
theorem sz_list (l : List UInt8) : (⟨l.toArray⟩ : ByteArray).size = l.length := List.size_toArray
theorem dec_drop (l : List UInt8) (i : Nat) : Utf8.decode ⟨l.toArray⟩ i = decL (l.drop i) := by
  have hc : ∀ k, decide (0 + k < l.length - i) = decide (i + k < l.length) := fun k => by
    rw [decide_eq_decide]; omega
  simp only [decL, Utf8.decode, get_list, sz_list, List.length_drop, bang_drop, Nat.zero_add] at hc ⊢
  simp only [hc]
theorem dec_ascii (c : UInt8) (l : List UInt8) (h : c.toNat < 128) : decL (c :: l) = (c.toNat, 1) := by
  simp only [decL, Utf8.decode, get_list]
  rw [if_pos (show ((c :: l)[0 + 0]!).toNat < 128 from h)]
  rfl
def normR (r : Int) : Int := if r = 13 ∨ r = 12 then 10 else if r = 0 then 65533 else r
/-- Signs of bytes; fi: is it the first one? cr: stands a carriage return ahead? -/
def rdL : Nat → Bool → Bool → List UInt8 → List Int
  | 0, _, _, _ => []
  | f + 1, fi, cr, l =>
    if 0 < l.length then
      (if (fi = true ∧ ((decL l).1 : Int) = 65279) ∨ (((decL l).1 : Int) = 10 ∧ cr = true) then [] else [normR (decL l).1]) ++ rdL f false (decide (((decL l).1 : Int) = 13)) (l.drop (decL l).2)
    else []
def readS (fi cr : Bool) (l : List UInt8) : List Int := rdL l.length fi cr l
/-- A byte that is its own sign. -/
def plB (c : UInt8) : Bool := decide (c.toNat < 128) && !decide (c.toNat = 13) && !decide (c.toNat = 12) && !decide (c.toNat = 0)
def bI (c : UInt8) : Int := c.toNat
end Go.Proofs.YtiolnmfaeenlmaaGreatDoor

/- Tokens at the head of signs. -/
namespace Go.Proofs.YtiolnmfaeenlmaaGreatDoor
open Go Go.RowKit

/-- The tokens of signs, with so many steps. -/
def toksN (f : Nat) (l : List Int) : List Tk := (goL tStepL f l).1
theorem plI_no {c : Int} (h : c ≠ 40 ∧ c ≠ 91 ∧ c ≠ 123 ∧ c ≠ 41 ∧ c ≠ 93 ∧ c ≠ 125 ∧ c ≠ 44 ∧ c ≠ 58 ∧ c ≠ 59) : ¬ plI c < 9 := by
  intro h9
  have h1 := List.findIdx_getElem (xs := plainL) (p := fun x => decide (x = c)) (w := h9)
  have h2 : ∀ x ∈ plainL, x ≠ c := by
    intro x hx
    simp only [plainL, List.mem_cons, List.not_mem_nil, or_false] at hx
    omega
  exact h2 _ (List.getElem_mem _) (of_decide_eq_true h1)
theorem let_facts {c : Int} (h : letF c = true) : (97 ≤ c ∧ c ≤ 122) ∨ (65 ≤ c ∧ c ≤ 90) ∨ c = 95 ∨ 128 ≤ c := by
  simp only [letF, Bool.or_eq_true, Bool.and_eq_true, decide_eq_true_eq] at h
  omega
end Go.Proofs.YtiolnmfaeenlmaaGreatDoor

/- Comments, read of bytes. -/
namespace Go.Proofs.YtiolnmfaeenlmaaGreatDoor
open Go Go.RowKit

theorem dec_small (c : UInt8) (l : List UInt8) (h : (decL (c :: l)).1 < 128) : c.toNat < 128 := by
  have hbt : ∀ k, ((c :: l)[0 + k]!).toNat < 256 := fun k => ((c :: l)[0 + k]!).toNat_lt
  have h0 := hbt 0; have h1 := hbt 1; have h2 := hbt 2; have h3 := hbt 3
  have e : (c :: l)[0 + 0]! = c := rfl
  rw [e] at h0
  simp only [decL, Utf8.decode, get_list, sz_list, Utf8.runeError, e] at h
  split at h
  · assumption
  split at h
  · split at h <;> simp only at h <;> omega
  split at h
  · split at h
    · rename_i hc
      simp only [Bool.and_eq_true, decide_eq_true_eq] at hc
      simp only at h; omega
    · simp only at h; omega
  split at h
  · split at h
    · rename_i hc
      simp only [Bool.and_eq_true, decide_eq_true_eq] at hc
      simp only at h; omega
    · simp only at h; omega
  · simp only at h; omega
/-- No star that a slash follows. -/
def noAdj : List UInt8 → Bool
  | c :: d :: r => !(decide (c.toNat = 42) && decide (d.toNat = 47)) && noAdj (d :: r)
  | _ => true
end Go.Proofs.YtiolnmfaeenlmaaGreatDoor
