import Derived.Test.YtbjinibmkkmhkaaDoorK7
/- The reader: strings and urls. -/
namespace Go.Proofs.YtbjinibmkkmhkaaDoor
open Go Go.RowKit

def qStep (q : Int) (L : List Int) (i : Nat) : (List Int × Nat) ⊕ (Nat × Bool) :=
  if sg L i < 0 then .inr (i, true) else if sg L i = q then .inr (i + 1, true) else if sg L i = 10 then .inr (i, false)
  else if sg L i = 92 ∧ sg L (i + 1) < 0 then .inl ([], i + 1) else if sg L i = 92 ∧ sg L (i + 1) = 10 then .inl ([], i + 2)
  else if sg L i = 92 then .inl ([(escE L (i + 1)).1], (escE L (i + 1)).2) else .inl ([sg L i], i + 1)
theorem qStep_goes (q : Int) (L : List Int) : Goes2 L.length (qStep q L) := by
  intro i o j hi h
  unfold qStep at h
  split at h
  · cases h
  rename_i h0
  have hin := sg_ge (L := L) (i := i) (by omega)
  split at h
  · cases h
  split at h
  · cases h
  split at h
  · cases h; exact ⟨by omega, hin, by simp⟩
  split at h
  · rename_i h5
    cases h
    have := sg_ge (L := L) (i := i + 1) (by rw [show ((i + 1 : Nat) : Int) = (i : Int) + 1 from rfl, h5.2]; decide)
    exact ⟨by omega, by omega, by simp⟩
  split at h
  · cases h
    have := escE_le L (i + 1) hin
    exact ⟨by omega, this.2, by simp; omega⟩
  · cases h; exact ⟨by omega, hin, by simp⟩
def quoE (q : Int) (L : List Int) (i : Nat) : List Int × (Nat × Bool) := ((goAt L.length (qStep q L) i).1, ((goAt L.length (qStep q L) i).2).getD (0, false))
def quoF (q : Int) (L : List Int) (i : Nat) : Tk × Nat := (if (quoE q L i).2.2 = true then tkK 5 (runesBytes (quoE q L i).1) else tkK 6 ⟨#[]⟩, (quoE q L i).2.1)
end Go.Proofs.YtbjinibmkkmhkaaDoor

/- The reader: urls. -/
namespace Go.Proofs.YtbjinibmkkmhkaaDoor
open Go Go.RowKit

def uStep (L : List Int) (i : Nat) : (List Int × Nat) ⊕ (Nat × Bool) :=
  if sg L i < 0 ∨ sg L i = 41 then .inr (if sg L i = 41 then i + 1 else i, true)
  else if whiteF (sg L i) = true then (if sg L (wEnd L i) < 0 ∨ sg L (wEnd L i) = 41 then .inl ([], wEnd L i) else .inr (bEnd L (wEnd L i), false))
  else if (badF (sg L i) || (decide (sg L i = 92) && !escF L i)) = true then .inr (bEnd L i, false)
  else if sg L i = 92 then .inl ([(escE L (i + 1)).1], (escE L (i + 1)).2) else .inl ([sg L i], i + 1)
theorem uStep_goes (L : List Int) : Goes2 L.length (uStep L) := by
  intro i o j hi h
  unfold uStep at h
  split at h
  · cases h
  rename_i h0
  have hin := sg_ge (L := L) (i := i) (by omega)
  split at h
  · rename_i hw
    have := wEnd_le L hi
    have := wEnd_gt L hi hw
    split at h
    · cases h; exact ⟨by omega, by omega, by simp; omega⟩
    · cases h
  split at h
  · cases h
  split at h
  · cases h
    have := escE_le L (i + 1) hin
    exact ⟨by omega, this.2, by simp; omega⟩
  · cases h; exact ⟨by omega, hin, by simp⟩
def urlE (L : List Int) (i : Nat) : List Int × (Nat × Bool) := ((goAt L.length (uStep L) (wEnd L i)).1, ((goAt L.length (uStep L) (wEnd L i)).2).getD (0, false))
def urlF (L : List Int) (i : Nat) : Tk × Nat := (if (urlE L i).2.2 = true then tkK 7 (runesBytes (urlE L i).1) else tkK 8 ⟨#[]⟩, (urlE L i).2.1)
theorem urlF_le (L : List Int) {i : Nat} (h : i ≤ L.length) : i ≤ (urlF L i).2 ∧ (urlF L i).2 ≤ L.length := by
  have hw := wEnd_le L h
  obtain ⟨r, j, h1, h2, h3, h4, _⟩ := goAt_end (uStep_goes L) L.length (wEnd L i) hw.2.1 (by omega)
  have : (urlF L i).2 = r.1 := by rw [urlF, urlE, h1]; rfl
  rw [this]
  unfold uStep at h4
  split at h4
  · cases h4
    split
    · rename_i h5
      have := sg_ge (L := L) (i := j) (by omega)
      dsimp only; omega
    · dsimp only; omega
  split at h4
  · split at h4
    · cases h4
    · cases h4
      have h5 := wEnd_le L h3
      have := bEnd_le L h5.2.1
      dsimp only; omega
  split at h4
  · cases h4
    have := bEnd_le L h3
    dsimp only; omega
  split at h4 <;> cases h4
theorem quoF_le (q : Int) (hq : q ≠ -1) (L : List Int) {i : Nat} (h : i ≤ L.length) : i ≤ (quoF q L i).2 ∧ (quoF q L i).2 ≤ L.length := by
  obtain ⟨r, j, h1, h2, h3, h4, _⟩ := goAt_end (qStep_goes q L) L.length i h (by omega)
  have : (quoF q L i).2 = r.1 := by rw [quoF, quoE, h1]; rfl
  rw [this]
  unfold qStep at h4
  split at h4
  · cases h4; exact ⟨h2, h3⟩
  rename_i h0
  have hin := sg_ge (L := L) (i := j) (by omega)
  split at h4
  · cases h4; dsimp only; omega
  split at h4
  · cases h4; exact ⟨h2, h3⟩
  split at h4
  · cases h4
  split at h4
  · cases h4
  split at h4 <;> cases h4
end Go.Proofs.YtbjinibmkkmhkaaDoor

/- The reader: words. -/
namespace Go.Proofs.YtbjinibmkkmhkaaDoor
open Go Go.RowKit

def urlS : ByteArray := ⟨#[117, 114, 108]⟩
def idtF (L : List Int) (i : Nat) : Tk × Nat :=
  if sg L (nameEnd L i) = 40 then
    (if lowS (runesBytes (nameAt L i)) = urlS then
      (if sg L (wEnd L (nameEnd L i + 1)) = 34 ∨ sg L (wEnd L (nameEnd L i + 1)) = 39 then (tkK 2 (runesBytes (nameAt L i)), nameEnd L i + 1 + (wEnd L (nameEnd L i + 1) - (nameEnd L i + 1) - 1))
        else urlF L (nameEnd L i + 1))
      else (tkK 2 (runesBytes (nameAt L i)), nameEnd L i + 1))
  else (tkK 1 (runesBytes (nameAt L i)), nameEnd L i)
end Go.Proofs.YtbjinibmkkmhkaaDoor

/- The reader: one token. -/
namespace Go.Proofs.YtbjinibmkkmhkaaDoor
open Go Go.RowKit

def plainL : List Int := [40, 91, 123, 41, 93, 125, 44, 58, 59]
def kindsL : List Int := [19, 19, 19, 20, 20, 20, 18, 16, 17]
def plI (r : Int) : Nat := plainL.findIdx (fun x => decide (x = r))
def iD64 (n : Int) : D := .val (.int .i64 n)
def hashB (L : List Int) (i : Nat) : Bool := decide (sg L i = 35) && (nameF (sg L (i + 1)) || escF L (i + 1))
def numB (L : List Int) (i : Nat) : Bool := (decide (sg L i = 43) || decide (sg L i = 45) || decide (sg L i = 46) || digF (sg L i)) && numsF L i
def cdcB (L : List Int) (i : Nat) : Bool := decide (sg L i = 45) && decide (sg L (i + 1) = 45) && decide (sg L (i + 2) = 62)
def cdoB (L : List Int) (i : Nat) : Bool := decide (sg L i = 60) && decide (sg L (i + 1) = 33) && decide (sg L (i + 2) = 45) && decide (sg L (i + 3) = 45)
def atB (L : List Int) (i : Nat) : Bool := decide (sg L i = 64) && namesF L (i + 1)
def tokF (L : List Int) (i : Nat) : Tk × Nat :=
  if plI (sg L i) < 9 then (tkK (kindsL.getD (plI (sg L i)) 0) (if plI (sg L i) < 6 then runesBytes [sg L i] else ⟨#[]⟩), i + 1)
  else if whiteF (sg L i) = true then (tkK 13 ⟨#[]⟩, wEnd L i)
  else if sg L i = 34 ∨ sg L i = 39 then quoF (sg L i) L (i + 1)
  else if hashB L i = true then (⟨4, runesBytes (nameAt L (i + 1)), 0, false, false, namesF L (i + 1)⟩, nameEnd L (i + 1))
  else if numB L i = true then numF L i
  else if cdcB L i = true then (tkK 15 ⟨#[]⟩, i + 3)
  else if cdoB L i = true then (tkK 14 ⟨#[]⟩, i + 4)
  else if atB L i = true then (tkK 3 (runesBytes (nameAt L (i + 1))), nameEnd L (i + 1))
  else if namesF L i = true then idtF L i
  else (tkK 9 (runesBytes [sg L i]), i + 1)
end Go.Proofs.YtbjinibmkkmhkaaDoor

/- The reader: all tokens. -/
namespace Go.Proofs.YtbjinibmkkmhkaaDoor
open Go Go.RowKit

theorem digEnd_gt (L : List Int) {i : Nat} (h : digF (sg L i) = true) : i < digEnd L i := by
  have hin := dig_in h
  have h1 : digStep L i = .inl ([sg L i], i + 1) := if_pos h
  have h2 : digEnd L i = digEnd L (i + 1) := by rw [digEnd, goAt_go (digStep_goes L) (by omega) h1]; rfl
  have := digEnd_le L (i := i + 1) hin
  omega
theorem nameEnd_gt (L : List Int) {i : Nat} (h : namesF L i = true) : i < nameEnd L i := by
  have key : ∃ o j, nameStep L i = .inl (o, j) := by
    unfold nameStep
    by_cases hn : nameF (sg L i) = true
    · exact ⟨_, _, if_pos hn⟩
    · rw [if_neg hn]
      have he : escF L i = true := by
        rw [nameF, Bool.or_eq_true, Bool.or_eq_true] at hn
        rw [namesF] at h
        split at h
        · rename_i h45
          exact absurd (.inr (by rw [h45]; decide)) hn
        · rw [Bool.or_eq_true] at h
          rcases h with h | h
          · exact absurd (.inl (.inl h)) hn
          · exact h
      exact ⟨_, _, if_pos he⟩
  obtain ⟨o, j, h1⟩ := key
  have hin : i < L.length := by
    unfold nameStep at h1
    split at h1
    · rename_i hd
      exact sg_in (by intro h; rw [h] at hd; cases hd)
    · split at h1
      · rename_i hd; exact esc_in hd
      · cases h1
  have hg := nameStep_goes L _ _ _ (by omega) h1
  have h2 : nameEnd L i = nameEnd L j := by rw [nameEnd, goAt_go (nameStep_goes L) (by omega) h1]; rfl
  have := nameEnd_le L (i := j) hg.2.1
  omega
theorem numF_gt (L : List Int) {i : Nat} (hi : i < L.length) (h : numsF L i = true) : i < (numF L i).2 ∧ (numF L i).2 ≤ L.length := by
  have h1 := n1_le L (i := i) (by omega)
  have h2 := digEnd_le L h1.2
  have h3 := n3_le L h2.2
  have h4 := n4_le L h3.2
  have hP : i < nP L i := by
    rw [nP, n2]
    by_cases hs : nS L i = true
    · have : n1 L i = i + 1 := if_pos hs
      omega
    · have e1 : n1 L i = i := if_neg hs
      rw [e1] at h2 h3 h4 ⊢
      have hns : ¬ (sg L i = 43 ∨ sg L i = 45) := by
        intro h; apply hs; rw [nS]; simpa using h
      rw [numsF, if_neg hns, Int.add_zero, if_neg hns, Bool.or_eq_true] at h
      rcases h with h | h
      · have := digEnd_gt L h
        omega
      · rcases Nat.lt_or_ge i (digEnd L i) with h5 | h5
        · omega
        · have e2 : digEnd L i = i := by omega
          rw [e2] at h3 h4 ⊢
          have hd : nDot L i = true := h
          have hin := nDot_in hd
          have e3 : n3 L i = digEnd L (i + 1) := if_pos hd
          have := digEnd_le L (i := i + 1) (by omega)
          omega
  have hPl : nP L i ≤ L.length := h4.2
  rw [numF]
  split
  · have := nameEnd_le L hPl
    dsimp only; omega
  · split
    · rename_i h5
      have := sg_in (L := L) (i := nP L i) (by rw [h5]; decide)
      dsimp only; omega
    · exact ⟨hP, hPl⟩
theorem idtF_gt (L : List Int) {i : Nat} (hi : i ≤ L.length) (h : namesF L i = true) : i < (idtF L i).2 ∧ (idtF L i).2 ≤ L.length := by
  have h1 := nameEnd_gt L h
  have h2 := nameEnd_le L hi
  unfold idtF
  split
  · rename_i h40
    have hin := sg_in (L := L) (i := nameEnd L i) (by rw [h40]; decide)
    split
    · split
      · have := wEnd_le L (i := nameEnd L i + 1) hin
        dsimp only; omega
      · have := urlF_le L (i := nameEnd L i + 1) hin
        omega
    · dsimp only; omega
  · dsimp only; omega
theorem sg_at {L : List Int} {i k : Nat} {c : Int} (h : decide (sg L ((i : Int) + k) = c) = true) (hc : c ≠ -1) : i + k < L.length := by
  rw [decide_eq_true_eq] at h
  exact sg_in (L := L) (i := i + k) (by rw [show ((i + k : Nat) : Int) = (i : Int) + k from rfl, h]; exact hc)
theorem tokF_gt (L : List Int) {i : Nat} (hi : i < L.length) : i < (tokF L i).2 ∧ (tokF L i).2 ≤ L.length := by
  rw [tokF]
  split
  · dsimp only; omega
  split
  · rename_i hw
    have := wEnd_gt L (by omega) hw
    have := wEnd_le L (i := i) (by omega)
    dsimp only; omega
  split
  · rename_i hq
    have := quoF_le (sg L i) (by omega) L (i := i + 1) hi
    omega
  split
  · have := nameEnd_le L (i := i + 1) hi
    dsimp only; omega
  split
  · rename_i hn
    rw [numB, Bool.and_eq_true] at hn
    exact numF_gt L hi hn.2
  split
  · rename_i hn
    rw [cdcB, Bool.and_eq_true, Bool.and_eq_true] at hn
    have := sg_at (k := 2) hn.2 (by decide)
    dsimp only; omega
  split
  · rename_i hn
    rw [cdoB, Bool.and_eq_true, Bool.and_eq_true, Bool.and_eq_true] at hn
    have := sg_at (k := 3) hn.2 (by decide)
    dsimp only; omega
  split
  · have := nameEnd_le L (i := i + 1) hi
    dsimp only; omega
  split
  · rename_i hn
    exact idtF_gt L (by omega) hn
  · dsimp only; omega
/-- Within a comment. -/
def eStep (L : List Int) (i : Nat) : (List Int × Nat) ⊕ Nat := if 0 ≤ sg L i ∧ (sg L i ≠ 42 ∨ sg L (i + 1) ≠ 47) then .inl ([], i + 1) else .inr i
theorem eStep_goes (L : List Int) : Goes2 L.length (eStep L) := by
  intro i o j hi h
  unfold eStep at h
  split at h
  · rename_i he
    cases h
    exact ⟨by omega, sg_ge he.1, by simp⟩
  · cases h
def eEnd (L : List Int) (i : Nat) : Nat := ((goAt L.length (eStep L) i).2).getD 0
theorem eEnd_le (L : List Int) {i : Nat} (h : i ≤ L.length) : i ≤ eEnd L i ∧ eEnd L i ≤ L.length := by
  obtain ⟨r, j, h1, h2, h3, h4, _⟩ := goAt_end (eStep_goes L) L.length i h (by omega)
  have : r = j := by
    unfold eStep at h4
    split at h4
    · cases h4
    · cases h4; rfl
  rw [eEnd, h1, this]
  exact ⟨h2, h3⟩
/-- From comment to comment. -/
def cStep (L : List Int) (i : Nat) : (List Int × Nat) ⊕ Nat := if sg L i = 47 ∧ sg L (i + 1) = 42 then .inl ([], min (eEnd L (i + 2) + 2) L.length) else .inr i
theorem cStep_goes (L : List Int) : Goes2 L.length (cStep L) := by
  intro i o j hi h
  unfold cStep at h
  split at h
  · rename_i hc
    cases h
    have := sg_at (L := L) (i := i) (k := 1) (c := 42) (by rw [decide_eq_true_eq]; exact hc.2) (by decide)
    have := eEnd_le L (i := i + 2) (by omega)
    exact ⟨by omega, by omega, by simp; omega⟩
  · cases h
def cEnd (L : List Int) (i : Nat) : Nat := ((goAt L.length (cStep L) i).2).getD 0
theorem cEnd_le (L : List Int) {i : Nat} (h : i ≤ L.length) : i ≤ cEnd L i ∧ cEnd L i ≤ L.length := by
  obtain ⟨r, j, h1, h2, h3, h4, _⟩ := goAt_end (cStep_goes L) L.length i h (by omega)
  have : r = j := by
    unfold cStep at h4
    split at h4
    · cases h4
    · cases h4; rfl
  rw [cEnd, h1, this]
  exact ⟨h2, h3⟩
/-- From token to token. -/
def tStep (L : List Int) (i : Nat) : (List Tk × Nat) ⊕ Unit := if sg L (cEnd L i) < 0 ∨ L.length ≤ cEnd L i then .inr () else .inl ([(tokF L (cEnd L i)).1], (tokF L (cEnd L i)).2)
theorem tStep_goes (L : List Int) : Goes2 L.length (tStep L) := by
  intro i o j hi h
  unfold tStep at h
  split at h
  · cases h
  · rename_i hc
    cases h
    have h1 := cEnd_le L hi
    have := tokF_gt L (i := cEnd L i) (by omega)
    exact ⟨by omega, this.2, by simp only [List.length_singleton]; omega⟩
def toksF (L : List Int) : List Tk := (goAt L.length (tStep L) 0).1
end Go.Proofs.YtbjinibmkkmhkaaDoor

/- The reader: all tokens, the walk. -/
namespace Go.Proofs.YtbjinibmkkmhkaaDoor
open Go Go.RowKit

end Go.Proofs.YtbjinibmkkmhkaaDoor
