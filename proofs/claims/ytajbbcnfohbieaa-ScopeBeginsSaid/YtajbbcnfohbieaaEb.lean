/- The engine, part 2: own memory, and how it may turn; the state of a body. -/
import Derived.Test.YtajbbcnfohbieaaEa
import Derived.RangeFuncOwn
namespace Go.Proofs.Ytajbbcnfohbieaa
open Go Go.RowKit

/-- None of the first cells is frozen. -/
def clear (fz : Nat × Nat) (n : Nat) : Prop := ∀ j, j < n → (decide (fz.1 ≤ j) && decide (j < fz.2)) = false
theorem clear0 (n : Nat) : clear (0, 0) n := fun j _ => by simp
/-- Rows whose number is odd may be frozen within their elements (what 'String()' leaves of a builder). -/
def sealed : Nat → Bool
  | 0 => false
  | 1 => true
  | n + 2 => sealed n
def okFz (v m : Nat) (fz : Nat × Nat) (n : Nat) : Prop := cond (sealed v) (fz.2 ≤ m) (clear fz n)
theorem okFz.of0 (v m n : Nat) : okFz v m (0, 0) n := by
  unfold okFz
  cases sealed v
  · exact clear0 n
  · exact Nat.zero_le _
theorem okFz.from_ {v m n : Nat} {fz : Nat × Nat} (h : okFz v m fz n) : ∀ j, m ≤ j → j < n → (decide (fz.1 ≤ j) && decide (j < fz.2)) = false := by
  unfold okFz at h
  cases hs : sealed v with
  | false => rw [hs] at h; exact fun j _ hj => h j hj
  | true =>
    rw [hs] at h
    have h : fz.2 ≤ m := h
    intro j hm _
    simp
    omega
theorem okFz.mono {v v' m m' n n' : Nat} {fz : Nat × Nat} (h : okFz v m fz n) (hv : sealed v' = sealed v) (hm : m ≤ m') (hn : n' = n) : okFz v' m' fz n' := by
  subst hn
  unfold okFz at h ⊢
  rw [hv]
  cases hs : sealed v with
  | false => rw [hs] at h; exact h
  | true => rw [hs] at h; exact Nat.le_trans h hm
theorem okFz.clear {v m n : Nat} {fz : Nat × Nat} (h : okFz v m fz n) (hs : sealed v = false) : clear fz n := by
  unfold okFz at h
  rw [hs] at h
  exact h
theorem clear.ok {v m n : Nat} {fz : Nat × Nat} (h : clear fz n) (hs : sealed v = false) : okFz v m fz n := by
  unfold okFz
  rw [hs]
  exact h
def rowAt (w : World) (g : Nat) (cs : Array Value) (e : TypeId) (v m : Nat) : Prop := ∃ fz, w.heap[g]? = some (.cells cs e fz) ∧ okFz v m fz cs.size
theorem rowAt.cell {w : World} {g : Nat} {cs : Array Value} {e : TypeId} {v m : Nat} (h : rowAt w g cs e v m) (j : Nat) : w.cell? ⟨g, j, none⟩ = cs[j]? := by
  obtain ⟨fz, h, _⟩ := h
  exact cell_of_row w g j cs e fz h
theorem rowAt.of0 {w : World} {g : Nat} {cs : Array Value} {e : TypeId} {v m : Nat} (h : w.heap[g]? = some (.cells cs e (0, 0))) : rowAt w g cs e v m := ⟨_, h, okFz.of0 _ _ _⟩
theorem rowAt.mono {w : World} {g : Nat} {cs : Array Value} {e : TypeId} {v v' m m' : Nat} (h : rowAt w g cs e v m) (hv : sealed v' = sealed v) (hm : m ≤ m') : rowAt w g cs e v' m' := by
  obtain ⟨fz, h1, h2⟩ := h
  exact ⟨fz, h1, h2.mono hv hm rfl⟩
theorem rowAt.ev {w w' : World} {g : Nat} {cs : Array Value} {e : TypeId} {v m : Nat} (h : rowAt w g cs e v m) (hg : w'.heap[g]? = w.heap[g]?) : rowAt w' g cs e v m := by
  obtain ⟨fz, h1, h2⟩ := h
  exact ⟨fz, hg.trans h1, h2⟩

def EntSat (M : List AB) (β : Env) (w : World) (imm : Nat → Prop) (b : Option (Nat × Nat)) : AB → Prop
  | .gone => True
  | .box e cells => ∃ g c cs, b = some (g, c) ∧ w.heap[g]? = some (.cells cs e (0, 0)) ∧ AVsats M β w imm cells cs.toList
  | .iter s pos => ∃ g c, b = some (g, c) ∧ w.heap[g]? = some (.stringIter s pos)
  | .rowo _ e k pre cells => AllW k pre ∧ cells.length = k ∧ ∃ g cap cs, b = some (g, cap) ∧ rowAt w g cs e 0 0 ∧ pre.length + 1 ≤ cap ∧ cap ≤ maxLen ∧ cs.size = cap * k ∧ ∃ c1 c2 c3, cs.toList = c1 ++ c2 ++ c3 ∧ DenCs w imm pre c1 ∧ AVsats M β w imm cells c2
  | .row v e k es => AllW k es ∧ ((b = none ∧ es = []) ∨ ∃ g cap cs, b = some (g, cap) ∧ rowAt w g cs e v (es.length * k) ∧ es.length ≤ cap ∧ cap ≤ maxLen ∧ cs.size = cap * k ∧
      DenCs w imm es (cs.toList.take (es.length * k)))

structure MemSat (S : Nat → Prop) (B : Nat) (M : List AB) (β : Env) (w : World) : Prop where
  lo : B ≤ w.heap.size
  inj : ∀ i j ab ab' g c c', M[i]? = some ab → ab.alive = true → β i = some (g, c) → M[j]? = some ab' → ab'.alive = true → β j = some (g, c') → i = j
  ent : ∀ i ab, M[i]? = some ab → EntSat M β w (immOf S B M β w) (β i) ab
  own : ∀ b, live M β b → S b ∨ B ≤ b

def setE (β : Env) (i : Nat) (x : Option (Nat × Nat)) : Env := fun j => if j = i then x else β j
@[simp] theorem setE_same (β : Env) (i : Nat) (x : Option (Nat × Nat)) : setE β i x i = x := by simp [setE]
theorem setE_ne (β : Env) {i j : Nat} (x : Option (Nat × Nat)) (h : j ≠ i) : setE β i x j = β j := by simp [setE, h]

section
variable {M M' : List AB} {β β' : Env} {w w' : World} {S : Nat → Prop} {B : Nat}

theorem heap_lt {w : World} {g : Nat} {o : Obj} (h : w.heap[g]? = some o) : g < w.heap.size := (Array.getElem?_eq_some_iff.1 h).1

theorem MemSat.block (h : MemSat S B M β w) {i : Nat} {ab : AB} {g c : Nat} (hi : M[i]? = some ab) (ha : ab.alive = true) (hb : β i = some (g, c)) : ∃ o, w.heap[g]? = some o := by
  have he := h.ent i ab hi
  cases ab with
  | gone => cases ha
  | box e cells => obtain ⟨g', c', cs, h1, h2, _⟩ := he; rw [hb] at h1; cases h1; exact ⟨_, h2⟩
  | iter s p => obtain ⟨g', c', h1, h2⟩ := he; rw [hb] at h1; cases h1; exact ⟨_, h2⟩
  | rowo v e k pre cells => obtain ⟨_, _, g', c', cs, h1, ⟨fz, h2, _⟩, _⟩ := he; rw [hb] at h1; cases h1; exact ⟨_, h2⟩
  | row v e k es =>
    rcases he.2 with ⟨h1, _⟩ | ⟨g', c', cs, h1, h2, _⟩
    · rw [hb] at h1; cases h1
    · rw [hb] at h1; cases h1; obtain ⟨fz, h2, _⟩ := h2; exact ⟨_, h2⟩
theorem MemSat.lt (h : MemSat S B M β w) {b : Nat} (hl : live M β b) : b < w.heap.size := by
  obtain ⟨i, ab, c, h1, h2, h3⟩ := hl
  obtain ⟨o, h4⟩ := h.block h1 h2 h3
  exact heap_lt h4

/-- An entry that has not turned holds on. -/
theorem EntSat.ev (hE : Ev M β w M' β' w') {b : Option (Nat × Nat)} {ab : AB} (hb : ∀ g c, b = some (g, c) → ab.alive = true → w'.heap[g]? = w.heap[g]?)
    (h : EntSat M β w (immOf S B M β w) b ab) : EntSat M' β' w' (immOf S B M' β' w') b ab := by
  cases ab with
  | gone => trivial
  | box e cells =>
    obtain ⟨g, c, cs, h1, h2, h3⟩ := h
    exact ⟨g, c, cs, h1, (hb g c h1 rfl).trans h2, h3.ev hE⟩
  | iter s p =>
    obtain ⟨g, c, h1, h2⟩ := h
    exact ⟨g, c, h1, (hb g c h1 rfl).trans h2⟩
  | rowo v e k pre cells =>
    obtain ⟨h1, h2, g, cap, cs, h3, h4, h5, h6, h7, c1, c2, c3, h8, h9, h10⟩ := h
    exact ⟨h1, h2, g, cap, cs, h3, h4.ev (hb g cap h3 rfl), h5, h6, h7, c1, c2, c3, h8, DenCs.mono (fun _ => immOf.ev hE) (fun _ off => immOf.cell hE off) _ _ h9, h10.ev hE⟩
  | row v e k es =>
    refine ⟨h.1, ?_⟩
    rcases h.2 with h0 | ⟨g, cap, cs, h1, h2, h3, h4, h5, h6⟩
    · exact .inl h0
    · exact .inr ⟨g, cap, cs, h1, h2.ev (hb g cap h1 rfl), h3, h4, h5, DenCs.mono (fun _ => immOf.ev hE) (fun _ off => immOf.cell hE off) _ _ h6⟩

theorem Ev.of_below (h : Below w.heap.size w w') : Ev M β w M β w' := {
  os := h.os
  tape := h.tape
  output := h.output
  size := h.size
  keep := fun b hb _ => h.block b hb
  new := fun _ x => .inl x
  ent := fun _ ab hi => ⟨ab, hi, EvE.refl _ _⟩ }

/-- What was there is as it was: a draw, a new block, a call that writes to nothing of ours. -/
theorem MemSat.quiet (h : MemSat S B M β w) (hb : Below w.heap.size w w') : MemSat S B M β w' :=
  ⟨Nat.le_trans h.lo hb.size, h.inj, fun i ab hi => EntSat.ev (Ev.of_below hb) (fun g c hg ha => hb.block g (h.lt ⟨i, ab, c, hi, ha, hg⟩)) (h.ent i ab hi), h.own⟩

theorem MemSat.set_ {i : Nat} {ab ab' : AB} {x : Option (Nat × Nat)} (h : MemSat S B M β w) (hi : M[i]? = some ab) (hal : ab.alive = true)
    (os : w'.os = w.os) (tape : w'.tape = w.tape) (output : w'.output = w.output) (size : w.heap.size ≤ w'.heap.size)
    (keep : ∀ b, b < w.heap.size → (∀ c, β i ≠ some (b, c)) → w'.heap[b]? = w.heap[b]?)
    (hx : ∀ g c, x = some (g, c) → (∃ c0, β i = some (g, c0)) ∨ w.heap.size ≤ g) (hE : EvE (β i) x ab ab')
    (hent : Ev M β w (M.set i ab') (setE β i x) w' → EntSat (M.set i ab') (setE β i x) w' (immOf S B (M.set i ab') (setE β i x) w') x ab') :
    Ev M β w (M.set i ab') (setE β i x) w' ∧ MemSat S B (M.set i ab') (setE β i x) w' := by
  have hlt : i < M.length := (List.getElem?_eq_some_iff.1 hi).1
  have hev : Ev M β w (M.set i ab') (setE β i x) w' := by
    refine ⟨os, tape, output, size, fun b hb hl => keep b hb fun c hc => hl ⟨i, ab, c, hi, hal, hc⟩, fun b => ?_, fun j abj hj => ?_⟩
    · rintro ⟨j, abj, c, h1, h2, h3⟩
      by_cases hji : j = i
      · subst hji
        rw [setE_same] at h3
        rcases hx b c h3 with ⟨c0, h4⟩ | h4
        · exact .inl ⟨j, ab, c0, hi, hal, h4⟩
        · exact .inr h4
      · rw [setE_ne β x hji] at h3
        rw [List.getElem?_set_ne (Ne.symm hji)] at h1
        exact .inl ⟨j, abj, c, h1, h2, h3⟩
    · by_cases hji : j = i
      · subst hji
        rw [hi] at hj; cases hj
        exact ⟨ab', by simp [hlt], by rw [setE_same]; exact hE⟩
      · exact ⟨abj, by rw [List.getElem?_set_ne (Ne.symm hji)]; exact hj, by rw [setE_ne β x hji]; exact EvE.refl _ _⟩
  refine ⟨hev, ⟨Nat.le_trans h.lo size, fun j k abj abk g c c' h1 h2 h3 k1 k2 k3 => ?_, fun j abj hj => ?_, fun b hb => (hev.new b hb).elim (h.own b) (fun hb => .inr (Nat.le_trans h.lo hb))⟩⟩
  · have old : ∀ (j : Nat) (abj : AB), j ≠ i → (M.set i ab')[j]? = some abj → M[j]? = some abj := fun j abj hji hh => by rwa [List.getElem?_set_ne (Ne.symm hji)] at hh
    have one : ∀ (j : Nat) (abj : AB) (c c' : Nat), j ≠ i → M[j]? = some abj → abj.alive = true → β j = some (g, c) → x = some (g, c') → False := by
      intro j abj c c' hji h1 h2 h3 h4
      rcases hx g c' h4 with ⟨c0, h5⟩ | h5
      · exact hji (h.inj j i abj ab g c c0 h1 h2 h3 hi hal h5)
      · have := h.lt ⟨j, abj, c, h1, h2, h3⟩; omega
    by_cases hji : j = i
    · by_cases hki : k = i
      · rw [hji, hki]
      · subst hji
        rw [setE_same] at h3
        rw [setE_ne β x hki] at k3
        exact (one k abk c' c hki (old k abk hki k1) k2 k3 h3).elim
    · by_cases hki : k = i
      · subst hki
        rw [setE_same] at k3
        rw [setE_ne β x hji] at h3
        exact (one j abj c c' hji (old j abj hji h1) h2 h3 k3).elim
      · rw [setE_ne β x hji] at h3
        rw [setE_ne β x hki] at k3
        exact h.inj j k abj abk g c c' (old j abj hji h1) h2 h3 (old k abk hki k1) k2 k3
  · by_cases hji : j = i
    · subst hji
      rw [List.getElem?_set_self hlt] at hj
      cases hj
      rw [setE_same]
      exact hent hev
    · rw [List.getElem?_set_ne (Ne.symm hji)] at hj
      rw [setE_ne β x hji]
      refine EntSat.ev hev (fun g c hg ha => keep g (h.lt ⟨j, abj, c, hj, ha, hg⟩) fun c0 hc0 => hji ?_) (h.ent j abj hj)
      exact h.inj j i abj ab g c c0 hj ha hg hi hal hc0

theorem MemSat.push {ab : AB} {x : Option (Nat × Nat)} (h : MemSat S B M β w) (hb : Below w.heap.size w w') (hx : ∀ g c, x = some (g, c) → w.heap.size ≤ g)
    (hent : Ev M β w (M ++ [ab]) (setE β M.length x) w' → EntSat (M ++ [ab]) (setE β M.length x) w' (immOf S B (M ++ [ab]) (setE β M.length x) w') x ab) :
    Ev M β w (M ++ [ab]) (setE β M.length x) w' ∧ MemSat S B (M ++ [ab]) (setE β M.length x) w' := by
  have old : ∀ (j : Nat) (abj : AB), (M ++ [ab])[j]? = some abj → (j < M.length ∧ M[j]? = some abj) ∨ (j = M.length ∧ abj = ab) := by
    intro j abj hj
    rcases Nat.lt_or_ge j M.length with hlt | hge
    · rw [List.getElem?_append_left hlt] at hj; exact .inl ⟨hlt, hj⟩
    · rw [List.getElem?_append_right hge] at hj
      have : j - M.length = 0 := by
        rcases Nat.eq_zero_or_pos (j - M.length) with h0 | h0
        · exact h0
        · rw [List.getElem?_eq_none (by simp; omega)] at hj; cases hj
      rw [this] at hj
      simp at hj
      exact .inr ⟨by omega, hj.symm⟩
  have hev : Ev M β w (M ++ [ab]) (setE β M.length x) w' := by
    refine ⟨hb.os, hb.tape, hb.output, hb.size, fun b hb' _ => hb.block b hb', fun b => ?_, fun j abj hj => ?_⟩
    · rintro ⟨j, abj, c, h1, h2, h3⟩
      rcases old j abj h1 with ⟨hlt, h4⟩ | ⟨rfl, rfl⟩
      · rw [setE_ne β x (by omega)] at h3; exact .inl ⟨j, abj, c, h4, h2, h3⟩
      · rw [setE_same] at h3; exact .inr (hx b c h3)
    · have hlt : j < M.length := (List.getElem?_eq_some_iff.1 hj).1
      exact ⟨abj, by rw [List.getElem?_append_left hlt]; exact hj, by rw [setE_ne β x (by omega)]; exact EvE.refl _ _⟩
  refine ⟨hev, ⟨Nat.le_trans h.lo hb.size, fun j k abj abk g c c' h1 h2 h3 k1 k2 k3 => ?_, fun j abj hj => ?_, fun b hb => (hev.new b hb).elim (h.own b) (fun hb => .inr (Nat.le_trans h.lo hb))⟩⟩
  · rcases old j abj h1 with ⟨hlt, h4⟩ | ⟨rfl, rfl⟩ <;> rcases old k abk k1 with ⟨hlt', h5⟩ | ⟨rfl, rfl⟩
    · rw [setE_ne β x (by omega)] at h3 k3
      exact h.inj j k abj abk g c c' h4 h2 h3 h5 k2 k3
    · rw [setE_ne β x (by omega)] at h3
      rw [setE_same] at k3
      have := h.lt ⟨j, abj, c, h4, h2, h3⟩
      have := hx g c' k3
      omega
    · rw [setE_ne β x (by omega)] at k3
      rw [setE_same] at h3
      have := h.lt ⟨k, abk, c', h5, k2, k3⟩
      have := hx g c h3
      omega
    · rfl
  · rcases old j abj hj with ⟨hlt, h4⟩ | ⟨rfl, rfl⟩
    · rw [setE_ne β x (by omega)]
      exact EntSat.ev hev (fun g c hg ha => hb.block g (h.lt ⟨j, abj, c, h4, ha, hg⟩)) (h.ent j abj h4)
    · rw [setE_same]
      exact hent hev

/-- An own entry is let go: what it was is from now on as any other memory. -/
theorem MemSat.let_go {i : Nat} {ab : AB} (h : MemSat S B M β w) (hi : M[i]? = some ab) (hal : ab.alive = true) : Ev M β w (M.set i .gone) β w ∧ MemSat S B (M.set i .gone) β w := by
  have hs : setE β i (β i) = β := by funext j; by_cases hj : j = i <;> simp [setE, hj]
  have := h.set_ (w' := w) (ab' := .gone) (x := β i) hi hal rfl rfl rfl (Nat.le_refl _) (fun _ _ _ => rfl) (fun g c hc => .inl ⟨c, hc⟩)
    (by cases ab with
      | gone => cases hal
      | box e cells => exact rfl
      | iter s p => exact rfl
      | rowo v e k pre cells => trivial
      | row v e k es => trivial) (fun _ => trivial)
  rwa [hs] at this
end

/-- The last word on a slot. -/
def look : List (Nat × AV) → Nat → AV
  | [], _ => .any
  | (d, x) :: r, n => bif Nat.beq d n then x else look r n

/-- What is known in the midst of a body: own memory, and the slots. -/
structure AS where
  M : List AB
  F : List (Nat × AV)

/-- What a body hangs on: its program, the number of its slots, what it may read, the world and the own memory that it began with. -/
structure Cx where
  P : Program
  N : Nat
  S : Nat → Prop
  w0 : World
  M0 : List AB
  β0 : Env
  L : Option Nat

/-- The marks that ranges over functions have left: each is a shut block of our own. -/
def DefOk (B : Nat) : List Deferred → World → Prop
  | [], _ => True
  | d :: ds, w => (∃ D, d = { target := .collected D, args := #[] } ∧ B ≤ D ∧ w.heap[D]? = some (.deferred (some [])) ∧ ∀ d' ∈ ds, d' ≠ d) ∧ DefOk B ds w

section
variable {M M' : List AB} {β β' : Env} {w w' : World} {S : Nat → Prop} {B : Nat}
theorem MemSat.dead (h : MemSat S B M β w) {D : Nat} {o : Option (List Deferred)} (hD : w.heap[D]? = some (.deferred o)) : ¬ live M β D := by
  rintro ⟨i, ab, c, hi, ha, hb⟩
  have he := h.ent i ab hi
  cases ab with
  | gone => cases ha
  | box e cells => obtain ⟨g', c', cs, h1, h2, _⟩ := he; rw [hb] at h1; cases h1; rw [hD] at h2; cases h2
  | iter s p => obtain ⟨g', c', h1, h2⟩ := he; rw [hb] at h1; cases h1; rw [hD] at h2; cases h2
  | rowo v e k pre cells => obtain ⟨_, _, g', c', cs, h1, ⟨fz, h2, _⟩, _⟩ := he; rw [hb] at h1; cases h1; rw [hD] at h2; cases h2
  | row v e k es =>
    rcases he.2 with ⟨h1, _⟩ | ⟨g', c', cs, h1, ⟨fz, h2, _⟩, _⟩
    · rw [hb] at h1; cases h1
    · rw [hb] at h1; cases h1; rw [hD] at h2; cases h2
theorem DefOk.ev {B' : Nat} (hm : MemSat S B M β w) (hE : Ev M β w M' β' w') : ∀ {ds : List Deferred}, DefOk B' ds w → DefOk B' ds w'
  | [], _ => trivial
  | _ :: _, ⟨⟨D, h1, h2, h3, h4⟩, h5⟩ => ⟨⟨D, h1, h2, (hE.keep D (heap_lt h3) (hm.dead h3)).trans h3, h4⟩, DefOk.ev hm hE h5⟩
end

/-- Cells that were known are as they were. -/
def CellsOn (w w' : World) : Prop := ∀ b off u, w.cell? ⟨b, off, none⟩ = some u → w'.cell? ⟨b, off, none⟩ = some u
section
variable {w w' : World} {imm imm' : Nat → Prop}
mutual
theorem DenC.on (hi : ∀ b, imm b → imm' b) (hc : CellsOn w w') : ∀ (d : D) (cs : List Value), DenC w imm d cs → DenC w' imm' d cs
  | .val _, _, h => h
  | .ag fs, cs, h => DenCs.on hi hc fs cs h
  | .sl _ es, _, ⟨A, n, c, h1, h2, h3, h4, h5, h6⟩ => ⟨A, n, c, h1, h2, h3, h4, h5, fun hn => by
      obtain ⟨g, off, rows, e1, e2, e3, e4⟩ := h6 hn
      exact ⟨g, off, rows, e1, hi _ e2, DenCs.on hi hc es rows e3, fun j u hj => hc _ _ _ (e4 j u hj)⟩⟩
theorem DenCs.on (hi : ∀ b, imm b → imm' b) (hc : CellsOn w w') : ∀ (ds : List D) (cs : List Value), DenCs w imm ds cs → DenCs w' imm' ds cs
  | [], _, h => h
  | d :: ds, _, ⟨c1, c2, h1, h2, h3⟩ => ⟨c1, c2, h1, DenC.on hi hc d c1 h2, DenCs.on hi hc ds c2 h3⟩
end
variable {M : List AB} {β : Env}
mutual
theorem AVsat.on (hi : ∀ b, imm b → imm' b) (hc : CellsOn w w') : ∀ (x : AV) (v : Value), AVsat M β w imm x v → AVsat M β w' imm' x v
  | .any, _, _ => trivial
  | .val _, _, hx => hx
  | .sl k es, v, hx => DenC.on hi hc (.sl k es) [v] hx
  | .ptr _ _, _, hx => hx
  | .row _ _, _, hx => hx
  | .eptr _ _ _ _, _, hx => hx
  | .dptr l, v, ⟨g, off, cs, h1, h2, h3, h4⟩ => ⟨g, off, cs, h1, hi _ h2, AVsats.on hi hc l cs h3, fun j u hj => hc _ _ _ (h4 j u hj)⟩
  | .agg l, v, ⟨cs, h1, h2⟩ => ⟨cs, h1, AVsats.on hi hc l _ h2⟩
  | .tup l, v, ⟨cs, h1, h2⟩ => ⟨cs, h1, AVsats.on hi hc l _ h2⟩
  | .cnd c x, v, ⟨h1, h2⟩ => ⟨fun hcc => AVsat.on hi hc x v (h1 hcc), h2⟩
  | .cl f caps, v, ⟨cs, h1, h2⟩ => ⟨cs, h1, AVsats.on hi hc caps _ h2⟩
  | .ub _ _, _, hx => hx
  | .pr _, _, hx => hx
  | .vw _ _ _, _, hx => hx
  | .alt x y, v, hx => hx.elim (fun k => .inl (AVsat.on hi hc x v k)) (fun k => .inr (AVsat.on hi hc y v k))
theorem AVsats.on (hi : ∀ b, imm b → imm' b) (hc : CellsOn w w') : ∀ (l : List AV) (vs : List Value), AVsats M β w imm l vs → AVsats M β w' imm' l vs
  | [], _, hx => hx
  | a :: as, _, ⟨v, r, h1, h2, h3⟩ => ⟨v, r, h1, AVsat.on hi hc a v h2, AVsats.on hi hc as r h3⟩
end
end
def AB.isIter : AB → Bool
  | .iter _ _ => true
  | _ => false
/-- Blocks that hold no cells, from B on, may have turned; no string's iterator where own memory holds one. -/
structure Turned (M : List AB) (B : Nat) (w w' : World) : Prop where
  os : w'.os = w.os
  tape : w'.tape = w.tape
  output : w'.output = w.output
  size : w.heap.size ≤ w'.heap.size
  block : ∀ b, b < w.heap.size → w'.heap[b]? = w.heap[b]? ∨ (B ≤ b ∧ ∃ o : Obj, w.heap[b]? = some o ∧ o.isCells = false ∧ ((∀ s p, o ≠ .stringIter s p) ∨ ∀ ab ∈ M, ab.isIter = false))
section
variable {M : List AB} {β : Env} {w w' : World} {S : Nat → Prop} {B B' : Nat}
theorem Turned.cells (h : Turned M B w w') : CellsOn w w' := by
  intro b off u hu
  have hlt : b < w.heap.size := by
    rcases Nat.lt_or_ge b w.heap.size with h | h
    · exact h
    · unfold World.cell? at hu
      rw [Array.getElem?_eq_none h] at hu
      cases hu
  rcases h.block b hlt with h1 | ⟨_, o, h1, h2, _⟩
  · exact (World.cell?_of_block (a := ⟨b, off, none⟩) h1).trans hu
  · unfold World.cell? at hu
    rw [h1] at hu
    cases o <;> first | (cases h2; done) | (cases hu; done)
theorem Turned.imm (h : Turned M B w w') {b : Nat} (hb : immOf S B' M β w b) : immOf S B' M β w' b := ⟨hb.1, Nat.lt_of_lt_of_le hb.2.1 h.size, hb.2.2⟩
theorem Turned.live (h : Turned M B w w') (hm : MemSat S B' M β w) {b : Nat} (hl : live M β b) : w'.heap[b]? = w.heap[b]? := by
  rcases h.block b (hm.lt hl) with h1 | ⟨_, o, h1, h2, h3⟩
  · exact h1
  · exfalso
    obtain ⟨i, ab, c, hi, ha, hb⟩ := hl
    have he := hm.ent i ab hi
    cases ab with
    | gone => cases ha
    | box e cells => obtain ⟨g', c', cs, k1, k2, _⟩ := he; rw [hb] at k1; cases k1; rw [h1] at k2; cases k2; cases h2
    | iter s p =>
      obtain ⟨g', c', k1, k2⟩ := he; rw [hb] at k1; cases k1; rw [h1] at k2; cases k2
      rcases h3 with h3 | h3
      · exact h3 _ _ rfl
      · have := h3 _ (List.mem_of_getElem? hi)
        cases this
    | rowo v e k pre cells => obtain ⟨_, _, g', c', cs, k1, ⟨fz, k2, _⟩, _⟩ := he; rw [hb] at k1; cases k1; rw [h1] at k2; cases k2; cases h2
    | row v e k es =>
      rcases he.2 with ⟨k1, _⟩ | ⟨g', c', cs, k1, ⟨fz, k2, _⟩, _⟩
      · rw [hb] at k1; cases k1
      · rw [hb] at k1; cases k1; rw [h1] at k2; cases k2; cases h2
theorem EntSat.on {imm imm' : Nat → Prop} (hi : ∀ b, imm b → imm' b) (hc : CellsOn w w') {b : Option (Nat × Nat)} {ab : AB} (hb : ∀ g c, b = some (g, c) → ab.alive = true → w'.heap[g]? = w.heap[g]?) (h : EntSat M β w imm b ab) : EntSat M β w' imm' b ab := by
  cases ab with
  | gone => trivial
  | box e cells =>
    obtain ⟨g, c, cs, h1, h2, h3⟩ := h
    exact ⟨g, c, cs, h1, (hb g c h1 rfl).trans h2, AVsats.on hi hc _ _ h3⟩
  | iter s p =>
    obtain ⟨g, c, h1, h2⟩ := h
    exact ⟨g, c, h1, (hb g c h1 rfl).trans h2⟩
  | rowo v e k pre cells =>
    obtain ⟨h1, h2, g, cap, cs, h3, h4, h5, h6, h7, c1, c2, c3, h8, h9, h10⟩ := h
    exact ⟨h1, h2, g, cap, cs, h3, h4.ev (hb g cap h3 rfl), h5, h6, h7, c1, c2, c3, h8, DenCs.on hi hc _ _ h9, AVsats.on hi hc _ _ h10⟩
  | row v e k es =>
    refine ⟨h.1, ?_⟩
    rcases h.2 with h0 | ⟨g, cap, cs, h1, h2, h3, h4, h5, h6⟩
    · exact .inl h0
    · exact .inr ⟨g, cap, cs, h1, h2.ev (hb g cap h1 rfl), h3, h4, h5, DenCs.on hi hc _ _ h6⟩
theorem MemSat.turn (h : MemSat S B' M β w) (ht : Turned M B w w') : MemSat S B' M β w' :=
  ⟨Nat.le_trans h.lo ht.size, h.inj, fun i ab hi => EntSat.on (fun _ => ht.imm) ht.cells (fun g c hg ha => ht.live h ⟨i, ab, c, hi, ha, hg⟩) (h.ent i ab hi), h.own⟩
theorem Ev.turn {M0 : List AB} {β0 : Env} {w0 : World} (h : Ev M0 β0 w0 M β w) (ht : Turned M B w w') (hB : w0.heap.size ≤ B) : Ev M0 β0 w0 M β w' :=
  ⟨ht.os.trans h.os, ht.tape.trans h.tape, ht.output.trans h.output, Nat.le_trans h.size ht.size, fun b hb hl => by
    rcases ht.block b (Nat.lt_of_lt_of_le hb h.size) with h1 | ⟨h1, _⟩
    · exact h1.trans (h.keep b hb hl)
    · omega, h.new, h.ent⟩
end

def SatF (cx : Cx) (M : List AB) (F : Nat → AV) (a : Act) (w : World) : Prop :=
  a.tmps.size = cx.N ∧ DefOk cx.w0.heap.size a.defers w ∧ ∃ β, MemSat cx.S cx.w0.heap.size M β w ∧ Ev cx.M0 cx.β0 cx.w0 M β w ∧
    ∀ d, AVsat M β w (immOf cx.S cx.w0.heap.size M β w) (F d) (a.tmps.getD d undef)
def Sat (cx : Cx) (s : AS) (a : Act) (w : World) : Prop := SatF cx s.M (look s.F) a w

/-- What an operand holds. -/
def aval (F : Nat → AV) : Operand → AV
  | .tmp t => F t
  | .const v => .val v
  | .global g => .val (.pointer (some ⟨g, 0, none⟩))
  | .func f => .cl f []

/-- One operation, on what its operands hold. -/
def AStep (P : Program) (o : Oper) (M : List AB) (ρ : Operand → AV) (M' : List AB) (out : AV) : Prop :=
  ∀ (S : Nat → Prop) (B : Nat) (β : Env) (a : Act) (w : World), MemSat S B M β w → (∀ x ∈ o.op.operands, AVsat M β w (immOf S B M β w) (ρ x) (a.eval x)) →
    ∀ (K : Act → World → Prop) (Q : Exit → Act → World → Prop),
      (∀ v β' w', Ev M β w M' β' w' → MemSat S B M' β' w' → AVsat M' β' w' (immOf S B M' β' w') out v → K (a.put o.dst v) w') → o.wp P a w K Q

theorem aval_sat {M : List AB} {F : Nat → AV} {a : Act} {w : World} {β : Env} {imm : Nat → Prop} (h : ∀ d, AVsat M β w imm (F d) (a.tmps.getD d undef)) : ∀ x, AVsat M β w imm (aval F x) (a.eval x)
  | .tmp t => h t
  | .const _ => rfl
  | .global _ => rfl
  | .func _ => ⟨#[], rfl, rfl⟩

end Go.Proofs.Ytajbbcnfohbieaa
