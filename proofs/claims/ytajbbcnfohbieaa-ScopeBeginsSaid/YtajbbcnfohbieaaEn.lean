/- The engine, part 14: what is known, said otherwise: rows renumbered, let go, taken up out of nil. -/
import Derived.Test.YtajbbcnfohbieaaEm
namespace Go.Proofs.Ytajbbcnfohbieaa
open Go Go.RowKit

-- One thing known over M says another over M'.
mutual
def Conv (M M' : List AB) : AV → AV → Prop
  | _, .any => True
  | .agg l, .agg l' => Convs M M' l l'
  | .alt x y, .alt x' y' => (Conv M M' x x' ∧ Conv M M' y y') ∨ ((AV.alt x y).free = true ∧ Sub (.alt x y) (.alt x' y'))
  | x, y => (x.free = true ∧ Sub x y) ∨
      (∃ i off ab ab', x = .ptr i off ∧ y = .ptr i off ∧ M[i]? = some ab ∧ ab.isRow = false ∧ M'[i]? = some ab' ∧ ab'.isRow = false) ∨
      (∃ i ver ver' e k es es', x = .row i ver ∧ y = .row i ver' ∧ M[i]? = some (.row ver e k es) ∧ M'[i]? = some (.row ver' e k es') ∧ es = es') ∨
      (∃ i ver e k es es', x = .row i ver ∧ y = .sl k es' ∧ M[i]? = some (.row ver e k es) ∧ M'[i]? = some .gone ∧ es = es') ∨
      (∃ n e k, x = .val (.slice none 0 0) ∧ y = .row n 0 ∧ M'[n]? = some (.row 0 e k []) ∧ M.length ≤ n) ∨
      (∃ z i off ab ab', x = .ptr i off ∧ y = .alt z (.ptr i off) ∧ M[i]? = some ab ∧ ab.isRow = false ∧ M'[i]? = some ab' ∧ ab'.isRow = false) ∨
      (∃ i ver e k pre c c', (x = .row i ver ∨ ∃ j off, x = .eptr i ver j off) ∧ y = x ∧ M[i]? = some (.rowo ver e k pre c) ∧ M'[i]? = some (.rowo ver e k pre c'))
def Convs (M M' : List AB) : List AV → List AV → Prop
  | [], l' => l' = []
  | x :: l, l' => ∃ y r, l' = y :: r ∧ Conv M M' x y ∧ Convs M M' l r
end

def EntC (M M' : List AB) : AB → AB → Prop
  | _, .gone => True
  | .box e c, .box e' c' => e = e' ∧ Convs M M' c c'
  | .row v e k es, .row v' e' k' es' => sealed v' = sealed v ∧ e = e' ∧ k = k' ∧ es = es'
  | .iter s p, .iter s' p' => s = s' ∧ p = p'
  | .rowo v e k pre cells, .rowo v' e' k' pre' cells' => v = v' ∧ e = e' ∧ k = k' ∧ pre = pre' ∧ Convs M M' cells cells'
  | _, _ => False
def MemC (M M' : List AB) : List AB → List AB → Prop
  | [], [] => True
  | [], .row ver _ _ es :: r => ver = 0 ∧ es = [] ∧ MemC M M' [] r
  | x :: xs, y :: ys => EntC M M' x y ∧ MemC M M' xs ys
  | _, _ => False

section
variable {M M' : List AB} {β : Env} {w : World} {S : Nat → Prop} {B : Nat}
theorem MemC.old : ∀ {l l' : List AB} {i : Nat} {ab : AB}, MemC M M' l l' → l[i]? = some ab → ∃ ab', l'[i]? = some ab' ∧ EntC M M' ab ab'
  | [], _, _, _, _, h => by simp at h
  | x :: xs, y :: ys, 0, ab, h, hi => by cases hi; exact ⟨y, rfl, h.1⟩
  | x :: xs, y :: ys, i + 1, ab, h, hi => by
    obtain ⟨ab', h1, h2⟩ := MemC.old (l := xs) (l' := ys) (i := i) h.2 (by simpa using hi)
    exact ⟨ab', by simpa using h1, h2⟩
  | _ :: _, [], _, _, h, _ => h.elim
theorem MemC.new_ : ∀ {l l' : List AB} {i : Nat} {ab' : AB}, MemC M M' l l' → l.length ≤ i → l'[i]? = some ab' → ∃ e k, ab' = .row 0 e k []
  | [], [], _, _, _, _, h => by simp at h
  | [], .row ver e k es :: r, 0, ab', h, _, hi => by
    cases hi
    obtain ⟨rfl, rfl, _⟩ := h
    exact ⟨e, k, rfl⟩
  | [], .row ver e k es :: r, i + 1, ab', h, _, hi => MemC.new_ (l := []) (l' := r) (i := i) h.2.2 (Nat.zero_le _) (by simpa using hi)
  | [], .gone :: _, _, _, h, _, _ => h.elim
  | [], .box _ _ :: _, _, _, h, _, _ => h.elim
  | [], .iter _ _ :: _, _, _, h, _, _ => h.elim
  | [], .rowo _ _ _ _ _ :: _, _, _, h, _, _ => h.elim
  | x :: xs, y :: ys, 0, _, _, hl, _ => by simp at hl
  | x :: xs, y :: ys, i + 1, ab', h, hl, hi => MemC.new_ (l := xs) (l' := ys) (i := i) h.2 (by simpa using hl) (by simpa using hi)
  | _ :: _, [], _, _, h, _, _ => h.elim
theorem EntC.alive {x y : AB} (h : EntC M M' x y) (hy : y.alive = true) : x.alive = true ∧ y.isRow = x.isRow := by
  cases x <;> cases y <;> first | exact ⟨rfl, rfl⟩ | (exfalso; simp [EntC] at h; done) | (exfalso; simp [AB.alive] at hy; done)

/-- The names of the entries that are taken up out of nil stand for nothing. -/
def cutE (β : Env) (n : Nat) : Env := fun i => if i < n then β i else none

theorem conv_live (h : MemC M M' M M') {b : Nat} (hl : live M' (cutE β M.length) b) : live M β b := by
  obtain ⟨i, ab', c, h1, h2, h3⟩ := hl
  unfold cutE at h3
  split at h3
  · rename_i hlt
    have hi : M[i]? = some M[i] := List.getElem?_eq_getElem hlt
    obtain ⟨ab'', h4, h5⟩ := h.old hi
    rw [h1] at h4; cases h4
    exact ⟨i, _, c, hi, (h5.alive h2).1, h3⟩
  · cases h3
theorem conv_imm (h : MemC M M' M M') {b : Nat} (hb : immOf S B M β w b) : immOf S B M' (cutE β M.length) w b := ⟨hb.1, hb.2.1, fun hl => hb.2.2 (conv_live h hl)⟩

/-- A row that is let go reads as data. -/
theorem thaw_sl (hm : MemSat S B M β w) (h : MemC M M' M M') {i ver e k : Nat} {es : List D} (hM : M[i]? = some (.row ver e k es)) (hM' : M'[i]? = some .gone) {v : Value}
    (hv : AVsat M β w (immOf S B M β w) (.row i ver) v) : DenC w (immOf S B M' (cutE β M.length) w) (.sl k es) [v] := by
  obtain ⟨ab, h1, h2⟩ := hv
  rw [hM] at h1; cases h1
  have h3 := h2.2 rfl
  obtain ⟨hw, ⟨h4, rfl⟩ | ⟨g, cap, cs, h4, h5, h6, h7, h8, h9⟩⟩ := hm.ent i _ hM
  · rw [h4] at h3
    exact ⟨none, 0, 0, by rw [h3]; rfl, rfl, Nat.le_refl _, Nat.zero_le _, hw, fun h => absurd h (by omega)⟩
  · rw [h4] at h3
    refine ⟨some ⟨g, 0, none⟩, es.length, cap, by rw [h3]; rfl, rfl, h6, h7, hw, fun _ => ⟨g, 0, _, rfl, ?_, DenCs.mono (fun _ => conv_imm h) (fun _ _ _ => rfl) _ _ h9, fun j u hj => ?_⟩⟩
    · have hlt : i < M.length := (List.getElem?_eq_some_iff.1 hM).1
      refine ⟨hm.own g ⟨i, _, cap, hM, rfl, h4⟩, heap_lt h5.choose_spec.1, ?_⟩
      rintro ⟨j, ab', c, k1, k2, k3⟩
      unfold cutE at k3
      split at k3
      · rename_i hj
        have hjM : M[j]? = some M[j] := List.getElem?_eq_getElem hj
        obtain ⟨ab'', k4, k5⟩ := h.old hjM
        rw [k1] at k4; cases k4
        have := hm.inj j i _ _ g c cap hjM (k5.alive k2).1 k3 hM rfl h4
        subst this
        rw [hM'] at k1; cases k1; cases k2
      · cases k3
    · rw [List.getElem?_take] at hj
      split at hj
      · rw [Nat.zero_add, h5.cell]
        simpa using hj
      · cases hj
theorem Conv.sat1 (hm : MemSat S B M β w) (h : MemC M M' M M') (x y : AV) (v : Value)
    (hc : (x.free = true ∧ Sub x y) ∨
      (∃ i off ab ab', x = .ptr i off ∧ y = .ptr i off ∧ M[i]? = some ab ∧ ab.isRow = false ∧ M'[i]? = some ab' ∧ ab'.isRow = false) ∨
      (∃ i ver ver' e k es es', x = .row i ver ∧ y = .row i ver' ∧ M[i]? = some (.row ver e k es) ∧ M'[i]? = some (.row ver' e k es') ∧ es = es') ∨
      (∃ i ver e k es es', x = .row i ver ∧ y = .sl k es' ∧ M[i]? = some (.row ver e k es) ∧ M'[i]? = some .gone ∧ es = es') ∨
      (∃ n e k, x = .val (.slice none 0 0) ∧ y = .row n 0 ∧ M'[n]? = some (.row 0 e k []) ∧ M.length ≤ n) ∨
      (∃ z i off ab ab', x = .ptr i off ∧ y = .alt z (.ptr i off) ∧ M[i]? = some ab ∧ ab.isRow = false ∧ M'[i]? = some ab' ∧ ab'.isRow = false) ∨
      (∃ i ver e k pre c c', (x = .row i ver ∨ ∃ j off, x = .eptr i ver j off) ∧ y = x ∧ M[i]? = some (.rowo ver e k pre c) ∧ M'[i]? = some (.rowo ver e k pre c')))
    (hx : AVsat M β w (immOf S B M β w) x v) : AVsat M' (cutE β M.length) w (immOf S B M' (cutE β M.length) w) y v := by
  rcases hc with ⟨hf, hs⟩ | ⟨i, off, ab, ab', rfl, rfl, h1, h2, h3, h4⟩ | ⟨i, ver, ver', e, k, es, es', rfl, rfl, h1, h2, rfl⟩ | ⟨i, ver, e, k, es, es', rfl, rfl, h1, h2, rfl⟩ | ⟨n, e, k, rfl, rfl, h1, h2⟩ | ⟨z, i, off, ab, ab', rfl, rfl, h1, h2, h3, h4⟩ | ⟨i, ver, e, k, pre, c, c', hx', rfl, h1, h2⟩
  · exact hs _ _ _ _ _ (AVsat.free_ (fun _ => conv_imm h) (fun _ _ _ => rfl) _ _ hf hx)
  · obtain ⟨g, c, k1, k2, _⟩ := hx
    have hlt : i < M.length := (List.getElem?_eq_some_iff.1 h1).1
    exact ⟨g, c, by simp [cutE, hlt, k1], k2, ab', h3, h4⟩
  · have hlt : i < M.length := (List.getElem?_eq_some_iff.1 h1).1
    obtain ⟨k1, _⟩ := row_val hm h1 hx
    exact ⟨_, h2, Nat.le_refl _, fun _ => by simp [cutE, hlt, k1]⟩
  · exact thaw_sl hm h h1 h2 hx
  · have hx : v = .slice none 0 0 := hx
    exact ⟨_, h1, Nat.le_refl _, fun _ => by rw [hx]; simp [cutE, Nat.not_lt.2 h2, rowVal]⟩
  · obtain ⟨g, c, k1, k2, _⟩ := hx
    have hlt : i < M.length := (List.getElem?_eq_some_iff.1 h1).1
    exact .inr ⟨g, c, by simp [cutE, hlt, k1], k2, ab', h3, h4⟩
  · have hlt : i < M.length := (List.getElem?_eq_some_iff.1 h1).1
    rcases hx' with rfl | ⟨j, off, rfl⟩
    · obtain ⟨ab, k1, k2⟩ := hx
      rw [h1] at k1; cases k1
      exact ⟨_, h2, k2.1, fun e => by simp only [cutE, hlt, if_true]; exact k2.2 e⟩
    · obtain ⟨ab, k1, k2⟩ := hx
      rw [h1] at k1; cases k1
      exact ⟨_, h2, k2.1, fun e => by simp only [cutE, hlt, if_true]; exact k2.2 e⟩
mutual
theorem Conv.sat (hm : MemSat S B M β w) (h : MemC M M' M M') : ∀ (x y : AV) (v : Value), Conv M M' x y → AVsat M β w (immOf S B M β w) x v →
    AVsat M' (cutE β M.length) w (immOf S B M' (cutE β M.length) w) y v
  | .agg l, .agg l', v, hc, ⟨cs, h1, h2⟩ => ⟨cs, h1, Convs.sat hm h l l' _ hc h2⟩
  | .alt x y, .alt x' y', v, hc, hx => hc.elim (fun hc => hx.elim (fun h1 => .inl (Conv.sat hm h x x' v hc.1 h1)) (fun h1 => .inr (Conv.sat hm h y y' v hc.2 h1)))
      (fun hc => hc.2 _ _ _ _ _ (AVsat.free_ (fun _ => conv_imm h) (fun _ _ _ => rfl) _ _ hc.1 hx))
  | x, .any, _, _, _ => trivial
  | x, .val u, v, hc, hx => Conv.sat1 hm h x (.val u) v (by cases x <;> exact hc) hx
  | x, .sl a b, v, hc, hx => Conv.sat1 hm h x (.sl a b) v (by cases x <;> exact hc) hx
  | x, .ptr a b, v, hc, hx => Conv.sat1 hm h x (.ptr a b) v (by cases x <;> exact hc) hx
  | x, .row a b, v, hc, hx => Conv.sat1 hm h x (.row a b) v (by cases x <;> exact hc) hx
  | x, .eptr a b c d, v, hc, hx => Conv.sat1 hm h x (.eptr a b c d) v (by cases x <;> exact hc) hx
  | x, .dptr l, v, hc, hx => Conv.sat1 hm h x (.dptr l) v (by cases x <;> exact hc) hx
  | x, .tup l, v, hc, hx => Conv.sat1 hm h x (.tup l) v (by cases x <;> exact hc) hx
  | x, .cnd a b, v, hc, hx => Conv.sat1 hm h x (.cnd a b) v (by cases x <;> exact hc) hx
  | x, .cl a b, v, hc, hx => Conv.sat1 hm h x (.cl a b) v (by cases x <;> exact hc) hx
  | x, .ub a b, v, hc, hx => Conv.sat1 hm h x (.ub a b) v (by cases x <;> exact hc) hx
  | x, .pr a, v, hc, hx => Conv.sat1 hm h x (.pr a) v (by cases x <;> exact hc) hx
  | x, .vw a b c, v, hc, hx => Conv.sat1 hm h x (.vw a b c) v (by cases x <;> exact hc) hx
  | .vw a b c, .agg l, v, hc, hx => Conv.sat1 hm h (.vw a b c) (.agg l) v hc hx
  | .vw a b e, .alt c d, v, hc, hx => Conv.sat1 hm h (.vw a b e) (.alt c d) v hc hx
  | .pr a, .agg l, v, hc, hx => Conv.sat1 hm h (.pr a) (.agg l) v hc hx
  | .pr a, .alt c d, v, hc, hx => Conv.sat1 hm h (.pr a) (.alt c d) v hc hx
  | .alt a b, .agg l, v, hc, hx => Conv.sat1 hm h (.alt a b) (.agg l) v hc hx
  | .any, .alt c d, v, hc, hx => Conv.sat1 hm h (.any) (.alt c d) v hc hx
  | .val u, .alt c d, v, hc, hx => Conv.sat1 hm h (.val u) (.alt c d) v hc hx
  | .sl a b, .alt c d, v, hc, hx => Conv.sat1 hm h (.sl a b) (.alt c d) v hc hx
  | .ptr a b, .alt c d, v, hc, hx => Conv.sat1 hm h (.ptr a b) (.alt c d) v hc hx
  | .row a b, .alt c d, v, hc, hx => Conv.sat1 hm h (.row a b) (.alt c d) v hc hx
  | .eptr a b e f, .alt c d, v, hc, hx => Conv.sat1 hm h (.eptr a b e f) (.alt c d) v hc hx
  | .dptr l, .alt c d, v, hc, hx => Conv.sat1 hm h (.dptr l) (.alt c d) v hc hx
  | .agg l, .alt c d, v, hc, hx => Conv.sat1 hm h (.agg l) (.alt c d) v hc hx
  | .tup l, .alt c d, v, hc, hx => Conv.sat1 hm h (.tup l) (.alt c d) v hc hx
  | .cnd a b, .alt c d, v, hc, hx => Conv.sat1 hm h (.cnd a b) (.alt c d) v hc hx
  | .cl a b, .alt c d, v, hc, hx => Conv.sat1 hm h (.cl a b) (.alt c d) v hc hx
  | .ub a b, .alt c d, v, hc, hx => Conv.sat1 hm h (.ub a b) (.alt c d) v hc hx
  | .any, .agg l, v, hc, hx => Conv.sat1 hm h .any (.agg l) v hc hx
  | .val u, .agg l, v, hc, hx => Conv.sat1 hm h (.val u) (.agg l) v hc hx
  | .sl a b, .agg l, v, hc, hx => Conv.sat1 hm h (.sl a b) (.agg l) v hc hx
  | .ptr a b, .agg l, v, hc, hx => Conv.sat1 hm h (.ptr a b) (.agg l) v hc hx
  | .row a b, .agg l, v, hc, hx => Conv.sat1 hm h (.row a b) (.agg l) v hc hx
  | .eptr a b c d, .agg l, v, hc, hx => Conv.sat1 hm h (.eptr a b c d) (.agg l) v hc hx
  | .dptr a, .agg l, v, hc, hx => Conv.sat1 hm h (.dptr a) (.agg l) v hc hx
  | .tup a, .agg l, v, hc, hx => Conv.sat1 hm h (.tup a) (.agg l) v hc hx
  | .cnd a b, .agg l, v, hc, hx => Conv.sat1 hm h (.cnd a b) (.agg l) v hc hx
  | .cl a b, .agg l, v, hc, hx => Conv.sat1 hm h (.cl a b) (.agg l) v hc hx
  | .ub a b, .agg l, v, hc, hx => Conv.sat1 hm h (.ub a b) (.agg l) v hc hx
theorem Convs.sat (hm : MemSat S B M β w) (h : MemC M M' M M') : ∀ (l l' : List AV) (vs : List Value), Convs M M' l l' → AVsats M β w (immOf S B M β w) l vs →
    AVsats M' (cutE β M.length) w (immOf S B M' (cutE β M.length) w) l' vs
  | [], l', vs, hc, hx => by rw [hc]; exact hx
  | x :: l, l', vs, ⟨y, r, h1, h2, h3⟩, ⟨v, us, k1, k2, k3⟩ => by
    rw [h1]
    exact ⟨v, us, k1, Conv.sat hm h x y v h2 k2, Convs.sat hm h l r us h3 k3⟩
end

theorem conv_mem (hm : MemSat S B M β w) (h : MemC M M' M M') : MemSat S B M' (cutE β M.length) w := by
  refine ⟨hm.lo, fun i j ab ab' g c c' h1 h2 h3 k1 k2 k3 => ?_, fun i ab' hi => ?_, fun b hl => hm.own b (conv_live h hl)⟩
  · unfold cutE at h3 k3
    split at h3
    · split at k3
      · rename_i hi hj
        have hiM : M[i]? = some M[i] := List.getElem?_eq_getElem hi
        have hjM : M[j]? = some M[j] := List.getElem?_eq_getElem hj
        obtain ⟨x, e1, e2⟩ := h.old hiM
        obtain ⟨y, e3, e4⟩ := h.old hjM
        rw [h1] at e1; cases e1
        rw [k1] at e3; cases e3
        exact hm.inj i j _ _ g c c' hiM (e2.alive h2).1 h3 hjM (e4.alive k2).1 k3
      · cases k3
    · cases h3
  · rcases Nat.lt_or_ge i M.length with hlt | hge
    · have hiM : M[i]? = some M[i] := List.getElem?_eq_getElem hlt
      obtain ⟨x, e1, e2⟩ := h.old hiM
      rw [hi] at e1; cases e1
      have he := hm.ent i _ hiM
      have hβ : cutE β M.length i = β i := by simp [cutE, hlt]
      rw [hβ]
      generalize M[i] = ab at hiM e2 he
      cases ab' with
      | gone => trivial
      | box e' c' =>
        cases ab with
        | gone => exact e2.elim
        | row _ _ _ _ => exact e2.elim
        | iter _ _ => exact e2.elim
        | rowo _ _ _ _ _ => exact e2.elim
        | box e c =>
          obtain ⟨rfl, hc⟩ := e2
          obtain ⟨g, cc, cs, k1, k2, k3⟩ := he
          exact ⟨g, cc, cs, k1, k2, Convs.sat hm h _ _ _ hc k3⟩
      | iter s' p' =>
        cases ab with
        | gone => exact e2.elim
        | row _ _ _ _ => exact e2.elim
        | box _ _ => exact e2.elim
        | rowo _ _ _ _ _ => exact e2.elim
        | iter s p =>
          obtain ⟨rfl, rfl⟩ := e2
          exact he
      | rowo v' e' k' pre' cells' =>
        cases ab with
        | gone => exact e2.elim
        | row _ _ _ _ => exact e2.elim
        | box _ _ => exact e2.elim
        | iter _ _ => exact e2.elim
        | rowo v e k pre cells =>
          obtain ⟨rfl, rfl, rfl, rfl, hc⟩ := e2
          obtain ⟨q1, q2, g, cap, cs, q3, q4, q5, q6, q7, c1, c2, c3, q8, q9, q10⟩ := he
          have q11 := Convs.sat hm h _ _ _ hc q10
          exact ⟨q1, by have e1 := q10.len; have e2 := q11.len; omega, g, cap, cs, q3, q4, q5, q6, q7, c1, c2, c3, q8, DenCs.mono (fun _ => conv_imm h) (fun _ _ _ => rfl) _ _ q9, q11⟩
      | row ver' e' k' es' =>
        cases ab with
        | gone => exact e2.elim
        | box _ _ => exact e2.elim
        | iter _ _ => exact e2.elim
        | rowo _ _ _ _ _ => exact e2.elim
        | row ver e k es =>
          obtain ⟨hv, rfl, rfl, rfl⟩ := e2
          refine ⟨he.1, ?_⟩
          rcases he.2 with h0 | ⟨g, cap, cs, k1, k2, k3, k4, k5, k6⟩
          · exact .inl h0
          · exact .inr ⟨g, cap, cs, k1, k2.mono hv (Nat.le_refl _), k3, k4, k5, DenCs.mono (fun _ => conv_imm h) (fun _ _ _ => rfl) _ _ k6⟩
    · obtain ⟨e, k, rfl⟩ := h.new_ hge hi
      exact ⟨fun d hd => by simp at hd, .inl ⟨by simp [cutE, Nat.not_lt.2 hge], rfl⟩⟩
theorem MemC.len : ∀ {l l' : List AB}, MemC M M' l l' → l.length ≤ l'.length
  | [], _, _ => Nat.zero_le _
  | _ :: xs, _ :: ys, h => Nat.succ_le_succ (MemC.len (l := xs) (l' := ys) h.2)
  | _ :: _, [], h => h.elim
end

/-- The slots that are remembered. -/
def KeepC (M M' : List AB) (F : List (Nat × AV)) : List (Nat × AV) → Prop
  | [] => True
  | (d, x) :: r => Conv M M' (look F d) x ∧ KeepC M M' F r

def EvOK1 : AB → AB → AB → Prop
  | .row v0 _ _ _, .row v _ _ _, .row v' _ _ _ => v = v' ∨ v0 < v'
  | _, _, _ => True
def EvOK : List AB → List AB → List AB → Prop
  | [], _, _ => True
  | a :: as, b :: bs, c :: cs => EvOK1 a b c ∧ EvOK as bs cs
  | _ :: _, _, _ => False
theorem EvOK.at_ : ∀ {M0 M M' : List AB} {i : Nat} {a : AB}, EvOK M0 M M' → M0[i]? = some a → ∃ b c, M[i]? = some b ∧ M'[i]? = some c ∧ EvOK1 a b c
  | [], _, _, _, _, _, h => by simp at h
  | a :: as, b :: bs, c :: cs, 0, _, h, hi => by cases hi; exact ⟨b, c, rfl, rfl, h.1⟩
  | a :: as, b :: bs, c :: cs, i + 1, a', h, hi => by
    obtain ⟨x, y, h1, h2, h3⟩ := EvOK.at_ (M0 := as) (M := bs) (M' := cs) (i := i) h.2 (by simpa using hi)
    exact ⟨x, y, by simpa using h1, by simpa using h2, h3⟩
  | _ :: _, [], _, _, _, h, _ => h.elim
  | _ :: _, _ :: _, [], _, _, h, _ => h.elim
theorem EvE.conv {M M' : List AB} {b0 b : Option (Nat × Nat)} {a x x' : AB} (h : EvE b0 b a x) (hc : EntC M M' x x') (ho : EvOK1 a x x') : EvE b0 b a x' := by
  cases a with
  | gone =>
    obtain ⟨rfl, rfl⟩ := h
    cases x' <;> first | exact ⟨rfl, rfl⟩ | exact hc.elim
  | box e l =>
    cases x with
    | gone => cases x' <;> first | exact h | exact hc.elim
    | box e' l' =>
      cases x' with
      | gone => exact h.2
      | box e'' l'' => exact ⟨hc.1.symm.trans h.1, h.2⟩
      | row _ _ _ _ => exact hc.elim
      | iter _ _ => exact hc.elim
      | rowo _ _ _ _ _ => exact hc.elim
    | row _ _ _ _ => exact h.elim
    | iter _ _ => exact h.elim
    | rowo _ _ _ _ _ => exact h.elim
  | iter s p =>
    cases x with
    | gone => cases x' <;> first | exact h | exact hc.elim
    | iter s' p' =>
      cases x' with
      | gone => exact h.2
      | iter s'' p'' => exact ⟨hc.1.symm.trans h.1, h.2⟩
      | row _ _ _ _ => exact hc.elim
      | box _ _ => exact hc.elim
      | rowo _ _ _ _ _ => exact hc.elim
    | row _ _ _ _ => exact h.elim
    | box _ _ => exact h.elim
    | rowo _ _ _ _ _ => exact h.elim
  | rowo v e k pre cells =>
    cases x with
    | gone => cases x' <;> first | exact trivial | exact hc.elim
    | box _ _ => exact h.elim
    | iter _ _ => exact h.elim
    | row _ _ _ _ => exact h.elim
    | rowo v' e' k' pre' cells' =>
      cases x' with
      | gone => exact trivial
      | box _ _ => exact hc.elim
      | iter _ _ => exact hc.elim
      | row _ _ _ _ => exact hc.elim
      | rowo v'' e'' k'' pre'' cells'' =>
        obtain ⟨rfl, rfl, rfl, rfl, _⟩ := hc
        exact h
  | row v e k es =>
    cases x with
    | gone => cases x' <;> first | exact trivial | exact hc.elim
    | box _ _ => exact h.elim
    | iter _ _ => exact h.elim
    | rowo v' e' k' pre' cells' =>
      cases x' with
      | gone => exact trivial
      | box _ _ => exact hc.elim
      | iter _ _ => exact hc.elim
      | row _ _ _ _ => exact hc.elim
      | rowo v'' e'' k'' pre'' cells'' =>
        obtain ⟨rfl, rfl, rfl, rfl, _⟩ := hc
        exact h
    | row v' e' k' es' =>
      cases x' with
      | gone => exact trivial
      | box _ _ => exact hc.elim
      | iter _ _ => exact hc.elim
      | rowo _ _ _ _ _ => exact hc.elim
      | row v'' e'' k'' es'' =>
        obtain ⟨_, rfl, rfl, rfl⟩ := hc
        obtain ⟨h1, h2, h3⟩ := h
        rcases ho with rfl | ho
        · exact ⟨h1, h2, h3⟩
        · exact ⟨Nat.le_of_lt ho, h2, fun e => by omega⟩

/-- What is known, said otherwise. -/
theorem fits_convM {P : Program} {N : Nat} {S : Nat → Prop} {w0 : World} {M0 : List AB} {β0 : Env} {L : Option Nat} {M M' : List AB} {F F' : List (Nat × AV)} (hM : MemC M M' M M') (hF : KeepC M M' F F') (hE : EvOK M0 M M') : Fits ⟨P, N, S, w0, M0, β0, L⟩ ⟨M, F⟩ ⟨M', F'⟩ := by
  rintro a w ⟨h1, h2, β, h3, h4, h5⟩
  refine ⟨h1, h2, cutE β M.length, conv_mem h3 hM, ⟨h4.os, h4.tape, h4.output, h4.size, h4.keep, fun b hb => h4.new b (conv_live hM hb), fun i ab hi => ?_⟩, fun d => ?_⟩
  · obtain ⟨x, x', k1, k2, k3⟩ := hE.at_ hi
    obtain ⟨y, k4, k5⟩ := h4.ent i ab hi
    rw [k1] at k4; cases k4
    obtain ⟨y', k6, k7⟩ := hM.old k1
    rw [k2] at k6; cases k6
    have hlt : i < M.length := (List.getElem?_eq_some_iff.1 k1).1
    exact ⟨x', k2, by simp only [cutE, hlt, if_true]; exact k5.conv k7 k3⟩
  · have key : ∀ F' : List (Nat × AV), KeepC M M' F F' → AVsat M' (cutE β M.length) w (immOf S w0.heap.size M' (cutE β M.length) w) (look F' d) (a.tmps.getD d undef) := by
      intro F'
      induction F' with
      | nil => exact fun _ => trivial
      | cons p r ih =>
        obtain ⟨e, x⟩ := p
        rintro ⟨k1, k2⟩
        cases hb : Nat.beq e d with
        | true =>
          simp only [look, hb, cond_true]
          have := Nat.eq_of_beq_eq_true hb
          subst this
          exact Conv.sat h3 hM _ _ _ k1 (h5 e)
        | false =>
          simp only [look, hb, cond_false]
          exact ih k2
    exact key F' hF
theorem fits_conv {P : Program} {N : Nat} {S : Nat → Prop} {w0 : World} {β0 : Env} {L : Option Nat} {M M' : List AB} {F F' : List (Nat × AV)} (hM : MemC M M' M M') (hF : KeepC M M' F F') : Fits ⟨P, N, S, w0, [], β0, L⟩ ⟨M, F⟩ ⟨M', F'⟩ := fits_convM hM hF trivial

theorem Sub.agg {l l' : List AV} (h : Subs l l') : Sub (.agg l) (.agg l') := fun _ _ _ _ _ ⟨cs, h1, h2⟩ => ⟨cs, h1, h.sat h2⟩
section
variable {P : Program} {ops : Array Oper} {N : Nat} {K : AS → Prop} {o : Oper} {r : List Oper} {fo fo' : Option (List Nat)} {M M' : List AB} {F : List (Nat × AV)} {dt : Tmp} {tab : List (Nat × TE)} {out : AV}
theorem r_idx_cnd (ht : TyTab P tab) {α : Type} {f : α → D} {l : List α} {j : Nat} {want c0 : Bool} {g : Tmp} {T e : Nat} {ee : TE} {x y : Operand} {q : IntKind} {n : Int} {cs : List AV} (hg : o.guard = some (j, want)) (hj : dstOf ops j = some g) (hF : guardOf want (look F g) = some c0) (ho : o.op = .indexAddr T x y) (hT : elemOf_ tab T = some (e, ee))
    (hx : aval (fun t => strip (look F t)) x = .sl ee.size (l.map f)) (hy : aval (fun t => strip (look F t)) y = .val (.int q n)) (hcs' : c0 = true → condsOf (look F) o.op.operands.toList = true) (hdd : o.dst = some dt) (hd : dstB o.dst N = true) (hn : 0 ≤ n ∧ n.toNat < l.length)
    (hcs : nfs (f (l[n.toNat]'hn.2)).cells = some cs) (hp : popF fo 0 = some fo') (k : RunX P ops N K r fo' M ((dt, .cnd c0 (.dptr cs)) :: F)) : RunX P ops N K (o :: r) fo M F :=
  RunX.mk (fun _ k => Run.pure_ (out := .cnd c0 (.dptr cs)) hd (fun _ => StepG.cnd hg hj hF hcs' fun _ => by rw [← nfs_eq hcs]; exact astep_idx ht ho hT hx hy hn.1 (map_get hn.2)) (by rw [put_eq hdd]; exact k)) hp k
theorem map_getD {α : Type} [Inhabited α] {f : α → D} {l : List α} {n : Nat} (h : n < l.length) : (l.map f)[n]? = some (f (l.getD n default)) := by simp [h]
/-- The same, where the guard alone says that it is there. -/
theorem r_idx_cnd' (ht : TyTab P tab) {α : Type} [Inhabited α] {f : α → D} {l : List α} {j : Nat} {want c0 : Bool} {g : Tmp} {T e : Nat} {ee : TE} {x y : Operand} {q : IntKind} {n : Int} {cs : List AV} (hg : o.guard = some (j, want)) (hj : dstOf ops j = some g) (hF : guardOf want (look F g) = some c0) (ho : o.op = .indexAddr T x y) (hT : elemOf_ tab T = some (e, ee))
    (hx : aval (fun t => strip (look F t)) x = .sl ee.size (l.map f)) (hy : aval (fun t => strip (look F t)) y = .val (.int q n)) (hcs' : c0 = true → condsOf (look F) o.op.operands.toList = true) (hdd : o.dst = some dt) (hd : dstB o.dst N = true) (hn : c0 = true → 0 ≤ n ∧ n.toNat < l.length)
    (hcs : nfs (f (l.getD n.toNat default)).cells = some cs) (hp : popF fo 0 = some fo') (k : RunX P ops N K r fo' M ((dt, .cnd c0 (.dptr cs)) :: F)) : RunX P ops N K (o :: r) fo M F :=
  RunX.mk (fun _ k => Run.pure_ (out := .cnd c0 (.dptr cs)) hd (fun _ => StepG.cnd hg hj hF hcs' fun h => by rw [← nfs_eq hcs]; exact astep_idx ht ho hT hx hy (hn h).1 (map_getD (hn h).2)) (by rw [put_eq hdd]; exact k)) hp k
end
theorem Sub.altl (x y : AV) : Sub x (.alt x y) := fun _ _ _ _ _ h => .inl h
theorem Sub.ub {b p q : Bool} (hp : b = true → p = true) (hq : b = false → q = true) : Sub (.val (.bool b)) (.ub p q) := fun _ _ _ _ _ h => ⟨b, h, hp, hq⟩
/-- The ways in which one thing known says another. -/
theorem c_sub {M M' : List AB} {x y : AV} (hf : x.free = true) (h : Sub x y) (hl : isAgg1 y = false) : Conv M M' x y := by
  cases x <;> cases y <;> first | (cases hl; done) | exact Or.inl ⟨hf, h⟩ | exact Or.inr ⟨hf, h⟩ | exact trivial
theorem c_row {M M' : List AB} {i ver ver' e k : Nat} {es es' : List D} (h : M[i]? = some (.row ver e k es)) (h' : M'[i]? = some (.row ver' e k es')) (he : es = es') : Conv M M' (.row i ver) (.row i ver') :=
  Or.inr (Or.inr (Or.inl ⟨i, ver, ver', e, k, es, es', rfl, rfl, h, h', he⟩))
theorem c_thaw {M M' : List AB} {i ver e k : Nat} {es es' : List D} (h : M[i]? = some (.row ver e k es)) (h' : M'[i]? = some .gone) (he : es = es') : Conv M M' (.row i ver) (.sl k es') :=
  Or.inr (Or.inr (Or.inr (Or.inl ⟨i, ver, e, k, es, es', rfl, rfl, h, h', he⟩)))
theorem c_nil {M M' : List AB} {n e k : Nat} (h' : M'[n]? = some (.row 0 e k [])) (hn : Nat.ble M.length n = true) : Conv M M' (.val (.slice none 0 0)) (.row n 0) :=
  Or.inr (Or.inr (Or.inr (Or.inr (Or.inl ⟨n, e, k, rfl, rfl, h', Nat.le_of_ble_eq_true hn⟩))))
theorem c_ro {M M' : List AB} {i ver e k : Nat} {pre : List D} {c c' : List AV} (h : M[i]? = some (.rowo ver e k pre c)) (h' : M'[i]? = some (.rowo ver e k pre c')) : Conv M M' (.row i ver) (.row i ver) :=
  Or.inr (Or.inr (Or.inr (Or.inr (Or.inr (Or.inr ⟨i, ver, e, k, pre, c, c', .inl rfl, rfl, h, h'⟩)))))
theorem c_eo {M M' : List AB} {i ver j off e k : Nat} {pre : List D} {c c' : List AV} (h : M[i]? = some (.rowo ver e k pre c)) (h' : M'[i]? = some (.rowo ver e k pre c')) : Conv M M' (.eptr i ver j off) (.eptr i ver j off) :=
  Or.inr (Or.inr (Or.inr (Or.inr (Or.inr (Or.inr ⟨i, ver, e, k, pre, c, c', .inr ⟨j, off, rfl⟩, rfl, h, h'⟩)))))
theorem c_alt {M M' : List AB} {z : AV} {i off : Nat} {ab ab' : AB} (h : M[i]? = some ab) (hb : ab.isRow = false) (h' : M'[i]? = some ab') (hb' : ab'.isRow = false) : Conv M M' (.ptr i off) (.alt z (.ptr i off)) :=
  Or.inr (Or.inr (Or.inr (Or.inr (Or.inr (Or.inl ⟨z, i, off, ab, ab', rfl, rfl, h, hb, h', hb'⟩)))))
theorem c_ptr {M M' : List AB} {i off : Nat} {ab ab' : AB} (h : M[i]? = some ab) (hb : ab.isRow = false) (h' : M'[i]? = some ab') (hb' : ab'.isRow = false) : Conv M M' (.ptr i off) (.ptr i off) :=
  Or.inr (Or.inl ⟨i, off, ab, ab', rfl, rfl, h, hb, h', hb'⟩)

end Go.Proofs.Ytajbbcnfohbieaa
