/- The engine, part 1: data, how a value reads as data, abstract values and own memory. -/
import Derived.WalkKit
import Derived.WalkSpells
import Derived.WalkLawsBesides
namespace Go.Proofs.Ytajbbcnfohbieaa
open Go Go.RowKit

/-- Data without memory. -/
inductive D where
  | val (v : Value)
  | ag (fs : List D)
  | sl (k : Nat) (es : List D)

mutual
def D.width : D → Nat
  | .val _ => 1
  | .sl _ _ => 1
  | .ag fs => D.widths fs
def D.widths : List D → Nat
  | [] => 0
  | d :: ds => d.width + D.widths ds
end

def AllW (k : Nat) (es : List D) : Prop := ∀ d ∈ es, d.width = k

mutual
def DenC (w : World) (imm : Nat → Prop) : D → List Value → Prop
  | .val v, cs => cs = [v] ∧ v.oneCell' = true
  | .ag fs, cs => DenCs w imm fs cs
  | .sl k es, cs => ∃ A n c, cs = [.slice A n c] ∧ n = es.length ∧ n ≤ c ∧ c ≤ maxLen ∧ AllW k es ∧
      (0 < n → ∃ g off rows, A = some ⟨g, off, none⟩ ∧ imm g ∧ DenCs w imm es rows ∧ ∀ (j : Nat) (u : Value), rows[j]? = some u → w.cell? ⟨g, off + j, none⟩ = some u)
def DenCs (w : World) (imm : Nat → Prop) : List D → List Value → Prop
  | [], cs => cs = []
  | d :: ds, cs => ∃ c1 c2, cs = c1 ++ c2 ∧ DenC w imm d c1 ∧ DenCs w imm ds c2
end

section
variable {w w' : World} {imm imm' : Nat → Prop}
mutual
theorem DenC.mono (hi : ∀ b, imm b → imm' b) (hc : ∀ b off, imm b → w'.cell? ⟨b, off, none⟩ = w.cell? ⟨b, off, none⟩) : ∀ (d : D) (cs : List Value), DenC w imm d cs → DenC w' imm' d cs
  | .val _, _, h => h
  | .ag fs, cs, h => DenCs.mono hi hc fs cs h
  | .sl _ es, _, ⟨A, n, c, h1, h2, h3, h4, h5, h6⟩ => ⟨A, n, c, h1, h2, h3, h4, h5, fun hn => by
      obtain ⟨g, off, rows, e1, e2, e3, e4⟩ := h6 hn
      exact ⟨g, off, rows, e1, hi _ e2, DenCs.mono hi hc es rows e3, fun j u hj => (hc _ _ e2).trans (e4 j u hj)⟩⟩
theorem DenCs.mono (hi : ∀ b, imm b → imm' b) (hc : ∀ b off, imm b → w'.cell? ⟨b, off, none⟩ = w.cell? ⟨b, off, none⟩) : ∀ (ds : List D) (cs : List Value), DenCs w imm ds cs → DenCs w' imm' ds cs
  | [], _, h => h
  | d :: ds, _, ⟨c1, c2, h1, h2, h3⟩ => ⟨c1, c2, h1, DenC.mono hi hc d c1 h2, DenCs.mono hi hc ds c2 h3⟩
end
mutual
theorem DenC.len : ∀ (d : D) (cs : List Value), DenC w imm d cs → cs.length = d.width
  | .val _, _, h => by rw [h.1]; rfl
  | .ag fs, cs, h => DenCs.len fs cs h
  | .sl _ _, _, ⟨_, _, _, h1, _⟩ => by rw [h1]; rfl
theorem DenCs.len : ∀ (ds : List D) (cs : List Value), DenCs w imm ds cs → cs.length = D.widths ds
  | [], _, h => by rw [h]; rfl
  | d :: ds, _, ⟨c1, c2, h1, h2, h3⟩ => by rw [h1, List.length_append, DenC.len d c1 h2, DenCs.len ds c2 h3]; rfl
end
mutual
theorem DenC.one : ∀ (d : D) (cs : List Value), DenC w imm d cs → ∀ u ∈ cs, u.oneCell' = true
  | .val _, _, h, u, hu => by rw [h.1] at hu; simp at hu; subst hu; exact h.2
  | .ag fs, cs, h, u, hu => DenCs.one fs cs h u hu
  | .sl _ _, _, ⟨_, _, _, h1, _⟩, u, hu => by rw [h1] at hu; simp at hu; subst hu; rfl
theorem DenCs.one : ∀ (ds : List D) (cs : List Value), DenCs w imm ds cs → ∀ u ∈ cs, u.oneCell' = true
  | [], _, h, u, hu => by rw [h] at hu; cases hu
  | d :: ds, _, ⟨c1, c2, h1, h2, h3⟩, u, hu => by
    rw [h1, List.mem_append] at hu
    rcases hu with hu | hu
    · exact DenC.one d c1 h2 u hu
    · exact DenCs.one ds c2 h3 u hu
end
theorem DenCs.append {a b : List D} {x y : List Value} (h : DenCs w imm a x) (k : DenCs w imm b y) : DenCs w imm (a ++ b) (x ++ y) := by
  induction a generalizing x with
  | nil => cases h; exact k
  | cons d ds ih =>
    obtain ⟨c1, c2, rfl, h2, h3⟩ := h
    exact ⟨c1, c2 ++ y, by simp, h2, ih h3⟩
theorem DenCs.split {a b : List D} {z : List Value} (h : DenCs w imm (a ++ b) z) : ∃ x y, z = x ++ y ∧ DenCs w imm a x ∧ DenCs w imm b y := by
  induction a generalizing z with
  | nil => exact ⟨[], z, rfl, rfl, h⟩
  | cons d ds ih =>
    obtain ⟨c1, c2, rfl, h2, h3⟩ := h
    obtain ⟨x, y, rfl, h4, h5⟩ := ih h3
    exact ⟨c1 ++ x, y, by simp, ⟨c1, x, rfl, h2, h4⟩, h5⟩
theorem widths_allW {k : Nat} : ∀ {es : List D}, AllW k es → D.widths es = es.length * k
  | [], _ => by simp [D.widths]
  | d :: ds, h => by
    have h1 := h d (by simp)
    have h2 := widths_allW (es := ds) fun x hx => h x (by simp [hx])
    simp only [D.widths, h1, h2, List.length_cons, Nat.add_mul, Nat.one_mul]; omega
/-- The cells of the element at a place. -/
theorem DenCs.at_ {k i : Nat} {es : List D} {d : D} {cs : List Value} (h : DenCs w imm es cs) (hw : AllW k es) (hd : es[i]? = some d) : DenC w imm d ((cs.drop (i * k)).take k) := by
  obtain ⟨hlt, he⟩ := List.getElem?_eq_some_iff.1 hd
  have hs : es = es.take i ++ d :: es.drop (i + 1) := by rw [← he]; simp
  rw [hs] at h
  obtain ⟨x, y, rfl, h1, c1, c2, rfl, h3, h4⟩ := h.split
  have hx : x.length = i * k := by
    rw [DenCs.len _ _ h1, widths_allW (k := k) fun e he => hw e (List.mem_of_mem_take he), List.length_take, Nat.min_eq_left (by omega)]
  have hc : c1.length = k := by rw [DenC.len _ _ h3]; exact hw d (List.mem_of_getElem? hd)
  rw [List.drop_left' hx, List.take_left' hc]
  exact h3
theorem DenCs.take_ {k i : Nat} {es : List D} {cs : List Value} (h : DenCs w imm es cs) (hw : AllW k es) : DenCs w imm (es.take i) (cs.take (i * k)) := by
  rcases Nat.lt_or_ge i es.length with hlt | hge
  · have hs : es = es.take i ++ es.drop i := by simp
    rw [hs] at h
    obtain ⟨x, y, rfl, h1, h2⟩ := h.split
    have hx : x.length = i * k := by
      rw [DenCs.len _ _ h1, widths_allW (k := k) fun e he => hw e (List.mem_of_mem_take he), List.length_take, Nat.min_eq_left (by omega)]
    rw [List.take_left' hx]
    exact h1
  · have hl := DenCs.len _ _ h
    rw [widths_allW hw] at hl
    rw [List.take_of_length_le hge, List.take_of_length_le (by rw [hl]; exact Nat.mul_le_mul_right _ hge)]
    exact h
theorem DenCs.drop_ {k i : Nat} {es : List D} {cs : List Value} (h : DenCs w imm es cs) (hw : AllW k es) : DenCs w imm (es.drop i) (cs.drop (i * k)) := by
  rcases Nat.lt_or_ge i es.length with hlt | hge
  · have hs : es = es.take i ++ es.drop i := by simp
    rw [hs] at h
    obtain ⟨x, y, rfl, h1, h2⟩ := h.split
    have hx : x.length = i * k := by
      rw [DenCs.len _ _ h1, widths_allW (k := k) fun e he => hw e (List.mem_of_mem_take he), List.length_take, Nat.min_eq_left (by omega)]
    rw [List.drop_left' hx]
    exact h2
  · have hl := DenCs.len _ _ h
    rw [widths_allW hw] at hl
    rw [List.drop_of_length_le hge, List.drop_of_length_le (by rw [hl]; exact Nat.mul_le_mul_right _ hge)]
    rfl
end

/-- What is known of a value in a slot or an own cell. -/
inductive AV where
  | any
  | val (v : Value)
  | sl (k : Nat) (es : List D)
  | ptr (i off : Nat)
  | row (i ver : Nat)
  | eptr (i ver idx off : Nat)
  | dptr (l : List AV)
  | agg (l : List AV)
  | tup (l : List AV)
  | cnd (c : Bool) (x : AV)
  | cl (f : FuncId) (caps : List AV)
  | ub (p q : Bool)
  | alt (x y : AV)
  | pr (p : Value → Prop)
  | vw (i ver : Nat) (p : Nat → Option (Nat × Nat) → Nat → Value → Prop)

/-- Own memory. -/
inductive AB where
  | gone
  | box (e : TypeId) (cells : List AV)
  | row (ver : Nat) (e : TypeId) (k : Nat) (es : List D)
  | iter (s : ByteArray) (pos : Nat)
  | rowo (ver : Nat) (e : TypeId) (k : Nat) (pre : List D) (cells : List AV)

def AB.alive : AB → Bool
  | .gone => false
  | _ => true

def AB.isRow : AB → Bool
  | .row _ _ _ _ => true
  | .rowo _ _ _ _ _ => true
  | _ => false
/-- A reference to a row speaks of one version of it, and of its length then. -/
def AB.rowOk (ver : Nat) (p : Nat → Nat → Prop) : AB → Prop
  | .row ver' _ k es => ver ≤ ver' ∧ (ver' = ver → p k es.length)
  | .rowo ver' _ k pre _ => ver ≤ ver' ∧ (ver' = ver → p k (pre.length + 1))
  | _ => True

abbrev Env := Nat → Option (Nat × Nat)

def live (M : List AB) (β : Env) (b : Nat) : Prop := ∃ i ab c, M[i]? = some ab ∧ ab.alive = true ∧ β i = some (b, c)

def rowVal : Option (Nat × Nat) → Nat → Value
  | none, _ => .slice none 0 0
  | some (g, c), n => .slice (some ⟨g, 0, none⟩) n c

mutual
def AVsat (M : List AB) (β : Env) (w : World) (imm : Nat → Prop) : AV → Value → Prop
  | .any, _ => True
  | .val x, v => v = x
  | .sl k es, v => DenC w imm (.sl k es) [v]
  | .ptr i off, v => ∃ g c, β i = some (g, c) ∧ v = .pointer (some ⟨g, off, none⟩) ∧ ∃ ab, M[i]? = some ab ∧ ab.isRow = false
  | .row i ver, v => ∃ ab, M[i]? = some ab ∧ ab.rowOk ver fun _ n => v = rowVal (β i) n
  | .eptr i ver idx off, v => ∃ ab, M[i]? = some ab ∧ ab.rowOk ver fun k _ => ∃ g c, β i = some (g, c) ∧ v = .pointer (some ⟨g, idx * k + off, none⟩)
  | .dptr l, v => ∃ g off cs, v = .pointer (some ⟨g, off, none⟩) ∧ imm g ∧ AVsats M β w imm l cs ∧ ∀ (j : Nat) (u : Value), cs[j]? = some u → w.cell? ⟨g, off + j, none⟩ = some u
  | .agg l, v => ∃ cs : Array Value, v = .agg cs ∧ AVsats M β w imm l cs.toList
  | .tup l, v => ∃ cs : Array Value, v = .tuple cs ∧ AVsats M β w imm l cs.toList
  | .cnd c x, v => (c = true → AVsat M β w imm x v) ∧ (c = false → v = undef)
  | .cl f caps, v => ∃ cs : Array Value, v = .func (.func f) #[] cs ∧ AVsats M β w imm caps cs.toList
  | .ub p q, v => ∃ b, v = .bool b ∧ (b = true → p = true) ∧ (b = false → q = true)
  | .alt x y, v => AVsat M β w imm x v ∨ AVsat M β w imm y v
  | .pr p, v => p v
  | .vw i ver p, v => ∃ ab, M[i]? = some ab ∧ ab.rowOk ver fun k n => p k (β i) n v
def AVsats (M : List AB) (β : Env) (w : World) (imm : Nat → Prop) : List AV → List Value → Prop
  | [], vs => vs = []
  | a :: as, vs => ∃ v r, vs = v :: r ∧ AVsat M β w imm a v ∧ AVsats M β w imm as r
end

/-- How an entry of own memory may turn. -/
def EvE (b b' : Option (Nat × Nat)) : AB → AB → Prop
  | .gone, ab' => ab' = .gone ∧ b' = b
  | .box _ _, .gone => b' = b
  | .box e _, .box e' _ => e' = e ∧ b' = b
  | .box _ _, .row .. => False
  | .row .., .gone => True
  | .row ver _ k es, .row ver' _ k' es' => ver ≤ ver' ∧ k' = k ∧ (ver' = ver → b' = b ∧ es'.length = es.length)
  | .row .., .box .. => False
  | .iter _ _, .gone => b' = b
  | .iter s _, .iter s' _ => s' = s ∧ b' = b
  | .iter .., .box .. => False
  | .iter .., .row .. => False
  | .box .., .iter .. => False
  | .row .., .iter .. => False
  | .row ver _ k es, .rowo ver' _ k' pre _ => ver ≤ ver' ∧ k' = k ∧ (ver' = ver → b' = b ∧ pre.length + 1 = es.length)
  | .rowo .., .gone => True
  | .rowo ver _ k pre _, .rowo ver' _ k' pre' _ => ver ≤ ver' ∧ k' = k ∧ (ver' = ver → b' = b ∧ pre'.length = pre.length)
  | .rowo .., .row .. => False
  | .rowo .., .box .. => False
  | .rowo .., .iter .. => False
  | .box .., .rowo .. => False
  | .iter .., .rowo .. => False

structure Ev (M : List AB) (β : Env) (w : World) (M' : List AB) (β' : Env) (w' : World) : Prop where
  os : w'.os = w.os
  tape : w'.tape = w.tape
  output : w'.output = w.output
  size : w.heap.size ≤ w'.heap.size
  keep : ∀ b, b < w.heap.size → ¬ live M β b → w'.heap[b]? = w.heap[b]?
  new : ∀ b, live M' β' b → live M β b ∨ w.heap.size ≤ b
  ent : ∀ i ab, M[i]? = some ab → ∃ ab', M'[i]? = some ab' ∧ EvE (β i) (β' i) ab ab'

theorem EvE.refl (b : Option (Nat × Nat)) : ∀ ab, EvE b b ab ab
  | .gone => ⟨rfl, rfl⟩
  | .box _ _ => ⟨rfl, rfl⟩
  | .row _ _ _ _ => ⟨Nat.le_refl _, rfl, fun _ => ⟨rfl, rfl⟩⟩
  | .iter _ _ => ⟨rfl, rfl⟩
  | .rowo _ _ _ _ _ => ⟨Nat.le_refl _, rfl, fun _ => ⟨rfl, rfl⟩⟩
theorem EvE.trans {b b' b'' : Option (Nat × Nat)} {x y z : AB} (h : EvE b b' x y) (k : EvE b' b'' y z) : EvE b b'' x z := by
  cases x with
  | gone => obtain ⟨rfl, rfl⟩ := h; exact k
  | box e cs =>
    cases y with
    | gone => obtain ⟨rfl, rfl⟩ := k; exact h
    | box e' cs' =>
      obtain ⟨rfl, rfl⟩ := h
      cases z with
      | gone => exact k
      | box e'' cs'' => exact k
      | row _ _ _ _ => exact k.elim
      | rowo _ _ _ _ _ => exact k.elim
      | iter _ _ => exact k.elim
    | row _ _ _ _ => exact h.elim
    | rowo _ _ _ _ _ => exact h.elim
    | iter _ _ => exact h.elim
  | iter s p =>
    cases y with
    | gone => obtain ⟨rfl, rfl⟩ := k; exact h
    | iter s' p' =>
      obtain ⟨rfl, rfl⟩ := h
      cases z with
      | gone => exact k
      | iter s'' p'' => exact k
      | box _ _ => exact k.elim
      | row _ _ _ _ => exact k.elim
      | rowo _ _ _ _ _ => exact k.elim
    | box _ _ => exact h.elim
    | row _ _ _ _ => exact h.elim
    | rowo _ _ _ _ _ => exact h.elim
  | rowo ver e kk pre cells =>
    cases y with
    | gone => obtain ⟨rfl, rfl⟩ := k; trivial
    | box _ _ => exact h.elim
    | iter _ _ => exact h.elim
    | row _ _ _ _ => exact h.elim
    | rowo ver' e' k' pre' cells' =>
      cases z with
      | gone => trivial
      | box _ _ => exact k.elim
      | iter _ _ => exact k.elim
      | row _ _ _ _ => exact k.elim
      | rowo ver'' e'' k'' pre'' cells'' =>
        obtain ⟨h1, h0, h2⟩ := h
        obtain ⟨k1, k0, k2⟩ := k
        refine ⟨Nat.le_trans h1 k1, k0.trans h0, fun e => ?_⟩
        subst e
        have e2 : ver' = ver'' := Nat.le_antisymm k1 h1
        obtain ⟨a1, a2⟩ := h2 e2
        obtain ⟨b1, b2⟩ := k2 e2.symm
        exact ⟨b1.trans a1, b2.trans a2⟩
  | row ver e kk es =>
    cases y with
    | gone => obtain ⟨rfl, rfl⟩ := k; trivial
    | box _ _ => exact h.elim
    | iter _ _ => exact h.elim
    | rowo ver' e' k' pre' cells' =>
      cases z with
      | gone => trivial
      | box _ _ => exact k.elim
      | iter _ _ => exact k.elim
      | row _ _ _ _ => exact k.elim
      | rowo ver'' e'' k'' pre'' cells'' =>
        obtain ⟨h1, h0, h2⟩ := h
        obtain ⟨k1, k0, k2⟩ := k
        refine ⟨Nat.le_trans h1 k1, k0.trans h0, fun e => ?_⟩
        subst e
        have e2 : ver' = ver'' := Nat.le_antisymm k1 h1
        obtain ⟨a1, a2⟩ := h2 e2
        obtain ⟨b1, b2⟩ := k2 e2.symm
        exact ⟨b1.trans a1, by omega⟩
    | row ver' e' k' es' =>
      cases z with
      | gone => trivial
      | box _ _ => exact k.elim
      | iter _ _ => exact k.elim
      | rowo ver'' e'' k'' pre'' cells'' =>
        obtain ⟨h1, h0, h2⟩ := h
        obtain ⟨k1, k0, k2⟩ := k
        refine ⟨Nat.le_trans h1 k1, k0.trans h0, fun e => ?_⟩
        subst e
        have e2 : ver' = ver'' := Nat.le_antisymm k1 h1
        obtain ⟨a1, a2⟩ := h2 e2
        obtain ⟨b1, b2⟩ := k2 e2.symm
        exact ⟨b1.trans a1, b2.trans a2⟩
      | row ver'' e'' k'' es'' =>
        obtain ⟨h1, h0, h2⟩ := h
        obtain ⟨k1, k0, k2⟩ := k
        refine ⟨Nat.le_trans h1 k1, k0.trans h0, fun e => ?_⟩
        subst e
        have e2 : ver' = ver'' := Nat.le_antisymm k1 h1
        obtain ⟨a1, a2⟩ := h2 e2
        obtain ⟨b1, b2⟩ := k2 e2.symm
        exact ⟨b1.trans a1, b2.trans a2⟩

section
variable {M M' M'' : List AB} {β β' β'' : Env} {w w' w'' : World} {S : Nat → Prop} {B : Nat}
theorem Ev.refl (M : List AB) (β : Env) (w : World) : Ev M β w M β w := ⟨rfl, rfl, rfl, Nat.le_refl _, fun _ _ _ => rfl, fun _ h => .inl h, fun _ ab h => ⟨ab, h, EvE.refl _ _⟩⟩
theorem Ev.trans (h : Ev M β w M' β' w') (k : Ev M' β' w' M'' β'' w'') : Ev M β w M'' β'' w'' := {
  os := k.os.trans h.os
  tape := k.tape.trans h.tape
  output := k.output.trans h.output
  size := Nat.le_trans h.size k.size
  keep := fun b hb hl => by
    have hl' : ¬ live M' β' b := fun x => by
      rcases h.new b x with y | y
      · exact hl y
      · omega
    exact (k.keep b (Nat.lt_of_lt_of_le hb h.size) hl').trans (h.keep b hb hl)
  new := fun b x => by
    rcases k.new b x with y | y
    · exact h.new b y
    · exact .inr (Nat.le_trans h.size y)
  ent := fun i ab hi => by
    obtain ⟨ab', h1, h2⟩ := h.ent i ab hi
    obtain ⟨ab'', h3, h4⟩ := k.ent i ab' h1
    exact ⟨ab'', h3, h2.trans h4⟩ }

def immOf (S : Nat → Prop) (B : Nat) (M : List AB) (β : Env) (w : World) (b : Nat) : Prop := (S b ∨ B ≤ b) ∧ b < w.heap.size ∧ ¬ live M β b

theorem immOf.ev (h : Ev M β w M' β' w') {b : Nat} (hb : immOf S B M β w b) : immOf S B M' β' w' b :=
  ⟨hb.1, Nat.lt_of_lt_of_le hb.2.1 h.size, fun x => by
    rcases h.new b x with y | y
    · exact hb.2.2 y
    · have := hb.2.1; omega⟩
theorem immOf.cell (h : Ev M β w M' β' w') {b : Nat} (off : Nat) (hb : immOf S B M β w b) : w'.cell? ⟨b, off, none⟩ = w.cell? ⟨b, off, none⟩ :=
  World.cell?_of_block (w := w) (h.keep b hb.2.1 hb.2.2)

variable {imm imm' : Nat → Prop}
theorem AB.rowOk.ev {b b' : Option (Nat × Nat)} {ver : Nat} {p p' : Nat → Nat → Prop} (hp : ∀ k n, b' = b → p k n → p' k n) : ∀ {ab ab' : AB}, EvE b b' ab ab' → ab.rowOk ver p → ab'.rowOk ver p'
  | .gone, _, ⟨rfl, _⟩, _ => trivial
  | .box _ _, .gone, _, _ => trivial
  | .box _ _, .box _ _, _, _ => trivial
  | .box _ _, .row _ _ _ _, h, _ => h.elim
  | .row _ _ _ _, .gone, _, _ => trivial
  | .row _ _ _ _, .box _ _, h, _ => h.elim
  | .row _ _ _ _, .iter _ _, h, _ => h.elim
  | .box _ _, .iter _ _, h, _ => h.elim
  | .iter _ _, .gone, _, _ => trivial
  | .iter _ _, .iter _ _, _, _ => trivial
  | .iter _ _, .box _ _, h, _ => h.elim
  | .iter _ _, .row _ _ _ _, h, _ => h.elim
  | .box _ _, .rowo _ _ _ _ _, h, _ => h.elim
  | .iter _ _, .rowo _ _ _ _ _, h, _ => h.elim
  | .rowo _ _ _ _ _, .gone, _, _ => trivial
  | .rowo _ _ _ _ _, .box _ _, h, _ => h.elim
  | .rowo _ _ _ _ _, .iter _ _, h, _ => h.elim
  | .rowo _ _ _ _ _, .row _ _ _ _, h, _ => h.elim
  | .rowo v0 _ _ pre _, .rowo v1 _ _ pre' _, ⟨h1, h0, h2⟩, ⟨k1, k2⟩ => ⟨Nat.le_trans k1 h1, fun e => by
      subst e
      have e0 : v0 = v1 := Nat.le_antisymm h1 k1
      obtain ⟨a1, a2⟩ := h2 e0.symm
      rw [a2, h0]
      exact hp _ _ a1 (k2 e0)⟩
  | .row v0 _ _ es, .rowo v1 _ _ pre' _, ⟨h1, h0, h2⟩, ⟨k1, k2⟩ => ⟨Nat.le_trans k1 h1, fun e => by
      subst e
      have e0 : v0 = v1 := Nat.le_antisymm h1 k1
      obtain ⟨a1, a2⟩ := h2 e0.symm
      rw [a2, h0]
      exact hp _ _ a1 (k2 e0)⟩
  | .row v0 _ _ es, .row v1 _ _ es', ⟨h1, h0, h2⟩, ⟨k1, k2⟩ => ⟨Nat.le_trans k1 h1, fun e => by
      subst e
      have e0 : v0 = v1 := Nat.le_antisymm h1 k1
      obtain ⟨a1, a2⟩ := h2 e0.symm
      rw [a2, h0]
      exact hp _ _ a1 (k2 e0)⟩
theorem EvE.ptr {b b' : Option (Nat × Nat)} : ∀ {ab ab' : AB}, EvE b b' ab ab' → ab.isRow = false → b' = b ∧ ab'.isRow = false
  | .gone, _, ⟨rfl, h⟩, _ => ⟨h, rfl⟩
  | .box _ _, .gone, h, _ => ⟨h, rfl⟩
  | .box _ _, .box _ _, h, _ => ⟨h.2, rfl⟩
  | .box _ _, .row _ _ _ _, h, _ => h.elim
  | .row _ _ _ _, _, _, h => by cases h
  | .box _ _, .iter _ _, h, _ => h.elim
  | .iter _ _, .gone, h, _ => ⟨h, rfl⟩
  | .iter _ _, .iter _ _, h, _ => ⟨h.2, rfl⟩
  | .iter _ _, .box _ _, h, _ => h.elim
  | .iter _ _, .row _ _ _ _, h, _ => h.elim
  | .box _ _, .rowo _ _ _ _ _, h, _ => h.elim
  | .iter _ _, .rowo _ _ _ _ _, h, _ => h.elim
  | .rowo _ _ _ _ _, _, _, h => by cases h
mutual
theorem AVsat.mono (h : Ev M β w M' β' w') (hi : ∀ b, imm b → imm' b) (hc : ∀ b off, imm b → w'.cell? ⟨b, off, none⟩ = w.cell? ⟨b, off, none⟩) : ∀ (x : AV) (v : Value), AVsat M β w imm x v → AVsat M' β' w' imm' x v
  | .any, _, _ => trivial
  | .val _, _, hx => hx
  | .sl k es, v, hx => DenC.mono hi hc (.sl k es) [v] hx
  | .ptr i off, v, ⟨g, c, h1, h2, ab, h3, h4⟩ => by
    obtain ⟨ab', h5, h6⟩ := h.ent i ab h3
    obtain ⟨h7, h8⟩ := h6.ptr h4
    exact ⟨g, c, h7.trans h1, h2, ab', h5, h8⟩
  | .row i ver, v, ⟨ab, h1, h2⟩ => by
    obtain ⟨ab', h5, h6⟩ := h.ent i ab h1
    exact ⟨ab', h5, AB.rowOk.ev (fun _ n e hn => by rw [e]; exact hn) h6 h2⟩
  | .eptr i ver _ off, v, ⟨ab, h1, h2⟩ => by
    obtain ⟨ab', h5, h6⟩ := h.ent i ab h1
    exact ⟨ab', h5, AB.rowOk.ev (fun _ n e hn => by rw [e]; exact hn) h6 h2⟩
  | .dptr l, v, ⟨g, off, cs, h1, h2, h3, h4⟩ => ⟨g, off, cs, h1, hi _ h2, AVsats.mono h hi hc l cs h3, fun j u hj => (hc _ _ h2).trans (h4 j u hj)⟩
  | .agg l, v, ⟨cs, h1, h2⟩ => ⟨cs, h1, AVsats.mono h hi hc l _ h2⟩
  | .tup l, v, ⟨cs, h1, h2⟩ => ⟨cs, h1, AVsats.mono h hi hc l _ h2⟩
  | .cnd c x, v, ⟨h1, h2⟩ => ⟨fun hcc => AVsat.mono h hi hc x v (h1 hcc), h2⟩
  | .cl f caps, v, ⟨cs, h1, h2⟩ => ⟨cs, h1, AVsats.mono h hi hc caps _ h2⟩
  | .ub _ _, _, hx => hx
  | .pr _, _, hx => hx
  | .vw i ver p, v, ⟨ab, h1, h2⟩ => by
    obtain ⟨ab', h5, h6⟩ := h.ent i ab h1
    exact ⟨ab', h5, AB.rowOk.ev (fun _ n e hn => by rw [e]; exact hn) h6 h2⟩
  | .alt x y, v, hx => hx.elim (fun k => .inl (AVsat.mono h hi hc x v k)) (fun k => .inr (AVsat.mono h hi hc y v k))
theorem AVsats.mono (h : Ev M β w M' β' w') (hi : ∀ b, imm b → imm' b) (hc : ∀ b off, imm b → w'.cell? ⟨b, off, none⟩ = w.cell? ⟨b, off, none⟩) : ∀ (l : List AV) (vs : List Value), AVsats M β w imm l vs → AVsats M' β' w' imm' l vs
  | [], _, hx => hx
  | a :: as, _, ⟨v, r, h1, h2, h3⟩ => ⟨v, r, h1, AVsat.mono h hi hc a v h2, AVsats.mono h hi hc as r h3⟩
end
theorem AVsat.ev (h : Ev M β w M' β' w') {x : AV} {v : Value} (hx : AVsat M β w (immOf S B M β w) x v) : AVsat M' β' w' (immOf S B M' β' w') x v :=
  AVsat.mono h (fun _ => immOf.ev h) (fun _ off => immOf.cell h off) x v hx
theorem AVsats.ev (h : Ev M β w M' β' w') {l : List AV} {vs : List Value} (hx : AVsats M β w (immOf S B M β w) l vs) : AVsats M' β' w' (immOf S B M' β' w') l vs :=
  AVsats.mono h (fun _ => immOf.ev h) (fun _ off => immOf.cell h off) l vs hx
theorem AVsats.len : ∀ {l : List AV} {vs : List Value}, AVsats M β w imm l vs → vs.length = l.length
  | [], _, h => by rw [h]; rfl
  | _ :: as, _, ⟨v, r, h1, _, h3⟩ => by rw [h1, List.length_cons, AVsats.len h3]; rfl
theorem AVsats.get : ∀ {l : List AV} {vs : List Value} {i : Nat} {x : AV}, AVsats M β w imm l vs → l[i]? = some x → ∃ v, vs[i]? = some v ∧ AVsat M β w imm x v
  | [], _, _, _, _, h => by cases h
  | a :: as, _, 0, x, ⟨v, r, h1, h2, h3⟩, h => by cases h; exact ⟨v, by rw [h1]; rfl, h2⟩
  | a :: as, _, i + 1, x, ⟨v, r, h1, h2, h3⟩, h => by
    obtain ⟨u, h4, h5⟩ := AVsats.get (i := i) h3 (by simpa using h)
    exact ⟨u, by rw [h1]; simpa using h4, h5⟩
theorem AVsats.set_ : ∀ {l : List AV} {vs : List Value} {i : Nat} {x : AV} {u : Value}, AVsats M β w imm l vs → AVsat M β w imm x u → AVsats M β w imm (l.set i x) (vs.set i u)
  | [], _, _, _, _, h, _ => by rw [h]; rfl
  | a :: as, _, 0, x, u, ⟨v, r, h1, h2, h3⟩, k => by rw [h1]; exact ⟨u, r, rfl, k, h3⟩
  | a :: as, _, i + 1, x, u, ⟨v, r, h1, h2, h3⟩, k => by rw [h1]; exact ⟨v, r.set i u, rfl, h2, AVsats.set_ h3 k⟩
theorem AVsats.append : ∀ {a b : List AV} {x y : List Value}, AVsats M β w imm a x → AVsats M β w imm b y → AVsats M β w imm (a ++ b) (x ++ y)
  | [], _, _, _, h, k => by rw [h]; exact k
  | _ :: as, _, _, _, ⟨v, r, h1, h2, h3⟩, k => by rw [h1]; exact ⟨v, r ++ _, rfl, h2, AVsats.append h3 k⟩
theorem AVsats.take_ : ∀ {l : List AV} {vs : List Value} (n : Nat), AVsats M β w imm l vs → AVsats M β w imm (l.take n) (vs.take n)
  | [], _, n, h => by rw [h]; simp [AVsats]
  | _ :: _, _, 0, _ => rfl
  | _ :: as, _, n + 1, ⟨v, r, h1, h2, h3⟩ => by rw [h1]; exact ⟨v, r.take n, rfl, h2, AVsats.take_ n h3⟩
theorem AVsats.drop_ : ∀ {l : List AV} {vs : List Value} (n : Nat), AVsats M β w imm l vs → AVsats M β w imm (l.drop n) (vs.drop n)
  | [], _, n, h => by rw [h]; simp [AVsats]
  | _ :: _, _, 0, h => h
  | _ :: as, _, n + 1, ⟨v, r, h1, h2, h3⟩ => by rw [h1]; exact AVsats.drop_ n h3
end

/-- Are the cells of a datum; each of one cell. -/
def D.av1 : D → AV
  | .val v => .val v
  | .sl k es => .sl k es
  | .ag _ => .any
mutual
def D.cells : D → List AV
  | .val v => [.val v]
  | .sl k es => [.sl k es]
  | .ag fs => D.cellss fs
def D.cellss : List D → List AV
  | [] => []
  | d :: ds => d.cells ++ D.cellss ds
end
/-- A datum as a slot holds it. -/
def D.av : D → AV
  | .val v => .val v
  | .sl k es => .sl k es
  | .ag fs => .agg (D.cellss fs)
section
variable {M : List AB} {β : Env} {w : World} {imm : Nat → Prop}
mutual
theorem DenC.cells_ : ∀ (d : D) (cs : List Value), DenC w imm d cs → AVsats M β w imm d.cells cs
  | .val v, _, h => ⟨v, [], h.1, rfl, rfl⟩
  | .sl k es, cs, h => by
    obtain ⟨A, n, c, h1, h2⟩ := h
    exact ⟨.slice A n c, [], h1, ⟨A, n, c, rfl, h2⟩, rfl⟩
  | .ag fs, cs, h => DenCs.cellss_ fs cs h
theorem DenCs.cellss_ : ∀ (ds : List D) (cs : List Value), DenCs w imm ds cs → AVsats M β w imm (D.cellss ds) cs
  | [], _, h => h
  | d :: ds, _, ⟨c1, c2, h1, h2, h3⟩ => by rw [h1]; exact (DenC.cells_ d c1 h2).append (DenCs.cellss_ ds c2 h3)
end
/-- A datum whose scalars are each of one cell. -/
def D.fine : D → Prop
  | .val v => v.oneCell' = true
  | .sl _ _ => True
  | .ag fs => ∀ d ∈ fs, d.fine
mutual
theorem AVsats.denC : ∀ (d : D) (cs : List Value), d.fine → AVsats M β w imm d.cells cs → DenC w imm d cs
  | .val v, _, hf, ⟨_, _, h1, h2, h3⟩ => by cases h2; cases h3; exact ⟨h1, by simpa [D.fine] using hf⟩
  | .sl k es, _, _, ⟨u, _, h1, h2, h3⟩ => by
    cases h3
    obtain ⟨A, n, c, e, h4⟩ := h2
    exact ⟨A, n, c, by rw [h1, e], h4⟩
  | .ag fs, cs, hf, h => AVsats.denCs fs cs (by rw [D.fine] at hf; exact hf) h
theorem AVsats.denCs : ∀ (ds : List D) (cs : List Value), (∀ d ∈ ds, d.fine) → AVsats M β w imm (D.cellss ds) cs → DenCs w imm ds cs
  | [], _, _, h => h
  | d :: ds, cs, hf, h => by
    have hl := h.len
    refine ⟨cs.take d.cells.length, cs.drop d.cells.length, by simp, AVsats.denC d _ (hf d (by simp)) ?_, AVsats.denCs ds _ (fun x hx => hf x (by simp [hx])) ?_⟩
    · have := h.take_ d.cells.length
      rw [D.cellss, List.take_left] at this
      exact this
    · have := h.drop_ d.cells.length
      rw [D.cellss, List.drop_left] at this
      exact this
end
end

end Go.Proofs.Ytajbbcnfohbieaa
