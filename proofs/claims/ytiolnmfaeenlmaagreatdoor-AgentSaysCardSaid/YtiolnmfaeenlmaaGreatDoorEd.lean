import Derived.WalkKit
import Derived.WalkSpells
import Derived.WalkLawsBesides
import Derived.RangeFuncOwn
import Derived.Orders
import Derived.OrdersIn
/- The engine, part 1: data, how a value reads as data, abstract values and own memory. -/
namespace Go.Proofs.YtiolnmfaeenlmaaGreatDoor
theorem byE {p : Prop} (h : p := by first | exact trivial | exact ⟨by omega, by omega⟩ | omega | exact ⟨by omega, by omega, by omega, by omega⟩ | exact Nat.le_of_ble_eq_true rfl) : p := h
theorem byV {p : Prop} (h : p := by repeat' first | exact trivial | exact rfl | (rw [List.map_append]; first | done | rfl) | exact c_sub rfl (Sub.refl _) rfl | exact c_nil rfl rfl | exact c_thaw rfl rfl rfl | exact c_row rfl rfl rfl | exact c_row rfl rfl (by rw [List.map_append]; first | done | rfl) | exact c_ptr rfl rfl rfl rfl | exact Or.inl ⟨c_sub rfl (Sub.refl _) rfl, c_ptr rfl rfl rfl rfl⟩ | exact c_alt rfl rfl rfl rfl | exact c_ro rfl rfl | exact c_eo rfl rfl | exact c_sub rfl (Sub.altl _ _) rfl | exact c_sub rfl (Sub.nil _) rfl | refine ⟨_, _, rfl, ?_, ?_⟩ | apply And.intro) : p := h
theorem byC {p : Prop} (h : p := by first | exact fun _ => rfl | exact cs1 | exact cs2 | exact cs3) : p := h
theorem byO {p : Prop} (h : p := by first | exact .inl rfl | exact .inr rfl) : p := h
theorem byK {p : Prop} (h : p := by repeat' first | exact trivial | exact Sub.refl _ | exact rfl | apply And.intro) : p := h
open Go Go.RowKit

/-- Data without memory. -/
inductive D where
  | val (v : Value)
  | ag (fs : List D)
  | sl (k : Nat) (es : List D)

mutual
def D.width : D → Nat
  | .val _ => 1
  | .sl _ _ => 1
  | .ag fs => D.widths fs
def D.widths : List D → Nat
  | [] => 0
  | d :: ds => d.width + D.widths ds
end

def AllW (k : Nat) (es : List D) : Prop := ∀ d ∈ es, d.width = k

mutual
def DenC (w : World) (imm : Nat → Prop) : D → List Value → Prop
  | .val v, cs => cs = [v] ∧ v.oneCell' = true
  | .ag fs, cs => DenCs w imm fs cs
  | .sl k es, cs => ∃ A n c, cs = [.slice A n c] ∧ n = es.length ∧ n ≤ c ∧ c ≤ maxLen ∧ AllW k es ∧
      (0 < n → ∃ g off rows, A = some ⟨g, off, none⟩ ∧ imm g ∧ DenCs w imm es rows ∧ ∀ (j : Nat) (u : Value), rows[j]? = some u → w.cell? ⟨g, off + j, none⟩ = some u)
def DenCs (w : World) (imm : Nat → Prop) : List D → List Value → Prop
  | [], cs => cs = []
  | d :: ds, cs => ∃ c1 c2, cs = c1 ++ c2 ∧ DenC w imm d c1 ∧ DenCs w imm ds c2
end

section
variable {w w' : World} {imm imm' : Nat → Prop}
mutual
theorem DenC.mono (hi : ∀ b, imm b → imm' b) (hc : ∀ b off, imm b → w'.cell? ⟨b, off, none⟩ = w.cell? ⟨b, off, none⟩) : ∀ (d : D) (cs : List Value), DenC w imm d cs → DenC w' imm' d cs
  | .val _, _, h => h
  | .ag fs, cs, h => DenCs.mono hi hc fs cs h
  | .sl _ es, _, ⟨A, n, c, h1, h2, h3, h4, h5, h6⟩ => ⟨A, n, c, h1, h2, h3, h4, h5, fun hn => by
      obtain ⟨g, off, rows, e1, e2, e3, e4⟩ := h6 hn
      exact ⟨g, off, rows, e1, hi _ e2, DenCs.mono hi hc es rows e3, fun j u hj => (hc _ _ e2).trans (e4 j u hj)⟩⟩
theorem DenCs.mono (hi : ∀ b, imm b → imm' b) (hc : ∀ b off, imm b → w'.cell? ⟨b, off, none⟩ = w.cell? ⟨b, off, none⟩) : ∀ (ds : List D) (cs : List Value), DenCs w imm ds cs → DenCs w' imm' ds cs
  | [], _, h => h
  | d :: ds, _, ⟨c1, c2, h1, h2, h3⟩ => ⟨c1, c2, h1, DenC.mono hi hc d c1 h2, DenCs.mono hi hc ds c2 h3⟩
end
mutual
theorem DenC.len : ∀ (d : D) (cs : List Value), DenC w imm d cs → cs.length = d.width
  | .val _, _, h => by rw [h.1]; rfl
  | .ag fs, cs, h => DenCs.len fs cs h
  | .sl _ _, _, ⟨_, _, _, h1, _⟩ => by rw [h1]; rfl
theorem DenCs.len : ∀ (ds : List D) (cs : List Value), DenCs w imm ds cs → cs.length = D.widths ds
  | [], _, h => by rw [h]; rfl
  | d :: ds, _, ⟨c1, c2, h1, h2, h3⟩ => by rw [h1, List.length_append, DenC.len d c1 h2, DenCs.len ds c2 h3]; rfl
end
mutual
theorem DenC.one : ∀ (d : D) (cs : List Value), DenC w imm d cs → ∀ u ∈ cs, u.oneCell' = true
  | .val _, _, h, u, hu => by rw [h.1] at hu; simp at hu; subst hu; exact h.2
  | .ag fs, cs, h, u, hu => DenCs.one fs cs h u hu
  | .sl _ _, _, ⟨_, _, _, h1, _⟩, u, hu => by rw [h1] at hu; simp at hu; subst hu; rfl
theorem DenCs.one : ∀ (ds : List D) (cs : List Value), DenCs w imm ds cs → ∀ u ∈ cs, u.oneCell' = true
  | [], _, h, u, hu => by rw [h] at hu; cases hu
  | d :: ds, _, ⟨c1, c2, h1, h2, h3⟩, u, hu => by
    rw [h1, List.mem_append] at hu
    rcases hu with hu | hu
    · exact DenC.one d c1 h2 u hu
    · exact DenCs.one ds c2 h3 u hu
end
theorem DenCs.append {a b : List D} {x y : List Value} (h : DenCs w imm a x) (k : DenCs w imm b y) : DenCs w imm (a ++ b) (x ++ y) := by
  induction a generalizing x with
  | nil => cases h; exact k
  | cons d ds ih =>
    obtain ⟨c1, c2, rfl, h2, h3⟩ := h
    exact ⟨c1, c2 ++ y, by simp, h2, ih h3⟩
theorem DenCs.split {a b : List D} {z : List Value} (h : DenCs w imm (a ++ b) z) : ∃ x y, z = x ++ y ∧ DenCs w imm a x ∧ DenCs w imm b y := by
  induction a generalizing z with
  | nil => exact ⟨[], z, rfl, rfl, h⟩
  | cons d ds ih =>
    obtain ⟨c1, c2, rfl, h2, h3⟩ := h
    obtain ⟨x, y, rfl, h4, h5⟩ := ih h3
    exact ⟨c1 ++ x, y, by simp, ⟨c1, x, rfl, h2, h4⟩, h5⟩
theorem widths_allW {k : Nat} : ∀ {es : List D}, AllW k es → D.widths es = es.length * k
  | [], _ => by simp [D.widths]
  | d :: ds, h => by
    have h1 := h d (by simp)
    have h2 := widths_allW (es := ds) fun x hx => h x (by simp [hx])
    simp only [D.widths, h1, h2, List.length_cons, Nat.add_mul, Nat.one_mul]; omega
/-- The cells of the element at a place. -/
theorem DenCs.at_ {k i : Nat} {es : List D} {d : D} {cs : List Value} (h : DenCs w imm es cs) (hw : AllW k es) (hd : es[i]? = some d) : DenC w imm d ((cs.drop (i * k)).take k) := by
  obtain ⟨hlt, he⟩ := List.getElem?_eq_some_iff.1 hd
  have hs : es = es.take i ++ d :: es.drop (i + 1) := by rw [← he]; simp
  rw [hs] at h
  obtain ⟨x, y, rfl, h1, c1, c2, rfl, h3, h4⟩ := h.split
  have hx : x.length = i * k := by
    rw [DenCs.len _ _ h1, widths_allW (k := k) fun e he => hw e (List.mem_of_mem_take he), List.length_take, Nat.min_eq_left (by omega)]
  have hc : c1.length = k := by rw [DenC.len _ _ h3]; exact hw d (List.mem_of_getElem? hd)
  rw [List.drop_left' hx, List.take_left' hc]
  exact h3
theorem DenCs.take_ {k i : Nat} {es : List D} {cs : List Value} (h : DenCs w imm es cs) (hw : AllW k es) : DenCs w imm (es.take i) (cs.take (i * k)) := by
  rcases Nat.lt_or_ge i es.length with hlt | hge
  · have hs : es = es.take i ++ es.drop i := by simp
    rw [hs] at h
    obtain ⟨x, y, rfl, h1, h2⟩ := h.split
    have hx : x.length = i * k := by
      rw [DenCs.len _ _ h1, widths_allW (k := k) fun e he => hw e (List.mem_of_mem_take he), List.length_take, Nat.min_eq_left (by omega)]
    rw [List.take_left' hx]
    exact h1
  · have hl := DenCs.len _ _ h
    rw [widths_allW hw] at hl
    rw [List.take_of_length_le hge, List.take_of_length_le (by rw [hl]; exact Nat.mul_le_mul_right _ hge)]
    exact h
theorem DenCs.drop_ {k i : Nat} {es : List D} {cs : List Value} (h : DenCs w imm es cs) (hw : AllW k es) : DenCs w imm (es.drop i) (cs.drop (i * k)) := by
  rcases Nat.lt_or_ge i es.length with hlt | hge
  · have hs : es = es.take i ++ es.drop i := by simp
    rw [hs] at h
    obtain ⟨x, y, rfl, h1, h2⟩ := h.split
    have hx : x.length = i * k := by
      rw [DenCs.len _ _ h1, widths_allW (k := k) fun e he => hw e (List.mem_of_mem_take he), List.length_take, Nat.min_eq_left (by omega)]
    rw [List.drop_left' hx]
    exact h2
  · have hl := DenCs.len _ _ h
    rw [widths_allW hw] at hl
    rw [List.drop_of_length_le hge, List.drop_of_length_le (by rw [hl]; exact Nat.mul_le_mul_right _ hge)]
    rfl
end

/-- What is known of a value in a slot or an own cell. -/
inductive AV where
  | any
  | val (v : Value)
  | sl (k : Nat) (es : List D)
  | ptr (i off : Nat)
  | row (i ver : Nat)
  | eptr (i ver idx off : Nat)
  | dptr (l : List AV)
  | agg (l : List AV)
  | tup (l : List AV)
  | cnd (c : Bool) (x : AV)
  | cl (f : FuncId) (caps : List AV)
  | ub (p q : Bool)
  | alt (x y : AV)
  | pr (p : Value → Prop)
  | vw (i ver : Nat) (p : Nat → Option (Nat × Nat) → Nat → Value → Prop)

/-- Own memory. -/
inductive AB where
  | gone
  | box (e : TypeId) (cells : List AV)
  | row (ver : Nat) (e : TypeId) (k : Nat) (es : List D)
  | iter (s : ByteArray) (pos : Nat)
  | rowo (ver : Nat) (e : TypeId) (k : Nat) (pre : List D) (mo : Nat) (cells : List AV)

def AB.alive : AB → Bool
  | .gone => false
  | _ => true

def AB.isRow : AB → Bool
  | .row _ _ _ _ => true
  | .rowo _ _ _ _ _ _ => true
  | _ => false
/-- A reference to a row speaks of one version of it, and of its length then. -/
def AB.rowOk (ver : Nat) (p : Nat → Nat → Prop) : AB → Prop
  | .row ver' _ k es => ver ≤ ver' ∧ (ver' = ver → p k es.length)
  | .rowo ver' _ k pre mo _ => ver ≤ ver' ∧ (ver' = ver → p k (pre.length + mo))
  | _ => True

abbrev Env := Nat → Option (Nat × Nat)

def live (M : List AB) (β : Env) (b : Nat) : Prop := ∃ i ab c, M[i]? = some ab ∧ ab.alive = true ∧ β i = some (b, c)

def rowVal : Option (Nat × Nat) → Nat → Value
  | none, _ => .slice none 0 0
  | some (g, c), n => .slice (some ⟨g, 0, none⟩) n c

mutual
def AVsat (M : List AB) (β : Env) (w : World) (imm : Nat → Prop) : AV → Value → Prop
  | .any, _ => True
  | .val x, v => v = x
  | .sl k es, v => DenC w imm (.sl k es) [v]
  | .ptr i off, v => ∃ g c, β i = some (g, c) ∧ v = .pointer (some ⟨g, off, none⟩) ∧ ∃ ab, M[i]? = some ab ∧ ab.isRow = false
  | .row i ver, v => ∃ ab, M[i]? = some ab ∧ ab.rowOk ver fun _ n => v = rowVal (β i) n
  | .eptr i ver idx off, v => ∃ ab, M[i]? = some ab ∧ ab.rowOk ver fun k _ => ∃ g c, β i = some (g, c) ∧ v = .pointer (some ⟨g, idx * k + off, none⟩)
  | .dptr l, v => ∃ g off cs, v = .pointer (some ⟨g, off, none⟩) ∧ imm g ∧ AVsats M β w imm l cs ∧ ∀ (j : Nat) (u : Value), cs[j]? = some u → w.cell? ⟨g, off + j, none⟩ = some u
  | .agg l, v => ∃ cs : Array Value, v = .agg cs ∧ AVsats M β w imm l cs.toList
  | .tup l, v => ∃ cs : Array Value, v = .tuple cs ∧ AVsats M β w imm l cs.toList
  | .cnd c x, v => (c = true → AVsat M β w imm x v) ∧ (c = false → v = undef)
  | .cl f caps, v => ∃ cs : Array Value, v = .func (.func f) #[] cs ∧ AVsats M β w imm caps cs.toList
  | .ub p q, v => ∃ b, v = .bool b ∧ (b = true → p = true) ∧ (b = false → q = true)
  | .alt x y, v => AVsat M β w imm x v ∨ AVsat M β w imm y v
  | .pr p, v => p v
  | .vw i ver p, v => ∃ ab, M[i]? = some ab ∧ ab.rowOk ver fun k n => p k (β i) n v
def AVsats (M : List AB) (β : Env) (w : World) (imm : Nat → Prop) : List AV → List Value → Prop
  | [], vs => vs = []
  | a :: as, vs => ∃ v r, vs = v :: r ∧ AVsat M β w imm a v ∧ AVsats M β w imm as r
end

/-- How an entry of own memory may turn. -/
def EvE (b b' : Option (Nat × Nat)) : AB → AB → Prop
  | .gone, ab' => ab' = .gone ∧ b' = b
  | .box _ _, .gone => b' = b
  | .box e _, .box e' _ => e' = e ∧ b' = b
  | .box _ _, .row .. => False
  | .row .., .gone => True
  | .row ver _ k es, .row ver' _ k' es' => ver ≤ ver' ∧ k' = k ∧ (ver' = ver → b' = b ∧ es'.length = es.length)
  | .row .., .box .. => False
  | .iter _ _, .gone => b' = b
  | .iter s _, .iter s' _ => s' = s ∧ b' = b
  | .iter .., .box .. => False
  | .iter .., .row .. => False
  | .box .., .iter .. => False
  | .row .., .iter .. => False
  | .row ver _ k es, .rowo ver' _ k' pre mo _ => ver ≤ ver' ∧ k' = k ∧ (ver' = ver → b' = b ∧ pre.length + mo = es.length)
  | .rowo .., .gone => True
  | .rowo ver _ k pre mo _, .rowo ver' _ k' pre' mo' _ => ver ≤ ver' ∧ k' = k ∧ (ver' = ver → b' = b ∧ pre'.length + mo' = pre.length + mo)
  | .rowo .., .row .. => False
  | .rowo .., .box .. => False
  | .rowo .., .iter .. => False
  | .box .., .rowo .. => False
  | .iter .., .rowo .. => False

structure Ev (M : List AB) (β : Env) (w : World) (M' : List AB) (β' : Env) (w' : World) : Prop where
  os : w'.os = w.os
  tape : w'.tape = w.tape
  output : w'.output = w.output
  size : w.heap.size ≤ w'.heap.size
  keep : ∀ b, b < w.heap.size → ¬ live M β b → w'.heap[b]? = w.heap[b]?
  new : ∀ b, live M' β' b → live M β b ∨ w.heap.size ≤ b
  ent : ∀ i ab, M[i]? = some ab → ∃ ab', M'[i]? = some ab' ∧ EvE (β i) (β' i) ab ab'

theorem EvE.refl (b : Option (Nat × Nat)) : ∀ ab, EvE b b ab ab
  | .gone => ⟨rfl, rfl⟩
  | .box _ _ => ⟨rfl, rfl⟩
  | .row _ _ _ _ => ⟨Nat.le_refl _, rfl, fun _ => ⟨rfl, rfl⟩⟩
  | .iter _ _ => ⟨rfl, rfl⟩
  | .rowo _ _ _ _ _ _ => ⟨Nat.le_refl _, rfl, fun _ => ⟨rfl, rfl⟩⟩
theorem EvE.trans {b b' b'' : Option (Nat × Nat)} {x y z : AB} (h : EvE b b' x y) (k : EvE b' b'' y z) : EvE b b'' x z := by
  cases x with
  | gone => obtain ⟨rfl, rfl⟩ := h; exact k
  | box e cs =>
    cases y with
    | gone => obtain ⟨rfl, rfl⟩ := k; exact h
    | box e' cs' =>
      obtain ⟨rfl, rfl⟩ := h
      cases z with
      | gone => exact k
      | box e'' cs'' => exact k
      | row _ _ _ _ => exact k.elim
      | rowo _ _ _ _ _ _ => exact k.elim
      | iter _ _ => exact k.elim
    | row _ _ _ _ => exact h.elim
    | rowo _ _ _ _ _ _ => exact h.elim
    | iter _ _ => exact h.elim
  | iter s p =>
    cases y with
    | gone => obtain ⟨rfl, rfl⟩ := k; exact h
    | iter s' p' =>
      obtain ⟨rfl, rfl⟩ := h
      cases z with
      | gone => exact k
      | iter s'' p'' => exact k
      | box _ _ => exact k.elim
      | row _ _ _ _ => exact k.elim
      | rowo _ _ _ _ _ _ => exact k.elim
    | box _ _ => exact h.elim
    | row _ _ _ _ => exact h.elim
    | rowo _ _ _ _ _ _ => exact h.elim
  | rowo ver e kk pre mo cells =>
    cases y with
    | gone => obtain ⟨rfl, rfl⟩ := k; trivial
    | box _ _ => exact h.elim
    | iter _ _ => exact h.elim
    | row _ _ _ _ => exact h.elim
    | rowo ver' e' k' pre' mo' cells' =>
      cases z with
      | gone => trivial
      | box _ _ => exact k.elim
      | iter _ _ => exact k.elim
      | row _ _ _ _ => exact k.elim
      | rowo ver'' e'' k'' pre'' mo'' cells'' =>
        obtain ⟨h1, h0, h2⟩ := h
        obtain ⟨k1, k0, k2⟩ := k
        refine ⟨Nat.le_trans h1 k1, k0.trans h0, fun e => ?_⟩
        subst e
        have e2 : ver' = ver'' := Nat.le_antisymm k1 h1
        obtain ⟨a1, a2⟩ := h2 e2
        obtain ⟨b1, b2⟩ := k2 e2.symm
        exact ⟨b1.trans a1, b2.trans a2⟩
  | row ver e kk es =>
    cases y with
    | gone => obtain ⟨rfl, rfl⟩ := k; trivial
    | box _ _ => exact h.elim
    | iter _ _ => exact h.elim
    | rowo ver' e' k' pre' mo' cells' =>
      cases z with
      | gone => trivial
      | box _ _ => exact k.elim
      | iter _ _ => exact k.elim
      | row _ _ _ _ => exact k.elim
      | rowo ver'' e'' k'' pre'' mo'' cells'' =>
        obtain ⟨h1, h0, h2⟩ := h
        obtain ⟨k1, k0, k2⟩ := k
        refine ⟨Nat.le_trans h1 k1, k0.trans h0, fun e => ?_⟩
        subst e
        have e2 : ver' = ver'' := Nat.le_antisymm k1 h1
        obtain ⟨a1, a2⟩ := h2 e2
        obtain ⟨b1, b2⟩ := k2 e2.symm
        exact ⟨b1.trans a1, by omega⟩
    | row ver' e' k' es' =>
      cases z with
      | gone => trivial
      | box _ _ => exact k.elim
      | iter _ _ => exact k.elim
      | rowo ver'' e'' k'' pre'' mo'' cells'' =>
        obtain ⟨h1, h0, h2⟩ := h
        obtain ⟨k1, k0, k2⟩ := k
        refine ⟨Nat.le_trans h1 k1, k0.trans h0, fun e => ?_⟩
        subst e
        have e2 : ver' = ver'' := Nat.le_antisymm k1 h1
        obtain ⟨a1, a2⟩ := h2 e2
        obtain ⟨b1, b2⟩ := k2 e2.symm
        exact ⟨b1.trans a1, b2.trans a2⟩
      | row ver'' e'' k'' es'' =>
        obtain ⟨h1, h0, h2⟩ := h
        obtain ⟨k1, k0, k2⟩ := k
        refine ⟨Nat.le_trans h1 k1, k0.trans h0, fun e => ?_⟩
        subst e
        have e2 : ver' = ver'' := Nat.le_antisymm k1 h1
        obtain ⟨a1, a2⟩ := h2 e2
        obtain ⟨b1, b2⟩ := k2 e2.symm
        exact ⟨b1.trans a1, b2.trans a2⟩

section
variable {M M' M'' : List AB} {β β' β'' : Env} {w w' w'' : World} {S : Nat → Prop} {B : Nat}
theorem Ev.refl (M : List AB) (β : Env) (w : World) : Ev M β w M β w := ⟨rfl, rfl, rfl, Nat.le_refl _, fun _ _ _ => rfl, fun _ h => .inl h, fun _ ab h => ⟨ab, h, EvE.refl _ _⟩⟩
theorem Ev.trans (h : Ev M β w M' β' w') (k : Ev M' β' w' M'' β'' w'') : Ev M β w M'' β'' w'' := {
  os := k.os.trans h.os
  tape := k.tape.trans h.tape
  output := k.output.trans h.output
  size := Nat.le_trans h.size k.size
  keep := fun b hb hl => by
    have hl' : ¬ live M' β' b := fun x => by
      rcases h.new b x with y | y
      · exact hl y
      · omega
    exact (k.keep b (Nat.lt_of_lt_of_le hb h.size) hl').trans (h.keep b hb hl)
  new := fun b x => by
    rcases k.new b x with y | y
    · exact h.new b y
    · exact .inr (Nat.le_trans h.size y)
  ent := fun i ab hi => by
    obtain ⟨ab', h1, h2⟩ := h.ent i ab hi
    obtain ⟨ab'', h3, h4⟩ := k.ent i ab' h1
    exact ⟨ab'', h3, h2.trans h4⟩ }

def immOf (S : Nat → Prop) (B : Nat) (M : List AB) (β : Env) (w : World) (b : Nat) : Prop := (S b ∨ B ≤ b) ∧ b < w.heap.size ∧ ¬ live M β b

theorem immOf.ev (h : Ev M β w M' β' w') {b : Nat} (hb : immOf S B M β w b) : immOf S B M' β' w' b :=
  ⟨hb.1, Nat.lt_of_lt_of_le hb.2.1 h.size, fun x => by
    rcases h.new b x with y | y
    · exact hb.2.2 y
    · have := hb.2.1; omega⟩
theorem immOf.cell (h : Ev M β w M' β' w') {b : Nat} (off : Nat) (hb : immOf S B M β w b) : w'.cell? ⟨b, off, none⟩ = w.cell? ⟨b, off, none⟩ :=
  World.cell?_of_block (w := w) (h.keep b hb.2.1 hb.2.2)

variable {imm imm' : Nat → Prop}
/-- What the listed package-level variables hold: blocks that nothing turns. -/
def glL : List (Nat × List Value) := []
def GL (imm : Nat → Prop) (w : World) : Prop := ∀ p ∈ glL, imm p.1 ∧ ∀ (j : Nat) (u : Value), p.2[j]? = some u → w.cell? ⟨p.1, j, none⟩ = some u
theorem GL.mono (h : GL imm w) (hi : ∀ b, imm b → imm' b) (hc : ∀ b off, imm b → w'.cell? ⟨b, off, none⟩ = w.cell? ⟨b, off, none⟩) : GL imm' w' :=
  fun p hp => ⟨hi _ (h p hp).1, fun j u hj => (hc _ _ (h p hp).1).trans ((h p hp).2 j u hj)⟩
theorem GL.ev (h : Ev M β w M' β' w') (hg : GL (immOf S B M β w) w) : GL (immOf S B M' β' w') w' := hg.mono (fun _ => immOf.ev h) (fun _ off => immOf.cell h off)
theorem AB.rowOk.ev {b b' : Option (Nat × Nat)} {ver : Nat} {p p' : Nat → Nat → Prop} (hp : ∀ k n, b' = b → p k n → p' k n) : ∀ {ab ab' : AB}, EvE b b' ab ab' → ab.rowOk ver p → ab'.rowOk ver p'
  | .gone, _, ⟨rfl, _⟩, _ => trivial
  | .box _ _, .gone, _, _ => trivial
  | .box _ _, .box _ _, _, _ => trivial
  | .box _ _, .row _ _ _ _, h, _ => h.elim
  | .row _ _ _ _, .gone, _, _ => trivial
  | .row _ _ _ _, .box _ _, h, _ => h.elim
  | .row _ _ _ _, .iter _ _, h, _ => h.elim
  | .box _ _, .iter _ _, h, _ => h.elim
  | .iter _ _, .gone, _, _ => trivial
  | .iter _ _, .iter _ _, _, _ => trivial
  | .iter _ _, .box _ _, h, _ => h.elim
  | .iter _ _, .row _ _ _ _, h, _ => h.elim
  | .box _ _, .rowo _ _ _ _ _ _, h, _ => h.elim
  | .iter _ _, .rowo _ _ _ _ _ _, h, _ => h.elim
  | .rowo _ _ _ _ _ _, .gone, _, _ => trivial
  | .rowo _ _ _ _ _ _, .box _ _, h, _ => h.elim
  | .rowo _ _ _ _ _ _, .iter _ _, h, _ => h.elim
  | .rowo _ _ _ _ _ _, .row _ _ _ _, h, _ => h.elim
  | .rowo v0 _ _ pre mo _, .rowo v1 _ _ pre' mo' _, ⟨h1, h0, h2⟩, ⟨k1, k2⟩ => ⟨Nat.le_trans k1 h1, fun e => by
      subst e
      have e0 : v0 = v1 := Nat.le_antisymm h1 k1
      obtain ⟨a1, a2⟩ := h2 e0.symm
      rw [a2, h0]
      exact hp _ _ a1 (k2 e0)⟩
  | .row v0 _ _ es, .rowo v1 _ _ pre' mo' _, ⟨h1, h0, h2⟩, ⟨k1, k2⟩ => ⟨Nat.le_trans k1 h1, fun e => by
      subst e
      have e0 : v0 = v1 := Nat.le_antisymm h1 k1
      obtain ⟨a1, a2⟩ := h2 e0.symm
      rw [a2, h0]
      exact hp _ _ a1 (k2 e0)⟩
  | .row v0 _ _ es, .row v1 _ _ es', ⟨h1, h0, h2⟩, ⟨k1, k2⟩ => ⟨Nat.le_trans k1 h1, fun e => by
      subst e
      have e0 : v0 = v1 := Nat.le_antisymm h1 k1
      obtain ⟨a1, a2⟩ := h2 e0.symm
      rw [a2, h0]
      exact hp _ _ a1 (k2 e0)⟩
theorem EvE.ptr {b b' : Option (Nat × Nat)} : ∀ {ab ab' : AB}, EvE b b' ab ab' → ab.isRow = false → b' = b ∧ ab'.isRow = false
  | .gone, _, ⟨rfl, h⟩, _ => ⟨h, rfl⟩
  | .box _ _, .gone, h, _ => ⟨h, rfl⟩
  | .box _ _, .box _ _, h, _ => ⟨h.2, rfl⟩
  | .box _ _, .row _ _ _ _, h, _ => h.elim
  | .row _ _ _ _, _, _, h => by cases h
  | .box _ _, .iter _ _, h, _ => h.elim
  | .iter _ _, .gone, h, _ => ⟨h, rfl⟩
  | .iter _ _, .iter _ _, h, _ => ⟨h.2, rfl⟩
  | .iter _ _, .box _ _, h, _ => h.elim
  | .iter _ _, .row _ _ _ _, h, _ => h.elim
  | .box _ _, .rowo _ _ _ _ _ _, h, _ => h.elim
  | .iter _ _, .rowo _ _ _ _ _ _, h, _ => h.elim
  | .rowo _ _ _ _ _ _, _, _, h => by cases h
mutual
theorem AVsat.mono (h : Ev M β w M' β' w') (hi : ∀ b, imm b → imm' b) (hc : ∀ b off, imm b → w'.cell? ⟨b, off, none⟩ = w.cell? ⟨b, off, none⟩) : ∀ (x : AV) (v : Value), AVsat M β w imm x v → AVsat M' β' w' imm' x v
  | .any, _, _ => trivial
  | .val _, _, hx => hx
  | .sl k es, v, hx => DenC.mono hi hc (.sl k es) [v] hx
  | .ptr i off, v, ⟨g, c, h1, h2, ab, h3, h4⟩ => by
    obtain ⟨ab', h5, h6⟩ := h.ent i ab h3
    obtain ⟨h7, h8⟩ := h6.ptr h4
    exact ⟨g, c, h7.trans h1, h2, ab', h5, h8⟩
  | .row i ver, v, ⟨ab, h1, h2⟩ => by
    obtain ⟨ab', h5, h6⟩ := h.ent i ab h1
    exact ⟨ab', h5, AB.rowOk.ev (fun _ n e hn => by rw [e]; exact hn) h6 h2⟩
  | .eptr i ver _ off, v, ⟨ab, h1, h2⟩ => by
    obtain ⟨ab', h5, h6⟩ := h.ent i ab h1
    exact ⟨ab', h5, AB.rowOk.ev (fun _ n e hn => by rw [e]; exact hn) h6 h2⟩
  | .dptr l, v, ⟨g, off, cs, h1, h2, h3, h4⟩ => ⟨g, off, cs, h1, hi _ h2, AVsats.mono h hi hc l cs h3, fun j u hj => (hc _ _ h2).trans (h4 j u hj)⟩
  | .agg l, v, ⟨cs, h1, h2⟩ => ⟨cs, h1, AVsats.mono h hi hc l _ h2⟩
  | .tup l, v, ⟨cs, h1, h2⟩ => ⟨cs, h1, AVsats.mono h hi hc l _ h2⟩
  | .cnd c x, v, ⟨h1, h2⟩ => ⟨fun hcc => AVsat.mono h hi hc x v (h1 hcc), h2⟩
  | .cl f caps, v, ⟨cs, h1, h2⟩ => ⟨cs, h1, AVsats.mono h hi hc caps _ h2⟩
  | .ub _ _, _, hx => hx
  | .pr _, _, hx => hx
  | .vw i ver p, v, ⟨ab, h1, h2⟩ => by
    obtain ⟨ab', h5, h6⟩ := h.ent i ab h1
    exact ⟨ab', h5, AB.rowOk.ev (fun _ n e hn => by rw [e]; exact hn) h6 h2⟩
  | .alt x y, v, hx => hx.elim (fun k => .inl (AVsat.mono h hi hc x v k)) (fun k => .inr (AVsat.mono h hi hc y v k))
theorem AVsats.mono (h : Ev M β w M' β' w') (hi : ∀ b, imm b → imm' b) (hc : ∀ b off, imm b → w'.cell? ⟨b, off, none⟩ = w.cell? ⟨b, off, none⟩) : ∀ (l : List AV) (vs : List Value), AVsats M β w imm l vs → AVsats M' β' w' imm' l vs
  | [], _, hx => hx
  | a :: as, _, ⟨v, r, h1, h2, h3⟩ => ⟨v, r, h1, AVsat.mono h hi hc a v h2, AVsats.mono h hi hc as r h3⟩
end
theorem AVsat.ev (h : Ev M β w M' β' w') {x : AV} {v : Value} (hx : AVsat M β w (immOf S B M β w) x v) : AVsat M' β' w' (immOf S B M' β' w') x v :=
  AVsat.mono h (fun _ => immOf.ev h) (fun _ off => immOf.cell h off) x v hx
theorem AVsats.ev (h : Ev M β w M' β' w') {l : List AV} {vs : List Value} (hx : AVsats M β w (immOf S B M β w) l vs) : AVsats M' β' w' (immOf S B M' β' w') l vs :=
  AVsats.mono h (fun _ => immOf.ev h) (fun _ off => immOf.cell h off) l vs hx
theorem AVsats.len : ∀ {l : List AV} {vs : List Value}, AVsats M β w imm l vs → vs.length = l.length
  | [], _, h => by rw [h]; rfl
  | _ :: as, _, ⟨v, r, h1, _, h3⟩ => by rw [h1, List.length_cons, AVsats.len h3]; rfl
theorem AVsats.get : ∀ {l : List AV} {vs : List Value} {i : Nat} {x : AV}, AVsats M β w imm l vs → l[i]? = some x → ∃ v, vs[i]? = some v ∧ AVsat M β w imm x v
  | [], _, _, _, _, h => by cases h
  | a :: as, _, 0, x, ⟨v, r, h1, h2, h3⟩, h => by cases h; exact ⟨v, by rw [h1]; rfl, h2⟩
  | a :: as, _, i + 1, x, ⟨v, r, h1, h2, h3⟩, h => by
    obtain ⟨u, h4, h5⟩ := AVsats.get (i := i) h3 (by simpa using h)
    exact ⟨u, by rw [h1]; simpa using h4, h5⟩
theorem AVsats.set_ : ∀ {l : List AV} {vs : List Value} {i : Nat} {x : AV} {u : Value}, AVsats M β w imm l vs → AVsat M β w imm x u → AVsats M β w imm (l.set i x) (vs.set i u)
  | [], _, _, _, _, h, _ => by rw [h]; rfl
  | a :: as, _, 0, x, u, ⟨v, r, h1, h2, h3⟩, k => by rw [h1]; exact ⟨u, r, rfl, k, h3⟩
  | a :: as, _, i + 1, x, u, ⟨v, r, h1, h2, h3⟩, k => by rw [h1]; exact ⟨v, r.set i u, rfl, h2, AVsats.set_ h3 k⟩
theorem AVsats.append : ∀ {a b : List AV} {x y : List Value}, AVsats M β w imm a x → AVsats M β w imm b y → AVsats M β w imm (a ++ b) (x ++ y)
  | [], _, _, _, h, k => by rw [h]; exact k
  | _ :: as, _, _, _, ⟨v, r, h1, h2, h3⟩, k => by rw [h1]; exact ⟨v, r ++ _, rfl, h2, AVsats.append h3 k⟩
theorem AVsats.take_ : ∀ {l : List AV} {vs : List Value} (n : Nat), AVsats M β w imm l vs → AVsats M β w imm (l.take n) (vs.take n)
  | [], _, n, h => by rw [h]; simp [AVsats]
  | _ :: _, _, 0, _ => rfl
  | _ :: as, _, n + 1, ⟨v, r, h1, h2, h3⟩ => by rw [h1]; exact ⟨v, r.take n, rfl, h2, AVsats.take_ n h3⟩
theorem AVsats.drop_ : ∀ {l : List AV} {vs : List Value} (n : Nat), AVsats M β w imm l vs → AVsats M β w imm (l.drop n) (vs.drop n)
  | [], _, n, h => by rw [h]; simp [AVsats]
  | _ :: _, _, 0, h => h
  | _ :: as, _, n + 1, ⟨v, r, h1, h2, h3⟩ => by rw [h1]; exact AVsats.drop_ n h3
end

/-- Are the cells of a datum; each of one cell. -/
def D.av1 : D → AV
  | .val v => .val v
  | .sl k es => .sl k es
  | .ag _ => .any
mutual
def D.cells : D → List AV
  | .val v => [.val v]
  | .sl k es => [.sl k es]
  | .ag fs => D.cellss fs
def D.cellss : List D → List AV
  | [] => []
  | d :: ds => d.cells ++ D.cellss ds
end
/-- A datum as a slot holds it. -/
def D.av : D → AV
  | .val v => .val v
  | .sl k es => .sl k es
  | .ag fs => .agg (D.cellss fs)
section
variable {M : List AB} {β : Env} {w : World} {imm : Nat → Prop}
mutual
theorem DenC.cells_ : ∀ (d : D) (cs : List Value), DenC w imm d cs → AVsats M β w imm d.cells cs
  | .val v, _, h => ⟨v, [], h.1, rfl, rfl⟩
  | .sl k es, cs, h => by
    obtain ⟨A, n, c, h1, h2⟩ := h
    exact ⟨.slice A n c, [], h1, ⟨A, n, c, rfl, h2⟩, rfl⟩
  | .ag fs, cs, h => DenCs.cellss_ fs cs h
theorem DenCs.cellss_ : ∀ (ds : List D) (cs : List Value), DenCs w imm ds cs → AVsats M β w imm (D.cellss ds) cs
  | [], _, h => h
  | d :: ds, _, ⟨c1, c2, h1, h2, h3⟩ => by rw [h1]; exact (DenC.cells_ d c1 h2).append (DenCs.cellss_ ds c2 h3)
end
/-- A datum whose scalars are each of one cell. -/
def D.fine : D → Prop
  | .val v => v.oneCell' = true
  | .sl _ _ => True
  | .ag fs => ∀ d ∈ fs, d.fine
mutual
theorem AVsats.denC : ∀ (d : D) (cs : List Value), d.fine → AVsats M β w imm d.cells cs → DenC w imm d cs
  | .val v, _, hf, ⟨_, _, h1, h2, h3⟩ => by cases h2; cases h3; exact ⟨h1, by simpa [D.fine] using hf⟩
  | .sl k es, _, _, ⟨u, _, h1, h2, h3⟩ => by
    cases h3
    obtain ⟨A, n, c, e, h4⟩ := h2
    exact ⟨A, n, c, by rw [h1, e], h4⟩
  | .ag fs, cs, hf, h => AVsats.denCs fs cs (by rw [D.fine] at hf; exact hf) h
theorem AVsats.denCs : ∀ (ds : List D) (cs : List Value), (∀ d ∈ ds, d.fine) → AVsats M β w imm (D.cellss ds) cs → DenCs w imm ds cs
  | [], _, _, h => h
  | d :: ds, cs, hf, h => by
    have hl := h.len
    refine ⟨cs.take d.cells.length, cs.drop d.cells.length, by simp, AVsats.denC d _ (hf d (by simp)) ?_, AVsats.denCs ds _ (fun x hx => hf x (by simp [hx])) ?_⟩
    · have := h.take_ d.cells.length
      rw [D.cellss, List.take_left] at this
      exact this
    · have := h.drop_ d.cells.length
      rw [D.cellss, List.drop_left] at this
      exact this
end
end

end Go.Proofs.YtiolnmfaeenlmaaGreatDoor

/- The engine, part 2: own memory, and how it may turn; the state of a body. -/
namespace Go.Proofs.YtiolnmfaeenlmaaGreatDoor
open Go Go.RowKit

/-- None of the first cells is frozen. -/
def clear (fz : Nat × Nat) (n : Nat) : Prop := ∀ j, j < n → (decide (fz.1 ≤ j) && decide (j < fz.2)) = false
theorem clear0 (n : Nat) : clear (0, 0) n := fun j _ => by simp
/-- Rows whose number is odd may be frozen within their elements (what 'String()' leaves of a builder). -/
def sealed : Nat → Bool
  | 0 => false
  | 1 => true
  | n + 2 => sealed n
def okFz (v m : Nat) (fz : Nat × Nat) (n : Nat) : Prop := cond (sealed v) (fz.2 ≤ m) (clear fz n)
theorem okFz.of0 (v m n : Nat) : okFz v m (0, 0) n := by
  unfold okFz
  cases sealed v
  · exact clear0 n
  · exact Nat.zero_le _
theorem okFz.from_ {v m n : Nat} {fz : Nat × Nat} (h : okFz v m fz n) : ∀ j, m ≤ j → j < n → (decide (fz.1 ≤ j) && decide (j < fz.2)) = false := by
  unfold okFz at h
  cases hs : sealed v with
  | false => rw [hs] at h; exact fun j _ hj => h j hj
  | true =>
    rw [hs] at h
    have h : fz.2 ≤ m := h
    intro j hm _
    simp
    omega
theorem okFz.mono {v v' m m' n n' : Nat} {fz : Nat × Nat} (h : okFz v m fz n) (hv : sealed v' = sealed v) (hm : m ≤ m') (hn : n' = n) : okFz v' m' fz n' := by
  subst hn
  unfold okFz at h ⊢
  rw [hv]
  cases hs : sealed v with
  | false => rw [hs] at h; exact h
  | true => rw [hs] at h; exact Nat.le_trans h hm
theorem okFz.clear {v m n : Nat} {fz : Nat × Nat} (h : okFz v m fz n) (hs : sealed v = false) : clear fz n := by
  unfold okFz at h
  rw [hs] at h
  exact h
theorem clear.ok {v m n : Nat} {fz : Nat × Nat} (h : clear fz n) (hs : sealed v = false) : okFz v m fz n := by
  unfold okFz
  rw [hs]
  exact h
def rowAt (w : World) (g : Nat) (cs : Array Value) (e : TypeId) (v m : Nat) : Prop := ∃ fz, w.heap[g]? = some (.cells cs e fz) ∧ okFz v m fz cs.size
theorem rowAt.cell {w : World} {g : Nat} {cs : Array Value} {e : TypeId} {v m : Nat} (h : rowAt w g cs e v m) (j : Nat) : w.cell? ⟨g, j, none⟩ = cs[j]? := by
  obtain ⟨fz, h, _⟩ := h
  exact cell_of_row w g j cs e fz h
theorem rowAt.of0 {w : World} {g : Nat} {cs : Array Value} {e : TypeId} {v m : Nat} (h : w.heap[g]? = some (.cells cs e (0, 0))) : rowAt w g cs e v m := ⟨_, h, okFz.of0 _ _ _⟩
theorem rowAt.mono {w : World} {g : Nat} {cs : Array Value} {e : TypeId} {v v' m m' : Nat} (h : rowAt w g cs e v m) (hv : sealed v' = sealed v) (hm : m ≤ m') : rowAt w g cs e v' m' := by
  obtain ⟨fz, h1, h2⟩ := h
  exact ⟨fz, h1, h2.mono hv hm rfl⟩
theorem rowAt.ev {w w' : World} {g : Nat} {cs : Array Value} {e : TypeId} {v m : Nat} (h : rowAt w g cs e v m) (hg : w'.heap[g]? = w.heap[g]?) : rowAt w' g cs e v m := by
  obtain ⟨fz, h1, h2⟩ := h
  exact ⟨fz, hg.trans h1, h2⟩

def EntSat (M : List AB) (β : Env) (w : World) (imm : Nat → Prop) (b : Option (Nat × Nat)) : AB → Prop
  | .gone => True
  | .box e cells => ∃ g c cs, b = some (g, c) ∧ w.heap[g]? = some (.cells cs e (0, 0)) ∧ AVsats M β w imm cells cs.toList
  | .iter s pos => ∃ g c, b = some (g, c) ∧ w.heap[g]? = some (.stringIter s pos)
  | .rowo _ e k pre mo cells => AllW k pre ∧ cells.length = mo * k ∧ ∃ g cap cs, b = some (g, cap) ∧ rowAt w g cs e 0 0 ∧ pre.length + mo ≤ cap ∧ cap ≤ maxLen ∧ cs.size = cap * k ∧ ∃ c1 c2 c3, cs.toList = c1 ++ c2 ++ c3 ∧ DenCs w imm pre c1 ∧ AVsats M β w imm cells c2
  | .row v e k es => AllW k es ∧ ((b = none ∧ es = []) ∨ ∃ g cap cs, b = some (g, cap) ∧ rowAt w g cs e v (es.length * k) ∧ es.length ≤ cap ∧ cap ≤ maxLen ∧ cs.size = cap * k ∧
      DenCs w imm es (cs.toList.take (es.length * k)))

structure MemSat (S : Nat → Prop) (B : Nat) (M : List AB) (β : Env) (w : World) : Prop where
  lo : B ≤ w.heap.size
  inj : ∀ i j ab ab' g c c', M[i]? = some ab → ab.alive = true → β i = some (g, c) → M[j]? = some ab' → ab'.alive = true → β j = some (g, c') → i = j
  ent : ∀ i ab, M[i]? = some ab → EntSat M β w (immOf S B M β w) (β i) ab
  own : ∀ b, live M β b → S b ∨ B ≤ b
  gl : GL (immOf S B M β w) w

def setE (β : Env) (i : Nat) (x : Option (Nat × Nat)) : Env := fun j => if j = i then x else β j
@[simp] theorem setE_same (β : Env) (i : Nat) (x : Option (Nat × Nat)) : setE β i x i = x := by simp [setE]
theorem setE_ne (β : Env) {i j : Nat} (x : Option (Nat × Nat)) (h : j ≠ i) : setE β i x j = β j := by simp [setE, h]

section
variable {M M' : List AB} {β β' : Env} {w w' : World} {S : Nat → Prop} {B : Nat}

theorem heap_lt {w : World} {g : Nat} {o : Obj} (h : w.heap[g]? = some o) : g < w.heap.size := (Array.getElem?_eq_some_iff.1 h).1

theorem MemSat.block (h : MemSat S B M β w) {i : Nat} {ab : AB} {g c : Nat} (hi : M[i]? = some ab) (ha : ab.alive = true) (hb : β i = some (g, c)) : ∃ o, w.heap[g]? = some o := by
  have he := h.ent i ab hi
  cases ab with
  | gone => cases ha
  | box e cells => obtain ⟨g', c', cs, h1, h2, _⟩ := he; rw [hb] at h1; cases h1; exact ⟨_, h2⟩
  | iter s p => obtain ⟨g', c', h1, h2⟩ := he; rw [hb] at h1; cases h1; exact ⟨_, h2⟩
  | rowo v e k pre mo cells => obtain ⟨_, _, g', c', cs, h1, ⟨fz, h2, _⟩, _⟩ := he; rw [hb] at h1; cases h1; exact ⟨_, h2⟩
  | row v e k es =>
    rcases he.2 with ⟨h1, _⟩ | ⟨g', c', cs, h1, h2, _⟩
    · rw [hb] at h1; cases h1
    · rw [hb] at h1; cases h1; obtain ⟨fz, h2, _⟩ := h2; exact ⟨_, h2⟩
theorem MemSat.lt (h : MemSat S B M β w) {b : Nat} (hl : live M β b) : b < w.heap.size := by
  obtain ⟨i, ab, c, h1, h2, h3⟩ := hl
  obtain ⟨o, h4⟩ := h.block h1 h2 h3
  exact heap_lt h4

/-- An entry that has not turned holds on. -/
theorem EntSat.ev (hE : Ev M β w M' β' w') {b : Option (Nat × Nat)} {ab : AB} (hb : ∀ g c, b = some (g, c) → ab.alive = true → w'.heap[g]? = w.heap[g]?)
    (h : EntSat M β w (immOf S B M β w) b ab) : EntSat M' β' w' (immOf S B M' β' w') b ab := by
  cases ab with
  | gone => trivial
  | box e cells =>
    obtain ⟨g, c, cs, h1, h2, h3⟩ := h
    exact ⟨g, c, cs, h1, (hb g c h1 rfl).trans h2, h3.ev hE⟩
  | iter s p =>
    obtain ⟨g, c, h1, h2⟩ := h
    exact ⟨g, c, h1, (hb g c h1 rfl).trans h2⟩
  | rowo v e k pre mo cells =>
    obtain ⟨h1, h2, g, cap, cs, h3, h4, h5, h6, h7, c1, c2, c3, h8, h9, h10⟩ := h
    exact ⟨h1, h2, g, cap, cs, h3, h4.ev (hb g cap h3 rfl), h5, h6, h7, c1, c2, c3, h8, DenCs.mono (fun _ => immOf.ev hE) (fun _ off => immOf.cell hE off) _ _ h9, h10.ev hE⟩
  | row v e k es =>
    refine ⟨h.1, ?_⟩
    rcases h.2 with h0 | ⟨g, cap, cs, h1, h2, h3, h4, h5, h6⟩
    · exact .inl h0
    · exact .inr ⟨g, cap, cs, h1, h2.ev (hb g cap h1 rfl), h3, h4, h5, DenCs.mono (fun _ => immOf.ev hE) (fun _ off => immOf.cell hE off) _ _ h6⟩

theorem Ev.of_below (h : Below w.heap.size w w') : Ev M β w M β w' := {
  os := h.os
  tape := h.tape
  output := h.output
  size := h.size
  keep := fun b hb _ => h.block b hb
  new := fun _ x => .inl x
  ent := fun _ ab hi => ⟨ab, hi, EvE.refl _ _⟩ }

/-- What was there is as it was: a draw, a new block, a call that writes to nothing of ours. -/
theorem MemSat.quiet (h : MemSat S B M β w) (hb : Below w.heap.size w w') : MemSat S B M β w' :=
  ⟨Nat.le_trans h.lo hb.size, h.inj, fun i ab hi => EntSat.ev (Ev.of_below hb) (fun g c hg ha => hb.block g (h.lt ⟨i, ab, c, hi, ha, hg⟩)) (h.ent i ab hi), h.own, GL.ev (Ev.of_below hb) h.gl⟩

theorem MemSat.set_ {i : Nat} {ab ab' : AB} {x : Option (Nat × Nat)} (h : MemSat S B M β w) (hi : M[i]? = some ab) (hal : ab.alive = true)
    (os : w'.os = w.os) (tape : w'.tape = w.tape) (output : w'.output = w.output) (size : w.heap.size ≤ w'.heap.size)
    (keep : ∀ b, b < w.heap.size → (∀ c, β i ≠ some (b, c)) → w'.heap[b]? = w.heap[b]?)
    (hx : ∀ g c, x = some (g, c) → (∃ c0, β i = some (g, c0)) ∨ w.heap.size ≤ g) (hE : EvE (β i) x ab ab')
    (hent : Ev M β w (M.set i ab') (setE β i x) w' → EntSat (M.set i ab') (setE β i x) w' (immOf S B (M.set i ab') (setE β i x) w') x ab') :
    Ev M β w (M.set i ab') (setE β i x) w' ∧ MemSat S B (M.set i ab') (setE β i x) w' := by
  have hlt : i < M.length := (List.getElem?_eq_some_iff.1 hi).1
  have hev : Ev M β w (M.set i ab') (setE β i x) w' := by
    refine ⟨os, tape, output, size, fun b hb hl => keep b hb fun c hc => hl ⟨i, ab, c, hi, hal, hc⟩, fun b => ?_, fun j abj hj => ?_⟩
    · rintro ⟨j, abj, c, h1, h2, h3⟩
      by_cases hji : j = i
      · subst hji
        rw [setE_same] at h3
        rcases hx b c h3 with ⟨c0, h4⟩ | h4
        · exact .inl ⟨j, ab, c0, hi, hal, h4⟩
        · exact .inr h4
      · rw [setE_ne β x hji] at h3
        rw [List.getElem?_set_ne (Ne.symm hji)] at h1
        exact .inl ⟨j, abj, c, h1, h2, h3⟩
    · by_cases hji : j = i
      · subst hji
        rw [hi] at hj; cases hj
        exact ⟨ab', by simp [hlt], by rw [setE_same]; exact hE⟩
      · exact ⟨abj, by rw [List.getElem?_set_ne (Ne.symm hji)]; exact hj, by rw [setE_ne β x hji]; exact EvE.refl _ _⟩
  refine ⟨hev, ⟨Nat.le_trans h.lo size, fun j k abj abk g c c' h1 h2 h3 k1 k2 k3 => ?_, fun j abj hj => ?_, fun b hb => (hev.new b hb).elim (h.own b) (fun hb => .inr (Nat.le_trans h.lo hb)), GL.ev hev h.gl⟩⟩
  · have old : ∀ (j : Nat) (abj : AB), j ≠ i → (M.set i ab')[j]? = some abj → M[j]? = some abj := fun j abj hji hh => by rwa [List.getElem?_set_ne (Ne.symm hji)] at hh
    have one : ∀ (j : Nat) (abj : AB) (c c' : Nat), j ≠ i → M[j]? = some abj → abj.alive = true → β j = some (g, c) → x = some (g, c') → False := by
      intro j abj c c' hji h1 h2 h3 h4
      rcases hx g c' h4 with ⟨c0, h5⟩ | h5
      · exact hji (h.inj j i abj ab g c c0 h1 h2 h3 hi hal h5)
      · have := h.lt ⟨j, abj, c, h1, h2, h3⟩; omega
    by_cases hji : j = i
    · by_cases hki : k = i
      · rw [hji, hki]
      · subst hji
        rw [setE_same] at h3
        rw [setE_ne β x hki] at k3
        exact (one k abk c' c hki (old k abk hki k1) k2 k3 h3).elim
    · by_cases hki : k = i
      · subst hki
        rw [setE_same] at k3
        rw [setE_ne β x hji] at h3
        exact (one j abj c c' hji (old j abj hji h1) h2 h3 k3).elim
      · rw [setE_ne β x hji] at h3
        rw [setE_ne β x hki] at k3
        exact h.inj j k abj abk g c c' (old j abj hji h1) h2 h3 (old k abk hki k1) k2 k3
  · by_cases hji : j = i
    · subst hji
      rw [List.getElem?_set_self hlt] at hj
      cases hj
      rw [setE_same]
      exact hent hev
    · rw [List.getElem?_set_ne (Ne.symm hji)] at hj
      rw [setE_ne β x hji]
      refine EntSat.ev hev (fun g c hg ha => keep g (h.lt ⟨j, abj, c, hj, ha, hg⟩) fun c0 hc0 => hji ?_) (h.ent j abj hj)
      exact h.inj j i abj ab g c c0 hj ha hg hi hal hc0

theorem MemSat.push {ab : AB} {x : Option (Nat × Nat)} (h : MemSat S B M β w) (hb : Below w.heap.size w w') (hx : ∀ g c, x = some (g, c) → w.heap.size ≤ g)
    (hent : Ev M β w (M ++ [ab]) (setE β M.length x) w' → EntSat (M ++ [ab]) (setE β M.length x) w' (immOf S B (M ++ [ab]) (setE β M.length x) w') x ab) :
    Ev M β w (M ++ [ab]) (setE β M.length x) w' ∧ MemSat S B (M ++ [ab]) (setE β M.length x) w' := by
  have old : ∀ (j : Nat) (abj : AB), (M ++ [ab])[j]? = some abj → (j < M.length ∧ M[j]? = some abj) ∨ (j = M.length ∧ abj = ab) := by
    intro j abj hj
    rcases Nat.lt_or_ge j M.length with hlt | hge
    · rw [List.getElem?_append_left hlt] at hj; exact .inl ⟨hlt, hj⟩
    · rw [List.getElem?_append_right hge] at hj
      have : j - M.length = 0 := by
        rcases Nat.eq_zero_or_pos (j - M.length) with h0 | h0
        · exact h0
        · rw [List.getElem?_eq_none (by simp; omega)] at hj; cases hj
      rw [this] at hj
      simp at hj
      exact .inr ⟨by omega, hj.symm⟩
  have hev : Ev M β w (M ++ [ab]) (setE β M.length x) w' := by
    refine ⟨hb.os, hb.tape, hb.output, hb.size, fun b hb' _ => hb.block b hb', fun b => ?_, fun j abj hj => ?_⟩
    · rintro ⟨j, abj, c, h1, h2, h3⟩
      rcases old j abj h1 with ⟨hlt, h4⟩ | ⟨rfl, rfl⟩
      · rw [setE_ne β x (by omega)] at h3; exact .inl ⟨j, abj, c, h4, h2, h3⟩
      · rw [setE_same] at h3; exact .inr (hx b c h3)
    · have hlt : j < M.length := (List.getElem?_eq_some_iff.1 hj).1
      exact ⟨abj, by rw [List.getElem?_append_left hlt]; exact hj, by rw [setE_ne β x (by omega)]; exact EvE.refl _ _⟩
  refine ⟨hev, ⟨Nat.le_trans h.lo hb.size, fun j k abj abk g c c' h1 h2 h3 k1 k2 k3 => ?_, fun j abj hj => ?_, fun b hb => (hev.new b hb).elim (h.own b) (fun hb => .inr (Nat.le_trans h.lo hb)), GL.ev hev h.gl⟩⟩
  · rcases old j abj h1 with ⟨hlt, h4⟩ | ⟨rfl, rfl⟩ <;> rcases old k abk k1 with ⟨hlt', h5⟩ | ⟨rfl, rfl⟩
    · rw [setE_ne β x (by omega)] at h3 k3
      exact h.inj j k abj abk g c c' h4 h2 h3 h5 k2 k3
    · rw [setE_ne β x (by omega)] at h3
      rw [setE_same] at k3
      have := h.lt ⟨j, abj, c, h4, h2, h3⟩
      have := hx g c' k3
      omega
    · rw [setE_ne β x (by omega)] at k3
      rw [setE_same] at h3
      have := h.lt ⟨k, abk, c', h5, k2, k3⟩
      have := hx g c h3
      omega
    · rfl
  · rcases old j abj hj with ⟨hlt, h4⟩ | ⟨rfl, rfl⟩
    · rw [setE_ne β x (by omega)]
      exact EntSat.ev hev (fun g c hg ha => hb.block g (h.lt ⟨j, abj, c, h4, ha, hg⟩)) (h.ent j abj h4)
    · rw [setE_same]
      exact hent hev

/-- An own entry is let go: what it was is from now on as any other memory. -/
theorem MemSat.let_go {i : Nat} {ab : AB} (h : MemSat S B M β w) (hi : M[i]? = some ab) (hal : ab.alive = true) : Ev M β w (M.set i .gone) β w ∧ MemSat S B (M.set i .gone) β w := by
  have hs : setE β i (β i) = β := by funext j; by_cases hj : j = i <;> simp [setE, hj]
  have := h.set_ (w' := w) (ab' := .gone) (x := β i) hi hal rfl rfl rfl (Nat.le_refl _) (fun _ _ _ => rfl) (fun g c hc => .inl ⟨c, hc⟩)
    (by cases ab with
      | gone => cases hal
      | box e cells => exact rfl
      | iter s p => exact rfl
      | rowo v e k pre mo cells => trivial
      | row v e k es => trivial) (fun _ => trivial)
  rwa [hs] at this
end

/-- The last word on a slot. -/
def look : List (Nat × AV) → Nat → AV
  | [], _ => .any
  | (d, x) :: r, n => bif Nat.beq d n then x else look r n

/-- What is known in the midst of a body: own memory, and the slots. -/
structure AS where
  M : List AB
  F : List (Nat × AV)

/-- What a body hangs on: its program, the number of its slots, what it may read, the world and the own memory that it began with. -/
structure Cx where
  P : Program
  N : Nat
  S : Nat → Prop
  w0 : World
  M0 : List AB
  β0 : Env
  L : Option Nat

/-- The marks that ranges over functions have left: each is a shut block of our own. -/
def DefOk (B : Nat) : List Deferred → World → Prop
  | [], _ => True
  | d :: ds, w => (∃ D, d = { target := .collected D, args := #[] } ∧ B ≤ D ∧ w.heap[D]? = some (.deferred (some [])) ∧ ∀ d' ∈ ds, d' ≠ d) ∧ DefOk B ds w

section
variable {M M' : List AB} {β β' : Env} {w w' : World} {S : Nat → Prop} {B : Nat}
theorem MemSat.dead (h : MemSat S B M β w) {D : Nat} {o : Option (List Deferred)} (hD : w.heap[D]? = some (.deferred o)) : ¬ live M β D := by
  rintro ⟨i, ab, c, hi, ha, hb⟩
  have he := h.ent i ab hi
  cases ab with
  | gone => cases ha
  | box e cells => obtain ⟨g', c', cs, h1, h2, _⟩ := he; rw [hb] at h1; cases h1; rw [hD] at h2; cases h2
  | iter s p => obtain ⟨g', c', h1, h2⟩ := he; rw [hb] at h1; cases h1; rw [hD] at h2; cases h2
  | rowo v e k pre mo cells => obtain ⟨_, _, g', c', cs, h1, ⟨fz, h2, _⟩, _⟩ := he; rw [hb] at h1; cases h1; rw [hD] at h2; cases h2
  | row v e k es =>
    rcases he.2 with ⟨h1, _⟩ | ⟨g', c', cs, h1, ⟨fz, h2, _⟩, _⟩
    · rw [hb] at h1; cases h1
    · rw [hb] at h1; cases h1; rw [hD] at h2; cases h2
theorem DefOk.ev {B' : Nat} (hm : MemSat S B M β w) (hE : Ev M β w M' β' w') : ∀ {ds : List Deferred}, DefOk B' ds w → DefOk B' ds w'
  | [], _ => trivial
  | _ :: _, ⟨⟨D, h1, h2, h3, h4⟩, h5⟩ => ⟨⟨D, h1, h2, (hE.keep D (heap_lt h3) (hm.dead h3)).trans h3, h4⟩, DefOk.ev hm hE h5⟩
end

/-- Cells that were known are as they were. -/
def CellsOn (w w' : World) : Prop := ∀ b off u, w.cell? ⟨b, off, none⟩ = some u → w'.cell? ⟨b, off, none⟩ = some u
section
variable {w w' : World} {imm imm' : Nat → Prop}
mutual
theorem DenC.on (hi : ∀ b, imm b → imm' b) (hc : CellsOn w w') : ∀ (d : D) (cs : List Value), DenC w imm d cs → DenC w' imm' d cs
  | .val _, _, h => h
  | .ag fs, cs, h => DenCs.on hi hc fs cs h
  | .sl _ es, _, ⟨A, n, c, h1, h2, h3, h4, h5, h6⟩ => ⟨A, n, c, h1, h2, h3, h4, h5, fun hn => by
      obtain ⟨g, off, rows, e1, e2, e3, e4⟩ := h6 hn
      exact ⟨g, off, rows, e1, hi _ e2, DenCs.on hi hc es rows e3, fun j u hj => hc _ _ _ (e4 j u hj)⟩⟩
theorem DenCs.on (hi : ∀ b, imm b → imm' b) (hc : CellsOn w w') : ∀ (ds : List D) (cs : List Value), DenCs w imm ds cs → DenCs w' imm' ds cs
  | [], _, h => h
  | d :: ds, _, ⟨c1, c2, h1, h2, h3⟩ => ⟨c1, c2, h1, DenC.on hi hc d c1 h2, DenCs.on hi hc ds c2 h3⟩
end
variable {M : List AB} {β : Env}
mutual
theorem AVsat.on (hi : ∀ b, imm b → imm' b) (hc : CellsOn w w') : ∀ (x : AV) (v : Value), AVsat M β w imm x v → AVsat M β w' imm' x v
  | .any, _, _ => trivial
  | .val _, _, hx => hx
  | .sl k es, v, hx => DenC.on hi hc (.sl k es) [v] hx
  | .ptr _ _, _, hx => hx
  | .row _ _, _, hx => hx
  | .eptr _ _ _ _, _, hx => hx
  | .dptr l, v, ⟨g, off, cs, h1, h2, h3, h4⟩ => ⟨g, off, cs, h1, hi _ h2, AVsats.on hi hc l cs h3, fun j u hj => hc _ _ _ (h4 j u hj)⟩
  | .agg l, v, ⟨cs, h1, h2⟩ => ⟨cs, h1, AVsats.on hi hc l _ h2⟩
  | .tup l, v, ⟨cs, h1, h2⟩ => ⟨cs, h1, AVsats.on hi hc l _ h2⟩
  | .cnd c x, v, ⟨h1, h2⟩ => ⟨fun hcc => AVsat.on hi hc x v (h1 hcc), h2⟩
  | .cl f caps, v, ⟨cs, h1, h2⟩ => ⟨cs, h1, AVsats.on hi hc caps _ h2⟩
  | .ub _ _, _, hx => hx
  | .pr _, _, hx => hx
  | .vw _ _ _, _, hx => hx
  | .alt x y, v, hx => hx.elim (fun k => .inl (AVsat.on hi hc x v k)) (fun k => .inr (AVsat.on hi hc y v k))
theorem AVsats.on (hi : ∀ b, imm b → imm' b) (hc : CellsOn w w') : ∀ (l : List AV) (vs : List Value), AVsats M β w imm l vs → AVsats M β w' imm' l vs
  | [], _, hx => hx
  | a :: as, _, ⟨v, r, h1, h2, h3⟩ => ⟨v, r, h1, AVsat.on hi hc a v h2, AVsats.on hi hc as r h3⟩
end
end
def AB.isIter : AB → Bool
  | .iter _ _ => true
  | _ => false
/-- Blocks that hold no cells, from B on, may have turned; no string's iterator where own memory holds one. -/
structure Turned (M : List AB) (B : Nat) (w w' : World) : Prop where
  os : w'.os = w.os
  tape : w'.tape = w.tape
  output : w'.output = w.output
  size : w.heap.size ≤ w'.heap.size
  block : ∀ b, b < w.heap.size → w'.heap[b]? = w.heap[b]? ∨ (B ≤ b ∧ ∃ o : Obj, w.heap[b]? = some o ∧ o.isCells = false ∧ ((∀ s p, o ≠ .stringIter s p) ∨ ∀ ab ∈ M, ab.isIter = false))
section
variable {M : List AB} {β : Env} {w w' : World} {S : Nat → Prop} {B B' : Nat}
theorem Turned.cells (h : Turned M B w w') : CellsOn w w' := by
  intro b off u hu
  have hlt : b < w.heap.size := by
    rcases Nat.lt_or_ge b w.heap.size with h | h
    · exact h
    · unfold World.cell? at hu
      rw [Array.getElem?_eq_none h] at hu
      cases hu
  rcases h.block b hlt with h1 | ⟨_, o, h1, h2, _⟩
  · exact (World.cell?_of_block (a := ⟨b, off, none⟩) h1).trans hu
  · unfold World.cell? at hu
    rw [h1] at hu
    cases o <;> first | (cases h2; done) | (cases hu; done)
theorem Turned.imm (h : Turned M B w w') {b : Nat} (hb : immOf S B' M β w b) : immOf S B' M β w' b := ⟨hb.1, Nat.lt_of_lt_of_le hb.2.1 h.size, hb.2.2⟩
theorem Turned.live (h : Turned M B w w') (hm : MemSat S B' M β w) {b : Nat} (hl : live M β b) : w'.heap[b]? = w.heap[b]? := by
  rcases h.block b (hm.lt hl) with h1 | ⟨_, o, h1, h2, h3⟩
  · exact h1
  · exfalso
    obtain ⟨i, ab, c, hi, ha, hb⟩ := hl
    have he := hm.ent i ab hi
    cases ab with
    | gone => cases ha
    | box e cells => obtain ⟨g', c', cs, k1, k2, _⟩ := he; rw [hb] at k1; cases k1; rw [h1] at k2; cases k2; cases h2
    | iter s p =>
      obtain ⟨g', c', k1, k2⟩ := he; rw [hb] at k1; cases k1; rw [h1] at k2; cases k2
      rcases h3 with h3 | h3
      · exact h3 _ _ rfl
      · have := h3 _ (List.mem_of_getElem? hi)
        cases this
    | rowo v e k pre mo cells => obtain ⟨_, _, g', c', cs, k1, ⟨fz, k2, _⟩, _⟩ := he; rw [hb] at k1; cases k1; rw [h1] at k2; cases k2; cases h2
    | row v e k es =>
      rcases he.2 with ⟨k1, _⟩ | ⟨g', c', cs, k1, ⟨fz, k2, _⟩, _⟩
      · rw [hb] at k1; cases k1
      · rw [hb] at k1; cases k1; rw [h1] at k2; cases k2; cases h2
theorem EntSat.on {imm imm' : Nat → Prop} (hi : ∀ b, imm b → imm' b) (hc : CellsOn w w') {b : Option (Nat × Nat)} {ab : AB} (hb : ∀ g c, b = some (g, c) → ab.alive = true → w'.heap[g]? = w.heap[g]?) (h : EntSat M β w imm b ab) : EntSat M β w' imm' b ab := by
  cases ab with
  | gone => trivial
  | box e cells =>
    obtain ⟨g, c, cs, h1, h2, h3⟩ := h
    exact ⟨g, c, cs, h1, (hb g c h1 rfl).trans h2, AVsats.on hi hc _ _ h3⟩
  | iter s p =>
    obtain ⟨g, c, h1, h2⟩ := h
    exact ⟨g, c, h1, (hb g c h1 rfl).trans h2⟩
  | rowo v e k pre mo cells =>
    obtain ⟨h1, h2, g, cap, cs, h3, h4, h5, h6, h7, c1, c2, c3, h8, h9, h10⟩ := h
    exact ⟨h1, h2, g, cap, cs, h3, h4.ev (hb g cap h3 rfl), h5, h6, h7, c1, c2, c3, h8, DenCs.on hi hc _ _ h9, AVsats.on hi hc _ _ h10⟩
  | row v e k es =>
    refine ⟨h.1, ?_⟩
    rcases h.2 with h0 | ⟨g, cap, cs, h1, h2, h3, h4, h5, h6⟩
    · exact .inl h0
    · exact .inr ⟨g, cap, cs, h1, h2.ev (hb g cap h1 rfl), h3, h4, h5, DenCs.on hi hc _ _ h6⟩
theorem MemSat.turn (h : MemSat S B' M β w) (ht : Turned M B w w') : MemSat S B' M β w' :=
  ⟨Nat.le_trans h.lo ht.size, h.inj, fun i ab hi => EntSat.on (fun _ => ht.imm) ht.cells (fun g c hg ha => ht.live h ⟨i, ab, c, hi, ha, hg⟩) (h.ent i ab hi), h.own, fun p hp => ⟨ht.imm (h.gl p hp).1, fun j u hj => ht.cells _ _ _ ((h.gl p hp).2 j u hj)⟩⟩
theorem Ev.turn {M0 : List AB} {β0 : Env} {w0 : World} (h : Ev M0 β0 w0 M β w) (ht : Turned M B w w') (hB : w0.heap.size ≤ B) : Ev M0 β0 w0 M β w' :=
  ⟨ht.os.trans h.os, ht.tape.trans h.tape, ht.output.trans h.output, Nat.le_trans h.size ht.size, fun b hb hl => by
    rcases ht.block b (Nat.lt_of_lt_of_le hb h.size) with h1 | ⟨h1, _⟩
    · exact h1.trans (h.keep b hb hl)
    · omega, h.new, h.ent⟩
end

def SatF (cx : Cx) (M : List AB) (F : Nat → AV) (a : Act) (w : World) : Prop :=
  a.tmps.size = cx.N ∧ DefOk cx.w0.heap.size a.defers w ∧ ∃ β, MemSat cx.S cx.w0.heap.size M β w ∧ Ev cx.M0 cx.β0 cx.w0 M β w ∧
    ∀ d, AVsat M β w (immOf cx.S cx.w0.heap.size M β w) (F d) (a.tmps.getD d undef)
def Sat (cx : Cx) (s : AS) (a : Act) (w : World) : Prop := SatF cx s.M (look s.F) a w

/-- What an operand holds. -/
def aval (F : Nat → AV) : Operand → AV
  | .tmp t => F t
  | .const v => .val v
  | .global g => .val (.pointer (some ⟨g, 0, none⟩))
  | .func f => .cl f []

/-- One operation, on what its operands hold. -/
def AStep (P : Program) (o : Oper) (M : List AB) (ρ : Operand → AV) (M' : List AB) (out : AV) : Prop :=
  ∀ (S : Nat → Prop) (B : Nat) (β : Env) (a : Act) (w : World), MemSat S B M β w → (∀ x ∈ o.op.operands, AVsat M β w (immOf S B M β w) (ρ x) (a.eval x)) →
    ∀ (K : Act → World → Prop) (Q : Exit → Act → World → Prop),
      (∀ v β' w', Ev M β w M' β' w' → MemSat S B M' β' w' → AVsat M' β' w' (immOf S B M' β' w') out v → K (a.put o.dst v) w') → o.wp P a w K Q

theorem aval_sat {M : List AB} {F : Nat → AV} {a : Act} {w : World} {β : Env} {imm : Nat → Prop} (h : ∀ d, AVsat M β w imm (F d) (a.tmps.getD d undef)) : ∀ x, AVsat M β w imm (aval F x) (a.eval x)
  | .tmp t => h t
  | .const _ => rfl
  | .global _ => rfl
  | .func _ => ⟨#[], rfl, rfl⟩

end Go.Proofs.YtiolnmfaeenlmaaGreatDoor

/- The engine, part 3: regions: a run in the text's order serves every order that the edges allow. -/
namespace Go.Proofs.YtiolnmfaeenlmaaGreatDoor
open Go Go.RowKit

/-- The whole fence, for a frame of a round or for a plain one. -/
def Fen (L : Option Nat) : Fence := { Fence.wide with round := L }
theorem callsIn_fen {L : Option Nat} {n : Nat} {P : Program} {f : FuncId} {args : Array Value} {w : World} {R : Ending → World → Prop} (h : Calls P f args w R) : CallsIn (Fen L) n P f args w R :=
  (callsIn_wide (n := n)).2 h
theorem rowsIn_fen {L : Option Nat} {n : Nat} {P : Program} {row : String} {args : Array Value} {w : World} {R : Value → World → Prop} (h : Rows P row args w R) : RowsIn (Fen L) n P row args w R := by
  intro c cs _
  obtain ⟨v, w', r, s⟩ := h c cs
  exact ⟨v, w', r, stepsIn_wide.2 s⟩
theorem wpIn_of {L : Option Nat} {n : Nat} {P : Program} {o : Oper} {a : Act} {w : World} {K : Act → World → Prop} {Q : Exit → Act → World → Prop} (h : o.wp P a w (fun a' w' => a'.defers = a.defers ∧ K a' w') Q) : o.wpIn (Fen L) n P a w K Q := by
  refine ⟨fun _ _ => trivial, ?_⟩
  unfold Oper.wp at h
  by_cases hd : ∃ c, o.op = .defer c
  · obtain ⟨c, hc⟩ := hd
    have he : execOp a.eval o = (do let d ← resolve a.eval c o.type; pure (.defer d)) := by
      unfold execOp
      rw [hc]
    rw [he] at h
    have hs : ∃ r : Deferred → Sem Next, Oper.semAt (Fen L).round a.eval o = (do let d ← resolve a.eval c o.type; r d) := by
      cases L with
      | none => exact ⟨_, he⟩
      | some l =>
        refine ⟨fun d => do Instr.deferInRound l d; pure .skip, ?_⟩
        unfold Oper.semAt
        simp only [Fen, hc]
    obtain ⟨r, hs⟩ := hs
    rw [hs]
    simp only [Sem.run_bind] at h ⊢
    cases hr : (resolve a.eval c o.type).run P w with
    | ok d w' =>
      rw [hr] at h
      have h : ({ a with defers := d :: a.defers }.put o.dst undef).defers = a.defers ∧ _ := h
      have h := h.1
      cases ho : o.dst <;> rw [ho] at h <;> simp [Act.put] at h
    | halt x w' =>
      rw [hr] at h
      cases x <;> exact h
  · rw [Oper.semAt_eq _ _ _ fun c hc => hd ⟨c, hc⟩]
    revert h
    generalize (execOp a.eval o).run P w = r
    intro h
    cases r with
    | ok x w' =>
      cases x with
      | value v => exact h.2
      | skip => exact h.2
      | defer d => exact h.2
      | enter f args => exact ⟨fun h => (nomatch h), callsIn_fen (Calls.mono h fun e w'' he => by cases e <;> first | exact he.2 | exact he)⟩
      | row r args => exact ⟨fun h => (nomatch h), rowsIn_fen (Rows.mono h fun _ _ he => he.2)⟩
      | _ => exact h.elim
    | halt x w' => cases x <;> exact h

def upd (F : Nat → AV) (d : Option Tmp) (x : AV) : Nat → AV := match d with
  | some d => fun n => bif Nat.beq d n then x else F n
  | none => F
def dstB : Option Tmp → Nat → Bool
  | some d, N => Nat.blt d N
  | none, _ => true

/-- One operation, its guard and all. -/
def StepG (P : Program) (ops : Array Oper) (o : Oper) (M : List AB) (F : Nat → AV) (M' : List AB) (out : AV) : Prop :=
  ∀ (S : Nat → Prop) (B : Nat) (β : Env) (a : Act) (w : World), MemSat S B M β w → (∀ t ∈ o.looksAt ops, AVsat M β w (immOf S B M β w) (F t) (a.tmps.getD t undef)) →
    ∀ (K : Act → World → Prop) (Q : Exit → Act → World → Prop),
      (∀ v β' w', Ev M β w M' β' w' → MemSat S B M' β' w' → AVsat M' β' w' (immOf S B M' β' w') out v → K (a.put o.dst v) w') →
      if Region.wanted o (yielded ops a.tmps) then o.wp P a w K Q else K (a.put o.dst undef) w

/-- Two memories that agree at a mask's entries. -/
def Agree (m : Nat) (M M2 : List AB) : Prop := ∀ i, Nat.testBit m i = true → M2[i]? = M[i]?
/-- Even (2m): it turns nothing of ours, and looks at the mask's entries alone; odd (2m + 1): it turns none of the mask's entries. -/
def StepM (P : Program) (ops : Array Oper) (k : Nat) (o : Oper) (M : List AB) (F : Nat → AV) (M' : List AB) (out : AV) : Prop :=
  if k % 2 = 0 then M' = M ∧ ∀ M2 : List AB, Agree (k / 2) M M2 → StepG P ops o M2 F M2 out else Agree (k / 2) M M' ∧ StepG P ops o M F M' out

/-- 0: it looks at no memory · 1: it turns nothing of ours · 2: it may · 3: it adds an entry, and turns none · 4: it turns nothing of ours, and looks at the first entry alone · 5: it turns none of the first three entries · 6: it turns nothing of ours, and looks at the first three entries alone. -/
def StepK (P : Program) (ops : Array Oper) (k : Nat) (o : Oper) (M : List AB) (F : Nat → AV) (M' : List AB) (out : AV) : Prop :=
  match k with
  | 0 => M' = M ∧ ∀ M, StepG P ops o M F M out
  | 1 => M' = M ∧ StepG P ops o M F M out
  | 3 => (∃ ab, M' = M ++ [ab]) ∧ 0 < M.length ∧ StepG P ops o M F M' out
  | 4 => M' = M ∧ ∀ M2 : List AB, M2[0]? = M[0]? → StepG P ops o M2 F M2 out
  | 5 => M'.take 3 = M.take 3 ∧ StepG P ops o M F M' out
  | 6 => M' = M ∧ ∀ M2 : List AB, M2.take 3 = M.take 3 → StepG P ops o M2 F M2 out
  | 7 => M'.drop 1 = M.drop 1 ∧ StepG P ops o M F M' out
  | 8 => M' = M ∧ ∀ M2 : List AB, M2.drop 1 = M.drop 1 → StepG P ops o M2 F M2 out
  | k + 9 => StepM P ops k o M F M' out
  | _ => StepG P ops o M F M' out

def RunF (P : Program) (ops : Array Oper) (N : Nat) (fl : Nat → Nat) (K : List AB → (Nat → AV) → Prop) : List Nat → List AB → (Nat → AV) → Prop
  | [], M, F => K M F
  | i :: L, M, F => ∃ o M' out, ops[i]? = some o ∧ dstB o.dst N = true ∧ StepK P ops (fl i) o M F M' out ∧ RunF P ops N fl K L M' (upd F o.dst out)

section
variable {P : Program} {ops : Array Oper} {N : Nat} {fl : Nat → Nat} {K : List AB → (Nat → AV) → Prop}

theorem StepG.congr {o : Oper} {M M' : List AB} {F F' : Nat → AV} {out : AV} (hF : ∀ t ∈ o.looksAt ops, F' t = F t) (h : StepG P ops o M F M' out) : StepG P ops o M F' M' out :=
  fun S B β a w hm hs K Q hK => h S B β a w hm (fun t ht => by rw [← hF t ht]; exact hs t ht) K Q hK
theorem StepM.congr {k : Nat} {o : Oper} {M M' : List AB} {F F' : Nat → AV} {out : AV} (hF : ∀ t ∈ o.looksAt ops, F' t = F t) (h : StepM P ops k o M F M' out) : StepM P ops k o M F' M' out := by
  unfold StepM at *
  split at h
  · rename_i hk
    rw [if_pos hk]
    exact ⟨h.1, fun M2 h2 => (h.2 M2 h2).congr hF⟩
  · rename_i hk
    rw [if_neg hk]
    exact ⟨h.1, h.2.congr hF⟩
theorem StepK.congr {k : Nat} {o : Oper} {M M' : List AB} {F F' : Nat → AV} {out : AV} (hF : ∀ t ∈ o.looksAt ops, F' t = F t) (h : StepK P ops k o M F M' out) : StepK P ops k o M F' M' out := by
  unfold StepK at *
  split at h
  · exact ⟨h.1, fun M => (h.2 M).congr hF⟩
  · exact ⟨h.1, h.2.congr hF⟩
  · exact ⟨h.1, h.2.1, h.2.2.congr hF⟩
  · exact ⟨h.1, fun M2 h2 => (h.2 M2 h2).congr hF⟩
  · exact ⟨h.1, h.2.congr hF⟩
  · exact ⟨h.1, fun M2 h2 => (h.2 M2 h2).congr hF⟩
  · exact ⟨h.1, h.2.congr hF⟩
  · exact ⟨h.1, fun M2 h2 => (h.2 M2 h2).congr hF⟩
  · exact StepM.congr hF h
  · exact h.congr hF

def rdsB (k : Nat) : Bool := k == 1 || k == 4 || k == 6 || k == 8 || (Nat.ble 9 k && (k - 9) % 2 == 0)
theorem rdsB_stay {k : Nat} {o : Oper} {M M' : List AB} {F : Nat → AV} {out : AV} (hk : rdsB k = true) (h : StepK P ops k o M F M' out) : M' = M := by
  simp only [rdsB, Bool.or_eq_true, Bool.and_eq_true, beq_iff_eq] at hk
  rcases hk with (((rfl | rfl) | rfl) | rfl) | ⟨h9, h2⟩
  · exact h.1
  · exact h.1
  · exact h.1
  · exact h.1
  · obtain ⟨n, rfl⟩ : ∃ n, k = n + 9 := ⟨k - 9, by have := Nat.le_of_ble_eq_true h9; omega⟩
    rw [Nat.add_sub_cancel] at h2
    have h : StepM P ops n o M F M' out := h
    rw [StepM, if_pos h2] at h
    exact h.1
theorem stepM_rd {m : Nat} {o : Oper} {M M' : List AB} {F : Nat → AV} {out : AV} : StepK P ops (2 * m + 9) o M F M' out ↔ (M' = M ∧ ∀ M2 : List AB, Agree m M M2 → StepG P ops o M2 F M2 out) := by
  show StepM P ops (2 * m) o M F M' out ↔ _
  rw [StepM, if_pos (by omega), show 2 * m / 2 = m by omega]
theorem stepM_kp {m : Nat} {o : Oper} {M M' : List AB} {F : Nat → AV} {out : AV} : StepK P ops (2 * m + 1 + 9) o M F M' out ↔ (Agree m M M' ∧ StepG P ops o M F M' out) := by
  show StepM P ops (2 * m + 1) o M F M' out ↔ _
  rw [StepM, if_neg (by omega), show (2 * m + 1) / 2 = m by omega]

theorem upd_other {F : Nat → AV} {d : Option Tmp} {x : AV} {t : Nat} (h : d ≠ some t) : upd F d x t = F t := by
  cases d with
  | none => rfl
  | some d =>
    have : Nat.beq d t = false := by
      cases hb : Nat.beq d t
      · rfl
      · exact absurd (congrArg some (Nat.eq_of_beq_eq_true hb)) h
    simp [upd, this]
theorem upd_same (F : Nat → AV) (d : Nat) (x : AV) : upd F (some d) x d = x := by simp [upd]
theorem upd_comm {F : Nat → AV} {d e : Option Tmp} {x y : AV} (h : ∀ t, d = some t → e ≠ some t) : upd (upd F d x) e y = upd (upd F e y) d x := by
  funext n
  by_cases hd : d = some n
  · have he := h n hd
    rw [upd_other he, hd, upd_same, upd_same]
  · rw [upd_other (d := d) hd]
    by_cases he : e = some n
    · rw [he, upd_same, upd_same]
    · rw [upd_other he, upd_other he, upd_other hd]

/-- Two operations that do not mind each other. -/
structure Easy (ops : Array Oper) (fl : Nat → Nat) (i j : Nat) (oi oj : Oper) : Prop where
  w1 : ∀ d, oi.dst = some d → d ∉ oj.looksAt ops
  w2 : ∀ d, oj.dst = some d → d ∉ oi.looksAt ops
  w3 : ∀ d, oi.dst = some d → oj.dst ≠ some d
  m : fl i = 0 ∨ fl j = 0 ∨ (rdsB (fl i) = true ∧ rdsB (fl j) = true) ∨ (fl i = 3 ∧ fl j = 4) ∨ (fl i = 4 ∧ fl j = 3) ∨ (fl i = 5 ∧ fl j = 6) ∨ (fl i = 6 ∧ fl j = 5) ∨ (fl i = 7 ∧ fl j = 8) ∨ (fl i = 8 ∧ fl j = 7) ∨
    (∃ m m', fl i = 2 * m + 9 ∧ fl j = 2 * m' + 1 + 9 ∧ ∀ t, Nat.testBit m t = true → Nat.testBit m' t = true) ∨ (∃ m m', fl j = 2 * m + 9 ∧ fl i = 2 * m' + 1 + 9 ∧ ∀ t, Nat.testBit m t = true → Nat.testBit m' t = true)

theorem RunF.swap {i j : Nat} {L : List Nat} {M : List AB} {F : Nat → AV} (he : ∀ oi oj, ops[i]? = some oi → ops[j]? = some oj → Easy ops fl i j oi oj)
    (h : RunF P ops N fl K (i :: j :: L) M F) : RunF P ops N fl K (j :: i :: L) M F := by
  obtain ⟨oi, M1, x, h1, h2, h3, oj, M2, y, h4, h5, h6, h7⟩ := h
  have e := he oi oj h1 h4
  have hFj : ∀ t ∈ oj.looksAt ops, F t = upd F oi.dst x t := fun t ht => (upd_other fun hd => e.w1 t hd ht).symm
  have hFi : ∀ t ∈ oi.looksAt ops, upd F oj.dst y t = F t := fun t ht => upd_other fun hd => e.w2 t hd ht
  rw [upd_comm e.w3] at h7
  have h6' := h6.congr hFj
  have h3' := h3.congr hFi
  rcases e.m with hm | hm | ⟨hm, hn⟩ | ⟨hm, hn⟩ | ⟨hm, hn⟩ | ⟨hm, hn⟩ | ⟨hm, hn⟩ | ⟨hm, hn⟩ | ⟨hm, hn⟩ | ⟨m, m', hm, hn, hs⟩ | ⟨m, m', hn, hm, hs⟩
  · rw [hm] at h3 h3'
    obtain ⟨rfl, h8⟩ := h3
    refine ⟨oj, M2, y, h4, h5, h6', oi, M2, x, h1, h2, ?_, h7⟩
    rw [hm]; exact ⟨rfl, h3'.2⟩
  · rw [hm] at h6 h6'
    obtain ⟨rfl, h8⟩ := h6
    refine ⟨oj, M, y, h4, h5, ?_, oi, M2, x, h1, h2, h3', h7⟩
    rw [hm]; exact ⟨rfl, h6'.2⟩
  · have e1 := rdsB_stay hm h3
    have e2 := rdsB_stay hn h6
    subst e1
    subst e2
    exact ⟨oj, M2, y, h4, h5, h6', oi, M2, x, h1, h2, h3', h7⟩
  · -- an entry added, the first entry read
    rw [hm] at h3 h3'
    rw [hn] at h6 h6'
    obtain ⟨⟨ab, rfl⟩, hl, h8⟩ := h3
    obtain ⟨rfl, h9⟩ := h6'
    have e0 : (M ++ [ab])[0]? = M[0]? := List.getElem?_append_left hl
    refine ⟨oj, M, y, h4, h5, ?_, oi, M ++ [ab], x, h1, h2, ?_, h7⟩
    · rw [hn]; exact ⟨rfl, fun M2 h => h9 M2 (h.trans e0.symm)⟩
    · rw [hm]; exact ⟨⟨ab, rfl⟩, hl, h3'.2.2⟩
  · rw [hm] at h3 h3'
    rw [hn] at h6 h6'
    obtain ⟨rfl, h8⟩ := h3
    obtain ⟨⟨ab, rfl⟩, hl, h9⟩ := h6'
    have e0 : (M1 ++ [ab])[0]? = M1[0]? := List.getElem?_append_left hl
    refine ⟨oj, M1 ++ [ab], y, h4, h5, ?_, oi, M1 ++ [ab], x, h1, h2, ?_, h7⟩
    · rw [hn]; exact ⟨⟨ab, rfl⟩, hl, h9⟩
    · rw [hm]; exact ⟨rfl, fun M2 h => h3'.2 M2 (h.trans e0)⟩
  · rw [hm] at h3 h3'
    rw [hn] at h6 h6'
    obtain ⟨e0, h8⟩ := h3
    obtain ⟨rfl, h9⟩ := h6'
    refine ⟨oj, M, y, h4, h5, ?_, oi, _, x, h1, h2, ?_, h7⟩
    · rw [hn]; exact ⟨rfl, fun M2 h => h9 M2 (h.trans e0.symm)⟩
    · rw [hm]; exact ⟨e0, h3'.2⟩
  · rw [hm] at h3 h3'
    rw [hn] at h6 h6'
    obtain ⟨rfl, h8⟩ := h3
    obtain ⟨e0, h9⟩ := h6'
    refine ⟨oj, M2, y, h4, h5, ?_, oi, M2, x, h1, h2, ?_, h7⟩
    · rw [hn]; exact ⟨e0, h9⟩
    · rw [hm]; exact ⟨rfl, fun M3 h => h3'.2 M3 (h.trans e0)⟩
  · rw [hm] at h3 h3'
    rw [hn] at h6 h6'
    obtain ⟨e0, h8⟩ := h3
    obtain ⟨rfl, h9⟩ := h6'
    refine ⟨oj, M, y, h4, h5, ?_, oi, _, x, h1, h2, ?_, h7⟩
    · rw [hn]; exact ⟨rfl, fun M2 h => h9 M2 (h.trans e0.symm)⟩
    · rw [hm]; exact ⟨e0, h3'.2⟩
  · rw [hm] at h3 h3'
    rw [hn] at h6 h6'
    obtain ⟨rfl, h8⟩ := h3
    obtain ⟨e0, h9⟩ := h6'
    refine ⟨oj, M2, y, h4, h5, ?_, oi, M2, x, h1, h2, ?_, h7⟩
    · rw [hn]; exact ⟨e0, h9⟩
    · rw [hm]; exact ⟨rfl, fun M3 h => h3'.2 M3 (h.trans e0)⟩
  · rw [hm, stepM_rd] at h3 h3'
    rw [hn, stepM_kp] at h6 h6'
    obtain ⟨rfl, h8⟩ := h3
    obtain ⟨e0, h9⟩ := h6'
    refine ⟨oj, M2, y, h4, h5, ?_, oi, M2, x, h1, h2, ?_, h7⟩
    · rw [hn]; exact stepM_kp.2 ⟨e0, h9⟩
    · rw [hm]; exact stepM_rd.2 ⟨rfl, fun M3 h => h3'.2 M3 fun t ht => (h t ht).trans (e0 t (hs t ht))⟩
  · rw [hm, stepM_kp] at h3 h3'
    rw [hn, stepM_rd] at h6 h6'
    obtain ⟨e0, h8⟩ := h3
    obtain ⟨rfl, h9⟩ := h6'
    refine ⟨oj, M, y, h4, h5, ?_, oi, _, x, h1, h2, ?_, h7⟩
    · rw [hn]; exact stepM_rd.2 ⟨rfl, fun M2 h => h9 M2 fun t ht => (h t ht).trans (e0 t (hs t ht)).symm⟩
    · rw [hm]; exact stepM_kp.2 ⟨e0, h3'.2⟩

theorem RunF.front {i : Nat} {L2 : List Nat} : ∀ {L1 : List Nat} {M : List AB} {F : Nat → AV}, (∀ j ∈ L1, ∀ oj oi, ops[j]? = some oj → ops[i]? = some oi → Easy ops fl j i oj oi) →
    RunF P ops N fl K (L1 ++ i :: L2) M F → RunF P ops N fl K (i :: (L1 ++ L2)) M F
  | [], _, _, _, h => h
  | j :: L1, M, F, he, h => by
    obtain ⟨o, M', out, h1, h2, h3, h4⟩ := h
    have h5 := RunF.front (fun j hj => he j (by simp [hj])) h4
    exact RunF.swap (fun oj oi hj hi => he j (by simp) oj oi hj hi) ⟨o, M', out, h1, h2, h3, h5⟩

/-- The edges that bind in every order, as a mask of all that must go ahead. -/
def ancOf (masks : List Nat) (o : Oper) : Nat :=
  o.after.toList.foldl (fun m e => if Region.binds .any e then m ||| (1 <<< e.on) ||| masks.getD e.on 0 else m) 0
def ancs : List Oper → List Nat → List Nat
  | [], ms => ms
  | o :: r, ms => ancs r (ms ++ [ancOf ms o])

def slotsApart (ops : Array Oper) (x y : Oper) : Bool :=
  (match x.dst with
   | some d => !(y.looksAt ops).contains d && y.dst != some d
   | none => true) &&
  (match y.dst with
   | some d => !(x.looksAt ops).contains d
   | none => true)
def maskB (a b : Nat) : Bool := Nat.ble 9 a && (a - 9) % 2 == 0 && Nat.ble 9 b && (b - 9) % 2 == 1 && Nat.land ((a - 9) / 2) ((b - 9) / 2) == (a - 9) / 2
theorem maskB_spec {a b : Nat} (h : maskB a b = true) : ∃ m m', a = 2 * m + 9 ∧ b = 2 * m' + 1 + 9 ∧ ∀ t, Nat.testBit m t = true → Nat.testBit m' t = true := by
  simp only [maskB, Bool.and_eq_true, beq_iff_eq] at h
  obtain ⟨⟨⟨⟨h1, h2⟩, h3⟩, h4⟩, h5⟩ := h
  have h1 := Nat.le_of_ble_eq_true h1
  have h3 := Nat.le_of_ble_eq_true h3
  refine ⟨(a - 9) / 2, (b - 9) / 2, by omega, by omega, fun t ht => ?_⟩
  have := congrArg (Nat.testBit · t) h5
  have e : Nat.testBit ((a - 9) / 2 &&& (b - 9) / 2) t = Nat.testBit ((a - 9) / 2) t := this
  rw [Nat.testBit_and, ht, Bool.true_and] at e
  exact e
def memApart (a b : Nat) : Bool := a == 0 || b == 0 || (rdsB a && rdsB b) || (a == 3 && b == 4) || (a == 4 && b == 3) || (a == 5 && b == 6) || (a == 6 && b == 5) || (a == 7 && b == 8) || (a == 8 && b == 7) || maskB a b || maskB b a
/-- May the text's order stand for all orders? -/
def ordOK (ops : Array Oper) (fl : List Nat) (ms : List Nat) : Bool :=
  (List.range ops.size).all fun i => match ops[i]? with
    | none => true
    | some o => (o.after.all fun e => !Region.binds .any e || Nat.blt e.on i) && (ms.getD i 0 == ancOf (ms.take i) o) &&
      (List.range i).all fun j => Nat.testBit (ms.getD i 0) j || (match ops[j]? with
        | none => true
        | some o' => slotsApart ops o' o && memApart (fl.getD j 0) (fl.getD i 0))

theorem ancOf_bit {masks : List Nat} {o : Oper} {j : Nat} (h : Nat.testBit (ancOf masks o) j = true) : ∃ e ∈ o.after, Region.binds .any e = true ∧ (e.on = j ∨ Nat.testBit (masks.getD e.on 0) j = true) := by
  unfold ancOf at h
  have key : ∀ (l : List Edge) (m : Nat), Nat.testBit (l.foldl (fun m e => if Region.binds .any e then m ||| (1 <<< e.on) ||| masks.getD e.on 0 else m) m) j = true →
      Nat.testBit m j = true ∨ ∃ e ∈ l, Region.binds .any e = true ∧ (e.on = j ∨ Nat.testBit (masks.getD e.on 0) j = true) := by
    intro l
    induction l with
    | nil => exact fun m h => .inl h
    | cons e l ih =>
      intro m h
      rcases ih _ h with h1 | ⟨e', he', h2⟩
      · dsimp only at h1
        split at h1
        · rename_i hb
          rw [Nat.testBit_or, Nat.testBit_or, Bool.or_eq_true, Bool.or_eq_true] at h1
          rcases h1 with (h1 | h1) | h1
          · exact .inl h1
          · refine .inr ⟨e, by simp, hb, .inl ?_⟩
            rw [Nat.one_shiftLeft, Nat.testBit_two_pow] at h1
            simpa using h1
          · exact .inr ⟨e, by simp, hb, .inr h1⟩
        · exact .inl h1
      · exact .inr ⟨e', by simp [he'], h2⟩
  rcases key _ 0 h with h1 | ⟨e, he, h2⟩
  · simp at h1
  · exact ⟨e, by simpa using he, h2⟩

/-- What is done is done with all that went ahead of it. -/
def Closed (ops : Array Oper) (listed : Array Bool) : Prop :=
  ∀ j oj, ops[j]? = some oj → listed.getD j false = true → ∀ e ∈ oj.after, Region.binds .any e = true → listed.getD e.on false = true

theorem ordOK_at {flags ms : List Nat} (h : ordOK ops flags ms = true) {i : Nat} {o : Oper} (ho : ops[i]? = some o) :
    (∀ e ∈ o.after, Region.binds .any e = true → e.on < i) ∧ ms.getD i 0 = ancOf (ms.take i) o ∧ ∀ j oj, j < i → ops[j]? = some oj → Nat.testBit (ms.getD i 0) j = true ∨ (slotsApart ops oj o = true ∧ memApart (flags.getD j 0) (flags.getD i 0) = true) := by
  have hlt : i < ops.size := (Array.getElem?_eq_some_iff.1 ho).1
  have h1 := List.all_eq_true.1 h i (List.mem_range.2 hlt)
  rw [ho] at h1
  simp only [Bool.and_eq_true, beq_iff_eq] at h1
  obtain ⟨⟨h2, h3⟩, h4⟩ := h1
  refine ⟨fun e he hbd => ?_, h3, fun j oj hj hoj => ?_⟩
  · have := Array.all_eq_true_iff_forall_mem.1 h2 e he
    rw [hbd] at this
    simpa [Nat.blt_eq] using this
  · have h5 := List.all_eq_true.1 h4 j (List.mem_range.2 hj)
    rw [hoj] at h5
    simpa using h5

theorem anc_listed {flags ms : List Nat} (h : ordOK ops flags ms = true) {listed : Array Bool} (hc : Closed ops listed) : ∀ (i : Nat) (o : Oper), ops[i]? = some o →
    (∀ e ∈ o.after, Region.binds .any e = true → listed.getD e.on false = true) → ∀ j, Nat.testBit (ms.getD i 0) j = true → listed.getD j false = true := by
  intro i
  induction i using Nat.strongRecOn with
  | _ i ih =>
    intro o ho hall j hj
    obtain ⟨h1, h2, _⟩ := ordOK_at h ho
    rw [h2] at hj
    obtain ⟨e, he, hb, h3⟩ := ancOf_bit hj
    have hl := hall e he hb
    rcases h3 with h3 | h3
    · rw [← h3]; exact hl
    · have hlt := h1 e he hb
      have hi : i < ops.size := (Array.getElem?_eq_some_iff.1 ho).1
      have ho' : ops[e.on]? = some ops[e.on] := Array.getElem?_eq_getElem (by omega)
      have h4 : (ms.take i).getD e.on 0 = ms.getD e.on 0 := by
        rw [List.getD_eq_getElem?_getD, List.getD_eq_getElem?_getD, List.getElem?_take, if_pos hlt]
      rw [h4] at h3
      exact ih e.on hlt _ ho' (hc e.on _ ho' hl) j h3

theorem slotsApart_spec {x y : Oper} (h : slotsApart ops x y = true) : (∀ d, x.dst = some d → d ∉ y.looksAt ops) ∧ (∀ d, y.dst = some d → d ∉ x.looksAt ops) ∧ (∀ d, x.dst = some d → y.dst ≠ some d) := by
  unfold slotsApart at h
  rw [Bool.and_eq_true] at h
  refine ⟨fun d hd => ?_, fun d hd => ?_, fun d hd => ?_⟩
  · have h1 := h.1; rw [hd] at h1; simp at h1; exact h1.1
  · have h1 := h.2; rw [hd] at h1; simpa using h1
  · have h1 := h.1; rw [hd] at h1; simp at h1; exact h1.2
theorem memApart_spec {a b : Nat} (h : memApart a b = true) : a = 0 ∨ b = 0 ∨ (rdsB a = true ∧ rdsB b = true) ∨ (a = 3 ∧ b = 4) ∨ (a = 4 ∧ b = 3) ∨ (a = 5 ∧ b = 6) ∨ (a = 6 ∧ b = 5) ∨ (a = 7 ∧ b = 8) ∨ (a = 8 ∧ b = 7) ∨
    (∃ m m', a = 2 * m + 9 ∧ b = 2 * m' + 1 + 9 ∧ ∀ t, Nat.testBit m t = true → Nat.testBit m' t = true) ∨ (∃ m m', b = 2 * m + 9 ∧ a = 2 * m' + 1 + 9 ∧ ∀ t, Nat.testBit m t = true → Nat.testBit m' t = true) := by
  simp only [memApart, Bool.or_eq_true, Bool.and_eq_true, beq_iff_eq] at h
  rcases h with (((((((((h | h) | h) | h) | h) | h) | h) | h) | h) | h) | h
  · exact .inl h
  · exact .inr (.inl h)
  · exact .inr (.inr (.inl h))
  · exact .inr (.inr (.inr (.inl h)))
  · exact .inr (.inr (.inr (.inr (.inl h))))
  · exact .inr (.inr (.inr (.inr (.inr (.inl h)))))
  · exact .inr (.inr (.inr (.inr (.inr (.inr (.inl h))))))
  · exact .inr (.inr (.inr (.inr (.inr (.inr (.inr (.inl h)))))))
  · exact .inr (.inr (.inr (.inr (.inr (.inr (.inr (.inr (.inl h))))))))
  · exact .inr (.inr (.inr (.inr (.inr (.inr (.inr (.inr (.inr (.inl (maskB_spec h))))))))))
  · exact .inr (.inr (.inr (.inr (.inr (.inr (.inr (.inr (.inr (.inr (maskB_spec h))))))))))

/-- What holds of a slot after a store into it. -/
theorem upd_sat {M : List AB} {β : Env} {w : World} {imm : Nat → Prop} {F : Nat → AV} {a : Act} {d : Option Tmp} {x : AV} {v : Value} (hd : dstB d a.tmps.size = true)
    (hF : ∀ t, AVsat M β w imm (F t) (a.tmps.getD t undef)) (hx : AVsat M β w imm x v) : ∀ t, AVsat M β w imm (upd F d x t) ((a.put d v).tmps.getD t undef) := by
  intro t
  cases d with
  | none => exact hF t
  | some d =>
    have hlt : d < a.tmps.size := by simpa [dstB, Nat.blt_eq] using hd
    by_cases hdt : d = t
    · subst hdt
      rw [upd_same]
      simp only [Act.put, Array.getD_eq_getD_getElem?]
      rw [Array.getElem?_setIfInBounds_self_of_lt hlt]
      exact hx
    · rw [upd_other (by simpa using hdt)]
      have := hF t
      simp only [Act.put, Array.getD_eq_getD_getElem?] at this ⊢
      rw [Array.getElem?_setIfInBounds_ne hdt]
      exact this
theorem size_put (a : Act) (d : Option Tmp) (v : Value) : (a.put d v).tmps.size = a.tmps.size := by cases d <;> simp [Act.put]
theorem defers_put (a : Act) (d : Option Tmp) (v : Value) : (a.put d v).defers = a.defers := by cases d <;> simp [Act.put]

/-- One step of a body's state. -/
theorem StepG.sat {cx : Cx} (hN : cx.N = N) {o : Oper} {M M' : List AB} {F : Nat → AV} {out : AV} (hd : dstB o.dst N = true) (h : StepG cx.P ops o M F M' out) {a : Act} {w : World} (hs : SatF cx M F a w)
    {K : Act → World → Prop} {Q : Exit → Act → World → Prop} (hK : ∀ a' w', SatF cx M' (upd F o.dst out) a' w' → K a' w') :
    if Region.wanted o (yielded ops a.tmps) then o.wpIn (Fen cx.L) 0 cx.P a w K Q else (∀ f, o.about cx.P w a.eval = some f → (Fen cx.L).fn f) ∧ K (a.put o.dst undef) w := by
  obtain ⟨h1, h2, β, h3, h4, h5⟩ := hs
  have := h cx.S cx.w0.heap.size β a w h3 (fun t _ => h5 t) (fun a' w' => a'.defers = a.defers ∧ K a' w') Q fun v β' w' e1 e2 e3 => ⟨defers_put _ _ _,
    hK _ _ ⟨by rw [size_put, h1], by rw [defers_put]; exact h2.ev h3 e1, β', e2, h4.trans e1, upd_sat (by rw [h1, hN]; exact hd) (fun t => (h5 t).ev e1) e3⟩⟩
  split
  · rename_i hw; rw [if_pos hw] at this; exact wpIn_of this
  · rename_i hw; rw [if_neg hw] at this; exact ⟨fun _ _ => trivial, this.2⟩

theorem StepM.g {k : Nat} {o : Oper} {M M' : List AB} {F : Nat → AV} {out : AV} (h : StepM P ops k o M F M' out) : StepG P ops o M F M' out := by
  unfold StepM at h
  split at h
  · obtain ⟨rfl, h⟩ := h; exact h _ fun _ _ => rfl
  · exact h.2
theorem StepK.g {k : Nat} {o : Oper} {M M' : List AB} {F : Nat → AV} {out : AV} (h : StepK P ops k o M F M' out) : StepG P ops o M F M' out := by
  unfold StepK at h
  split at h
  · obtain ⟨rfl, h⟩ := h; exact h _
  · obtain ⟨rfl, h⟩ := h; exact h
  · exact h.2.2
  · obtain ⟨rfl, h⟩ := h; exact h _ rfl
  · exact h.2
  · obtain ⟨rfl, h⟩ := h; exact h _ rfl
  · exact h.2
  · obtain ⟨rfl, h⟩ := h; exact h _ rfl
  · exact h.g
  · exact h

/-- The region without a draw. -/
theorem RunF.in_order {cx : Cx} {Q : Exit → Act → World → Prop} (hQ : ∀ M F a w, K M F → SatF cx M F a w → Q .normal a w) (L : List Nat) : ∀ (M : List AB) (F : Nat → AV) (a : Act) (w : World),
    RunF cx.P ops cx.N fl K L M F → SatF cx M F a w → wpOpsIn (Fen cx.L) 0 cx.P ops Q L a w := by
  induction L with
  | nil => exact fun M F a w h hs => hQ M F a w h hs
  | cons i L ih =>
    rintro M F a w ⟨o, M', out, h1, h2, h3, h4⟩ hs
    unfold wpOpsIn
    rw [h1]
    exact StepG.sat rfl h2 h3.g hs fun a' w' hs' => ih _ _ a' w' h4 hs'

theorem RunF.any {cx : Cx} (hP : cx.P = P) (hN : cx.N = N) {Q : Exit → Act → World → Prop} {flags ms : List Nat} (hok : ordOK ops flags ms = true) (hfl : ∀ i, fl i = flags.getD i 0)
    (hQ : ∀ M F a w, K M F → SatF cx M F a w → Q .normal a w) : ∀ (fuel : Nat) (L : List Nat) (listed : Array Bool) (M : List AB) (F : Nat → AV) (a : Act) (w : World),
    L.length = fuel → listed.size = ops.size → List.Pairwise (· < ·) L → (∀ j, j < ops.size → (listed.getD j false = false ↔ j ∈ L)) → (∀ j ∈ L, j < ops.size) → Closed ops listed →
    RunF P ops N fl K L M F → SatF cx M F a w → wpAnyIn (Fen cx.L) 0 P .any ops Q fuel listed a w := by
  subst hP
  intro fuel
  induction fuel with
  | zero =>
    intro L listed M F a w hlen hsz _ hL _ _ h hs
    have : L = [] := List.eq_nil_of_length_eq_zero hlen
    subst this
    refine ⟨?_, hQ M F a w h hs⟩
    rw [List.eq_nil_iff_forall_not_mem]
    intro j hj
    obtain ⟨h1, o, h2, _⟩ := mem_ready.1 hj
    have hlt : j < ops.size := (Array.getElem?_eq_some_iff.1 h2).1
    have : listed.getD j false = false := by
      simp [hsz, hlt] at h1 ⊢; exact h1
    exact absurd ((hL j hlt).1 this) (by simp)
  | succ fuel ih =>
    intro L listed M F a w hlen hsz hp hL hlt hc h hs
    refine ⟨fun hr => ?_, fun i hi => ?_⟩
    · match L, hlen with
      | i :: L', _ =>
        have hi : i < ops.size := hlt i (by simp)
        have ho : ops[i]? = some ops[i] := Array.getElem?_eq_getElem hi
        have : i ∈ Region.ready .any ops listed := by
          refine mem_ready.2 ⟨?_, _, ho, fun e he hbd => ?_⟩
          · have := (hL i hi).2 (by simp)
            simp [hsz, hi] at this ⊢; exact this
          · have h1 := (ordOK_at hok ho).1 e he hbd
            cases hl : listed.getD e.on false with
            | true => rfl
            | false =>
              have := (hL e.on (by omega)).1 hl
              rcases List.mem_cons.1 this with h2 | h2
              · omega
              · have := (List.pairwise_cons.1 hp).1 _ h2; omega
        rw [hr] at this
        cases this
    · obtain ⟨h1, o, h2, h3⟩ := mem_ready.1 hi
      have hi' : i < ops.size := (Array.getElem?_eq_some_iff.1 h2).1
      have hun : listed.getD i false = false := by simp [hsz, hi'] at h1 ⊢; exact h1
      have hmem := (hL i hi').1 hun
      obtain ⟨L1, L2, hsplit⟩ := List.append_of_mem hmem
      subst hsplit
      have hanc := anc_listed hok hc i o h2 h3
      have hfront := RunF.front (fun j hj oj oi hoj hoi => by
        rw [h2] at hoi; cases hoi
        have hji : j < i := (List.pairwise_append.1 hp).2.2 j hj i (by simp)
        have hjn : listed.getD j false = false := (hL j (by omega)).2 (by simp [hj])
        rcases (ordOK_at hok h2).2.2 j oj hji hoj with h4 | ⟨h4, h5⟩
        · rw [hanc j h4] at hjn; cases hjn
        · obtain ⟨s1, s2, s3⟩ := slotsApart_spec h4
          exact ⟨s1, s2, s3, by rw [hfl, hfl]; exact memApart_spec h5⟩) h
      obtain ⟨o', M', out, k1, k2, k3, k4⟩ := hfront
      rw [h2] at k1; cases k1
      unfold wpOpIn
      rw [h2]
      refine StepG.sat hN k2 k3.g hs fun a' w' hs' => ?_
      refine ih (L1 ++ L2) _ _ _ a' w' (by simp at hlen ⊢; omega) (by simp [hsz]) ?_ (fun j hj => ?_) (fun j hj => hlt j (by simp at hj ⊢; rcases hj with h | h <;> simp [h])) ?_ k4 hs'
      · exact hp.sublist (by simp)
      · by_cases hji : i = j
        · subst hji
          have hno : i ∉ L1 ++ L2 := by
            have := List.pairwise_append.1 hp
            rw [List.mem_append]
            rintro (h4 | h4)
            · have := this.2.2 i h4 i (by simp); omega
            · have := (List.pairwise_cons.1 this.2.1).1 i h4; omega
          simp [hsz, hj, hno]
        · rw [getD_set_ne false hji, hL j hj]
          simp [Ne.symm hji]
      · intro j oj hoj hl e he hb
        by_cases hji : i = j
        · subst hji
          rw [h2] at hoj; cases hoj
          exact getD_set_true (h3 e he hb)
        · rw [getD_set_ne false hji] at hl
          exact getD_set_true (hc j oj hoj hl e he hb)

theorem wp_region_runF {cx : Cx} {id : Nat} {Q : Exit → Act → World → Prop} {M : List AB} {F : Nat → AV} {a : Act} {w : World} {flags ms : List Nat} (hm : cx.P.follows .mixedOrders = true)
    (hok : ordOK ops flags ms = true) (h : RunF cx.P ops cx.N (fun i => flags.getD i 0) K (List.range ops.size) M F) (hs : SatF cx M F a w)
    (hQ : ∀ M F a w, K M F → SatF cx M F a w → Q .normal a w) : (Code.region id ops true).wpIn (Fen cx.L) 0 cx.P Q a w := by
  refine wpIn_region_any hm ?_
  obtain ⟨h1, h2, β, h3, h4, h5⟩ := hs
  have hb : Below w.heap.size w w.drew := (Below.refl _ _).drew
  have he : Ev M β w M β w.drew := Ev.of_below hb
  refine RunF.any rfl rfl hok (fun _ => rfl) hQ ops.size (List.range ops.size) _ M F a _ (by simp) (by simp) List.pairwise_lt_range (fun j hj => ?_) (fun j hj => by simpa using hj) (fun j oj _ hl => ?_) h
    ⟨h1, h2.ev h3 he, β, h3.quiet hb, h4.trans he, fun d => (h5 d).ev he⟩
  · simp [hj]
  · rcases Nat.lt_or_ge j ops.size with hj | hj <;> simp [hj] at hl
end

end Go.Proofs.YtiolnmfaeenlmaaGreatDoor

/- The engine, part 4: bodies: the rules of code, calls by contract, the bodies' ends. -/
namespace Go.Proofs.YtiolnmfaeenlmaaGreatDoor
open Go Go.RowKit

def putF (F : List (Nat × AV)) (d : Option Tmp) (x : AV) : List (Nat × AV) := match d with
  | some d => (d, x) :: F
  | none => F
theorem look_putF (F : List (Nat × AV)) (d : Option Tmp) (x : AV) : look (putF F d x) = upd (look F) d x := by cases d <;> rfl

def Run (P : Program) (ops : Array Oper) (N : Nat) (K : AS → Prop) : List Oper → List Nat → AS → Prop
  | [], fl, s => fl = [] ∧ K s
  | o :: r, fl, s => ∃ k fl' M' out, fl = k :: fl' ∧ dstB o.dst N = true ∧ StepK P ops k o s.M (look s.F) M' out ∧ Run P ops N K r fl' ⟨M', putF s.F o.dst out⟩

section
variable {P : Program} {ops : Array Oper} {N : Nat} {K : AS → Prop} {o : Oper} {r : List Oper} {fl : List Nat} {s : AS}
theorem Run.done (h : K s) : Run P ops N K [] [] s := ⟨rfl, h⟩
theorem Run.pure_ {out : AV} (hd : dstB o.dst N = true) (hs : ∀ M, StepG P ops o M (look s.F) M out) (h : Run P ops N K r fl ⟨s.M, putF s.F o.dst out⟩) : Run P ops N K (o :: r) (0 :: fl) s :=
  ⟨0, fl, _, out, rfl, hd, ⟨rfl, hs⟩, h⟩
theorem Run.quiet {out : AV} (hd : dstB o.dst N = true) (hs : StepG P ops o s.M (look s.F) s.M out) (h : Run P ops N K r fl ⟨s.M, putF s.F o.dst out⟩) : Run P ops N K (o :: r) (1 :: fl) s :=
  ⟨1, fl, _, out, rfl, hd, ⟨rfl, hs⟩, h⟩
theorem Run.eff {M' : List AB} {out : AV} (hd : dstB o.dst N = true) (hs : StepG P ops o s.M (look s.F) M' out) (h : Run P ops N K r fl ⟨M', putF s.F o.dst out⟩) : Run P ops N K (o :: r) (2 :: fl) s :=
  ⟨2, fl, _, out, rfl, hd, hs, h⟩

theorem Run.push {ab : AB} {out : AV} (hd : dstB o.dst N = true) (hl : 0 < s.M.length) (hs : StepG P ops o s.M (look s.F) (s.M ++ [ab]) out) (h : Run P ops N K r fl ⟨s.M ++ [ab], putF s.F o.dst out⟩) : Run P ops N K (o :: r) (3 :: fl) s :=
  ⟨3, fl, _, out, rfl, hd, ⟨⟨ab, rfl⟩, hl, hs⟩, h⟩
theorem Run.first {M' : List AB} {out : AV} (hd : dstB o.dst N = true) (hM : M'.drop 1 = s.M.drop 1) (hs : StepG P ops o s.M (look s.F) M' out) (h : Run P ops N K r fl ⟨M', putF s.F o.dst out⟩) : Run P ops N K (o :: r) (7 :: fl) s :=
  ⟨7, fl, _, out, rfl, hd, ⟨hM, hs⟩, h⟩
theorem Run.rest {out : AV} (hd : dstB o.dst N = true) (hs : ∀ M2 : List AB, M2.drop 1 = s.M.drop 1 → StepG P ops o M2 (look s.F) M2 out) (h : Run P ops N K r fl ⟨s.M, putF s.F o.dst out⟩) : Run P ops N K (o :: r) (8 :: fl) s :=
  ⟨8, fl, _, out, rfl, hd, ⟨rfl, hs⟩, h⟩
theorem Run.rd {m : Nat} {out : AV} (hd : dstB o.dst N = true) (hs : ∀ M2 : List AB, Agree m s.M M2 → StepG P ops o M2 (look s.F) M2 out) (h : Run P ops N K r fl ⟨s.M, putF s.F o.dst out⟩) : Run P ops N K (o :: r) ((2 * m + 9) :: fl) s :=
  ⟨2 * m + 9, fl, _, out, rfl, hd, stepM_rd.2 ⟨rfl, hs⟩, h⟩
theorem Run.toF {fn : Nat → Nat} (l : List Oper) : ∀ (fl : List Nat) (s : AS) (i : Nat), (∀ j, l[j]? = ops[i + j]?) → (∀ j, fl.getD j 0 = fn (i + j)) → Run P ops N K l fl s →
    RunF P ops N fn (fun M F => ∃ G, F = look G ∧ K ⟨M, G⟩) (List.range' i l.length) s.M (look s.F) := by
  induction l with
  | nil => exact fun _ s _ _ _ h => ⟨s.F, rfl, h.2⟩
  | cons o l ih =>
    rintro fl s i h1 h2 ⟨k, fl', M', out, rfl, hd, hs, h⟩
    have h0 : ops[i]? = some o := by simpa using (h1 0).symm
    have hk : fn i = k := by simpa using (h2 0).symm
    refine ⟨o, M', out, h0, hd, by rw [hk]; exact hs, ?_⟩
    have := ih fl' ⟨M', putF s.F o.dst out⟩ (i + 1) (fun j => by have := h1 (j + 1); simpa [Nat.add_assoc, Nat.add_comm 1 j] using this)
      (fun j => by have := h2 (j + 1); simpa [Nat.add_assoc, Nat.add_comm 1 j] using this) h
    rw [look_putF] at this
    exact this
end

/-- Guards. -/
def dstOf (ops : Array Oper) (j : Nat) : Option Tmp := (ops[j]?).bind (·.dst)

section
variable {P : Program} {ops : Array Oper} {o : Oper} {M M' : List AB} {F : Nat → AV} {out : AV}
theorem mem_looksAt_tmp {t : Tmp} (h : Operand.tmp t ∈ o.op.operands) : t ∈ o.looksAt ops := by
  unfold Oper.looksAt
  rw [List.mem_append]
  refine .inl ?_
  rw [List.mem_filterMap]
  exact ⟨.tmp t, by simpa using h, rfl⟩
theorem avals_of {β : Env} {w : World} {imm : Nat → Prop} {a : Act} (h : ∀ t ∈ o.looksAt ops, AVsat M β w imm (F t) (a.tmps.getD t undef)) :
    ∀ x ∈ o.op.operands, AVsat M β w imm (aval F x) (a.eval x) := by
  intro x hx
  cases x with
  | tmp t => exact h t (mem_looksAt_tmp hx)
  | const _ => rfl
  | global _ => rfl
  | func _ => exact ⟨#[], rfl, rfl⟩
theorem guard_mem {j : Nat} {want : Bool} {g : Tmp} (hg : o.guard = some (j, want)) (hj : dstOf ops j = some g) : g ∈ o.looksAt ops := by
  unfold Oper.looksAt
  rw [List.mem_append]
  refine .inr ?_
  unfold dstOf at hj
  simp [hg, hj]
def boolOf : Value → Option Bool
  | .bool b => some b
  | _ => none
theorem yielded_of {a : Act} {j : Nat} {g : Tmp} {v : Value} (hj : dstOf ops j = some g) (hv : a.tmps.getD g undef = v) : yielded ops a.tmps j = boolOf v := by
  unfold yielded
  unfold dstOf at hj
  rw [hj]
  simp only [Option.bind_some]
  rw [Array.getD_eq_getD_getElem?] at hv
  cases ht : a.tmps[g]? with
  | none =>
    rw [ht] at hv
    subst hv
    rfl
  | some u =>
    rw [ht] at hv
    simp at hv
    subst hv
    cases u <;> rfl
theorem StepG.plain (hg : o.guard = none) (h : AStep P o M (aval F) M' out) : StepG P ops o M F M' out := by
  intro S B β a w hm hs K Q hK
  have hw : Region.wanted o (yielded ops a.tmps) = true := by simp [Region.wanted, hg]
  rw [if_pos hw]
  exact h S B β a w hm (avals_of hs) K Q hK
theorem StepG.on {j : Nat} {want : Bool} {g : Tmp} (hg : o.guard = some (j, want)) (hj : dstOf ops j = some g) (hF : F g = .val (.bool want)) (h : AStep P o M (aval F) M' out) : StepG P ops o M F M' out := by
  intro S B β a w hm hs K Q hK
  have h1 := hs g (guard_mem hg hj)
  rw [hF] at h1
  have hy := yielded_of (a := a) hj h1
  have hw : Region.wanted o (yielded ops a.tmps) = true := by simp [Region.wanted, hg, hy, boolOf]
  rw [if_pos hw]
  exact h S B β a w hm (avals_of hs) K Q hK
theorem StepG.off {j : Nat} {want : Bool} {g : Tmp} (hg : o.guard = some (j, want)) (hj : dstOf ops j = some g) (hF : F g = .val (.bool (!want))) : StepG P ops o M F M (.val undef) := by
  intro S B β a w hm hs K Q hK
  have h1 := hs g (guard_mem hg hj)
  rw [hF] at h1
  have hy := yielded_of (a := a) hj h1
  have hw : Region.wanted o (yielded ops a.tmps) = false := by simp [Region.wanted, hg, hy, boolOf]
  rw [hw]
  exact hK undef β w (Ev.refl _ _ _) hm rfl

def strip : AV → AV
  | .cnd _ x => x
  | x => x
def condOf : AV → Bool
  | .cnd c _ => c
  | _ => true
theorem strip_sat {M : List AB} {β : Env} {w : World} {imm : Nat → Prop} {x : AV} {v : Value} (hc : condOf x = true) (h : AVsat M β w imm x v) : AVsat M β w imm (strip x) v := by
  cases x <;> first | exact h | exact h.1 hc
/-- Are all that an operation looks at there, if it is carried out? -/
def condsOf (F : Nat → AV) : List Operand → Bool
  | [] => true
  | .tmp t :: r => condOf (F t) && condsOf F r
  | _ :: r => condsOf F r
theorem condsOf_mem {F : Nat → AV} {t : Tmp} : ∀ {l : List Operand}, condsOf F l = true → Operand.tmp t ∈ l → condOf (F t) = true
  | .tmp u :: r, h, hm => by
    rw [condsOf, Bool.and_eq_true] at h
    rcases List.mem_cons.1 hm with h1 | h1
    · cases h1; exact h.1
    · exact condsOf_mem h.2 h1
  | .const _ :: r, h, hm => by
    rcases List.mem_cons.1 hm with h1 | h1
    · cases h1
    · exact condsOf_mem (l := r) h h1
  | .global _ :: r, h, hm => by
    rcases List.mem_cons.1 hm with h1 | h1
    · cases h1
    · exact condsOf_mem (l := r) h h1
  | .func _ :: r, h, hm => by
    rcases List.mem_cons.1 hm with h1 | h1
    · cases h1
    · exact condsOf_mem (l := r) h h1
/-- The guard's own word, where it is not decided. -/
def guardOf (want : Bool) : AV → Option Bool
  | .val (.bool b) => some (b == want)
  | .cnd c (.val (.bool b)) => some (c && b == want)
  | _ => none
theorem StepG.cnd {j : Nat} {want c : Bool} {g : Tmp} (hg : o.guard = some (j, want)) (hj : dstOf ops j = some g) (hF : guardOf want (F g) = some c)
    (hc : c = true → condsOf F o.op.operands.toList = true) (h : c = true → AStep P o M (aval fun t => strip (F t)) M out) : StepG P ops o M F M (.cnd c out) := by
  intro S B β a w hm hs K Q hK
  have h1 := hs g (guard_mem hg hj)
  have hw : Region.wanted o (yielded ops a.tmps) = c := by
    unfold guardOf at hF
    split at hF
    · rename_i b hb
      rw [hb] at h1
      cases hF
      have hy := yielded_of (a := a) hj h1
      simp [Region.wanted, hg, hy, boolOf]
    · rename_i c' b hb
      rw [hb] at h1
      cases hF
      obtain ⟨h2, h3⟩ := h1
      cases c' with
      | true =>
        have hy := yielded_of (a := a) hj (h2 rfl)
        simp [Region.wanted, hg, hy, boolOf]
      | false =>
        have hy := yielded_of (a := a) hj (h3 rfl)
        simp [Region.wanted, hg, hy, undef, boolOf]
    · cases hF
  cases c with
  | false =>
    rw [hw]
    exact hK undef β w (Ev.refl _ _ _) hm ⟨(fun h => by cases h), fun _ => rfl⟩
  | true =>
    rw [hw, if_pos rfl]
    refine h rfl S B β a w hm (fun x hx => ?_) K Q fun v β' w' e1 e2 e3 => hK v β' w' e1 e2 ⟨fun _ => e3, (fun h => by cases h)⟩
    cases x with
    | tmp t => exact strip_sat (condsOf_mem (hc rfl) (by simpa using hx)) (hs t (mem_looksAt_tmp hx))
    | const _ => rfl
    | global _ => rfl
    | func _ => exact ⟨#[], rfl, rfl⟩
end

/-- A body's rule: from a state on, whatever comes, comes with what is asked. -/
def AWp (cx : Cx) (c : Code) (s : AS) (Q : Exit → AS → Prop) : Prop := ∀ a w, Sat cx s a w → c.wpIn (Fen cx.L) 0 cx.P (fun e a' w' => ∃ s', Q e s' ∧ Sat cx s' a' w') a w
def thenA (K : AS → Prop) (Q : Exit → AS → Prop) : Exit → AS → Prop
  | .normal, s => K s
  | e, s => Q e s
def blockA (id : Nat) (Q : Exit → AS → Prop) : Exit → AS → Prop
  | .exit id', s => bif Nat.beq id' id then Q .normal s else Q (.exit id') s
  | e, s => Q e s
/-- What is known may be known otherwise. -/
def Fits (cx : Cx) (s s' : AS) : Prop := ∀ a w, Sat cx s a w → Sat cx s' a w

section
variable {cx : Cx} {s : AS} {Q : Exit → AS → Prop}
theorem awp_fits {c : Code} {s' : AS} (h : Fits cx s s') (k : AWp cx c s' Q) : AWp cx c s Q := fun a w hs => k a w (h a w hs)
theorem awp_mono {c : Code} {Q' : Exit → AS → Prop} (h : AWp cx c s Q) (hq : ∀ e s, Q e s → Q' e s) : AWp cx c s Q' :=
  fun a w hs => wpIn_mono (h a w hs) fun _ _ _ ⟨s', h1, h2⟩ => ⟨s', hq _ _ h1, h2⟩
theorem awp_skip (h : Q .normal s) : AWp cx .skip s Q := fun _ _ hs => wpIn_skip ⟨s, h, hs⟩
theorem awp_ret (h : Q .ret s) : AWp cx .ret s Q := fun _ _ hs => wpIn_ret ⟨s, h, hs⟩
theorem awp_exit {id : Nat} (h : Q (.exit id) s) : AWp cx (.exit id) s Q := fun _ _ hs => wpIn_exit ⟨s, h, hs⟩
theorem awp_seq {x y : Code} (h : AWp cx x s (thenA (fun s' => AWp cx y s' Q) Q)) : AWp cx (.seq x y) s Q := by
  intro a w hs
  refine wpIn_seq (wpIn_mono (h a w hs) fun e a' w' ⟨s', h1, h2⟩ => ?_)
  cases e with
  | normal => exact h1 a' w' h2
  | exit id => exact ⟨s', h1, h2⟩
  | goto l => exact ⟨s', h1, h2⟩
  | ret => exact ⟨s', h1, h2⟩
  | panic c => exact ⟨s', h1, h2⟩
  | outgrown => exact ⟨s', h1, h2⟩
theorem awp_block {id : Nat} {c : Code} (h : AWp cx c s (blockA id Q)) : AWp cx (.block id c) s Q := by
  intro a w hs
  refine wpIn_block (wpIn_mono (h a w hs) fun e a' w' ⟨s', h1, h2⟩ => ?_)
  cases e with
  | exit id' =>
    by_cases hid : id' = id
    · subst hid
      simp only [Exit.inBlock, if_true]
      exact ⟨s', by simpa [blockA] using h1, h2⟩
    · have : Nat.beq id' id = false := by
        cases hb : Nat.beq id' id
        · rfl
        · exact absurd (Nat.eq_of_beq_eq_true hb) hid
      simp only [blockA, this, cond_false] at h1
      simp only [Exit.inBlock, hid, if_false]
      exact ⟨s', h1, h2⟩
  | normal => exact ⟨s', h1, h2⟩
  | goto l => exact ⟨s', h1, h2⟩
  | ret => exact ⟨s', h1, h2⟩
  | panic c => exact ⟨s', h1, h2⟩
  | outgrown => exact ⟨s', h1, h2⟩
theorem awp_cond {c : Operand} {x y : Code} {b : Bool} (hc : aval (look s.F) c = .val (.bool b)) (ht : b = true → AWp cx x s Q) (hf : b = false → AWp cx y s Q) : AWp cx (.cond c x y) s Q := by
  intro a w hs
  obtain ⟨h1, h2, β, h3, h4, h5⟩ := hs
  have hv : a.eval c = .bool b := by
    have := aval_sat (F := look s.F) h5 c
    rw [hc] at this
    exact this
  exact wpIn_cond_split hv (fun hb => ht hb a w ⟨h1, h2, β, h3, h4, h5⟩) (fun hb => hf hb a w ⟨h1, h2, β, h3, h4, h5⟩)
theorem awp_loop {σ : Type} {c : Code} (I : σ → AS) (μ : σ → Nat) (x0 : σ) (h0 : Fits cx s (I x0))
    (round : ∀ x, AWp cx c (I x) (thenA (fun s' => ∃ y, μ y < μ x ∧ Fits cx s' (I y)) Q)) : AWp cx (.loop c) s Q := by
  intro a w hs
  intro b k cs hro hb hr
  have key : ∀ n x a w, μ x = n → Sat cx (I x) a w →
      ∃ e a' w', (∃ s', Q e s' ∧ Sat cx s' a' w') ∧ ArrivesIn (Machine.fenced cx.P (Fen cx.L)) cx.P (lone (b.atR a (.code c :: .inLoop c :: k)) cs w) b k cs e a' w' := by
    intro n
    induction n using Nat.strongRecOn with
    | _ n ih =>
      intro x a w hn hx
      obtain ⟨e, a₁, w₁, ⟨s', h1, h2⟩, harr⟩ := round x a w hx b (.inLoop c :: k) cs hro hb hr
      cases e with
      | normal =>
        obtain ⟨y, hy, hf⟩ := h1
        obtain ⟨e₂, a₂, w₂, hq₂, harr₂⟩ := ih (μ y) (by omega) y a₁ w₁ rfl (hf a₁ w₁ h2)
        exact ⟨e₂, a₂, w₂, hq₂, .of_steps (StepsIn.trans harr (.one (fenced_calm hb hr rfl) stepR_inLoop)) harr₂⟩
      | exit id => exact ⟨_, a₁, w₁, ⟨s', h1, h2⟩, .pass (x := .inLoop c) rfl (fun _ _ => .inl (by simp)) harr⟩
      | goto l => exact ⟨_, a₁, w₁, ⟨s', h1, h2⟩, .pass (x := .inLoop c) rfl (fun _ _ => .inl (by simp)) harr⟩
      | ret => exact ⟨_, a₁, w₁, ⟨s', h1, h2⟩, .pass (x := .inLoop c) rfl (fun _ _ => .inl (by simp)) harr⟩
      | panic ch => exact ⟨_, a₁, w₁, ⟨s', h1, h2⟩, .pass (x := .inLoop c) rfl (fun _ _ => .inl (by simp)) harr⟩
      | outgrown => exact ⟨_, a₁, w₁, ⟨s', h1, h2⟩, .pass (x := .inLoop c) rfl (fun _ _ => .inl (by simp)) harr⟩
  obtain ⟨e, a', w', hq, harr⟩ := key _ x0 a w rfl (h0 a w hs)
  exact ⟨e, a', w', hq, .of_steps (.one (fenced_calm hb hr rfl) stepR_loop) harr⟩
end

end Go.Proofs.YtiolnmfaeenlmaaGreatDoor
