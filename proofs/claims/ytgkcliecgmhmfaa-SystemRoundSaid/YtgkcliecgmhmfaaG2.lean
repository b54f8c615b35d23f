/- The engine: ranges over slices.Backward. -/
import Derived.RangeFuncFrom
import Derived.Test.YtgkcliecgmhmfaaG1
namespace Go.Proofs.Ytgkcliecgmhmfaa
open Go Go.RowKit

def iD (i : Int) : D := .val (.int .i64 i)
/-- What the closure of slices.Backward promises. -/
def BackSeq (P : Program) (f : FuncId) (k : Nat) (es : List D) (n : Nat) (val : Fin n → Value) : Prop :=
  ∀ (g0 off0 : Nat) (w : World) (imm : Nat → Prop) (sv : Value), imm g0 → w.cell? ⟨g0, off0, none⟩ = some sv → DenC w imm (.sl k es) [sv] →
    SeqStopsK Fence.wide 1 P f #[.pointer (some ⟨g0, off0, none⟩)] (fun x : Fin n => #[.int .i64 (x.1 : Int), val x]) (fun A B => ∀ b, imm b → B.heap[b]? = A.heap[b]?) (fun ys => ys = revs n) (fun pre => ∃ k, k ≤ n ∧ pre = (revs n).take k) n w

theorem den_ints {w : World} {imm : Nat → Prop} : ∀ {zs : List Int} {rows : List Value}, DenCs w imm (zs.map iD) rows → rows = zs.map (Value.int .i64)
  | [], _, h => h
  | z :: zs, _, ⟨c1, c2, h1, h2, h3⟩ => by rw [h1, h2.1, den_ints h3]; rfl
theorem below_cells {n₀ : Nat} {A B : World} (h : Below n₀ A B) {b off : Nat} (hb : b < n₀) : B.cell? ⟨b, off, none⟩ = A.cell? ⟨b, off, none⟩ := h.cell (p := ⟨b, off, none⟩) hb
theorem cell_lt {w : World} {b off : Nat} {u : Value} (hu : w.cell? ⟨b, off, none⟩ = some u) : b < w.heap.size := by
  rcases Nat.lt_or_ge b w.heap.size with h | h
  · exact h
  · unfold World.cell? at hu
    rw [Array.getElem?_eq_none h] at hu
    cases hu
theorem back_ints (zs : List Int) : BackSeq Try.prog 45 1 (zs.map iD) zs.length (fun x => .int .i64 zs[x.1]) := by
  intro g0 off0 w imm sv hi hsv hd l J Jx W hW _ _ hY h0
  obtain ⟨A, n, c, h1, h2, h3, h4, h5, h6⟩ := hd
  cases h1
  rw [List.length_map] at h2
  have hc0 := (below_cells hW (cell_lt hsv)).trans hsv
  rcases Nat.eq_zero_or_pos n with hz | hp
  · have hz' : zs.length = 0 := by omega
    rw [hz] at hc0
    refine (back_ints_nil l g0 off0 c A (fun W => J [] W) W hc0 h0).mono fun e W' ⟨he, hj⟩ => ⟨he, .inl ⟨[], ?_, hj⟩⟩
    have : (revs zs.length).length = 0 := by rw [revs_len, hz']
    exact (List.eq_nil_of_length_eq_zero this).symm
  · obtain ⟨g, off, rows, k1, k2, k3, k4⟩ := h6 hp
    have k5 := den_ints k3
    subst k5
    rw [k1, h2] at hc0
    have hcells : ∀ j (hj : j < zs.length), w.cell? ⟨g, off + j, none⟩ = some (.int .i64 zs[j]) := fun j hj => k4 j _ (by rw [List.getElem?_map, List.getElem?_eq_getElem hj]; rfl)
    refine back_ints_in l g0 off0 g off c zs (by have e : maxLen = 9223372036854775807 := rfl; omega) _ (fun A B h => World.cell?_of_block (a := ⟨g0, off0, none⟩) (h g0 hi)) (fun A B j h => World.cell?_of_block (a := ⟨g, off + j, none⟩) (h g k2)) J Jx hY W hc0 (fun j hj => ?_) h0
    exact (below_cells hW (cell_lt (hcells j hj))).trans (hcells j hj)

theorem wpIn_n {L : Option Nat} {n m : Nat} {P : Program} {c : Code} {Q : Exit → Act → World → Prop} {a : Act} {w : World} (h : c.wpIn (Fen L) n P Q a w) : c.wpIn (Fen L) m P Q a w :=
  fun b k cs hro hb _ => h b k cs hro hb (fun _ hd => by cases hd)
theorem DefOk.ne {B D : Nat} {w : World} (hD : w.heap.size ≤ D) : ∀ {ds : List Deferred}, DefOk B ds w → ∀ d' ∈ ds, d' ≠ { target := .collected D, args := #[] }
  | [], _, d', h => by cases h
  | _ :: _, ⟨⟨D', h1, h2, h3, h4⟩, h5⟩, d', h => by
    rcases List.mem_cons.1 h with rfl | h
    · rw [h1]
      intro e
      injection e with e
      injection e with e
      have := heap_lt h3
      omega
    · exact DefOk.ne hD h5 d' h
section
variable {M : List AB} {β : Env} {w w' : World} {S : Nat → Prop} {B : Nat}
def NoIter (M : List AB) : Prop := ∀ ab ∈ M, ab.isIter = false
theorem MemSat.up (hm : MemSat S B M β w) : MemSat (fun b => S b ∨ B ≤ b) w.heap.size M β w :=
  have hi0 : ∀ b, immOf S B M β w b → immOf (fun b => S b ∨ B ≤ b) w.heap.size M β w b := fun b hb => ⟨.inl hb.1, hb.2⟩
  ⟨Nat.le_refl _, hm.inj, fun i ab hi => EntSat.on hi0 (fun _ _ _ h => h) (fun _ _ _ _ => rfl) (hm.ent i ab hi), fun b hl => .inl (hm.own b hl)⟩
theorem MemSat.down {B' : Nat} (hB : B ≤ B') (hB2 : B' ≤ w.heap.size) (hm : MemSat (fun b => S b ∨ B ≤ b) B' M β w) : MemSat S B M β w :=
  have hi0 : ∀ b, immOf (fun b => S b ∨ B ≤ b) B' M β w b → immOf S B M β w b := fun b hb => ⟨hb.1.elim id (fun h => .inr (Nat.le_trans hB h)), hb.2⟩
  ⟨Nat.le_trans hB hB2, hm.inj, fun i ab hi => EntSat.on hi0 (fun _ _ _ h => h) (fun _ _ _ _ => rfl) (hm.ent i ab hi), fun b hl => (hm.own b hl).elim id (fun h => .inr (Nat.le_trans hB h))⟩
theorem MemSat.cells_live (hm : MemSat S B M β w) (hn : NoIter M) {k : Nat} {o : Obj} (hk : w.heap[k]? = some o) (ho : o.isCells = false) : ¬ live M β k := by
  rintro ⟨i, ab, c, hi, ha, hb⟩
  have he := hm.ent i ab hi
  cases ab with
  | gone => cases ha
  | box e cells => obtain ⟨g', c', cs, h1, h2, _⟩ := he; rw [hb] at h1; cases h1; rw [hk] at h2; cases h2; cases ho
  | iter s p => have := hn _ (List.mem_of_getElem? hi); cases this
  | rowo v e k pre cells => obtain ⟨_, _, g', c', cs, h1, ⟨fz, h2, _⟩, _⟩ := he; rw [hb] at h1; cases h1; rw [hk] at h2; cases h2; cases ho
  | row v e k es =>
    rcases he.2 with ⟨h1, _⟩ | ⟨g', c', cs, h1, ⟨fz, h2, _⟩, _⟩
    · rw [hb] at h1; cases h1
    · rw [hb] at h1; cases h1; rw [hk] at h2; cases h2; cases ho
theorem turned_of_grown {B' : Nat} {row : Option Nat} (hn : NoIter M) (hg : w.grownBy w' row) (hr : ∀ r, row = some r → B' ≤ r ∧ ∃ o : Obj, w.heap[r]? = some o ∧ o.isCells = false) : Turned M B' w w' :=
  ⟨hg.os, hg.tape, hg.output, hg.size, fun b hb => by
    by_cases e : row = some b
    · obtain ⟨h1, o, h2, h3⟩ := hr b e
      exact .inr ⟨h1, o, h2, h3, .inr hn⟩
    · exact .inl (hg.block b hb (Ne.symm e))⟩
end

/-- A range over a slice from behind: whatever the body does, it is known what it makes of own memory; it may return. -/
theorem a_back {P : Program} {N : Nat} {S : Nat → Prop} {w0 : World} {M0 M : List AB} {β0 : Env} {F : List (Nat × AV)} {Q : Exit → AS → Prop} {f : FuncId} {k n : Nat} {es : List D} {val : Fin n → Value} (hseq : BackSeq P f k es n val) (hcall : Callable P f)
    {g : Operand} {p q dd : Tmp} {assign body : Code} (hg : aval (look F) g = .cl f [.dptr [.sl k es]]) (hpN : (Nat.blt p N && Nat.blt q N) = true) (upF : Fin n → List (Nat × AV)) (a₁ : Act → Fin n → Act)
    (hassign : ∀ (l : Nat) (a : Act) (x : Fin n) (W : World) (K : Act → World → Prop), K (a₁ a x) W → assign.wpIn (Fen (some l)) 0 P (Exit.then K (fun _ _ _ => False)) { tmps := (a.tmps.setIfInBounds p (.int .i64 (x.1 : Int))).setIfInBounds q (val x), defers := [] } W)
    (ha₁ : ∀ (a : Act) (x : Fin n), a.tmps.size = N → (a₁ a x).tmps.size = N ∧ (a₁ a x).defers = [] ∧ ∀ (M : List AB) (β : Env) (w : World) (imm : Nat → Prop), (∀ d, AVsat M β w imm (look F d) (a.tmps.getD d undef)) → ∀ d, AVsat M β w imm (look (upF x) d) ((a₁ a x).tmps.getD d undef))
    (Mf Mx : List (Fin n) → List AB) (Good GoodX : List (Fin n) → Prop) (hM : Mf [] = M) (hn : ∀ pre, NoIter (Mf pre)) (hnx : ∀ pre, NoIter (Mx pre)) (h0 : Good [])
    (hbody : ∀ (l : Nat) (S : Nat → Prop) (w1 : World) (β1 : Env) (pre : List (Fin n)) (x : Fin n), Good pre → pre.length < n → AWp ⟨P, N, S, w1, Mf pre, β1, some l⟩ body ⟨Mf pre, upF x⟩
      (fun e s' => (e = .normal ∧ Good (pre ++ [x]) ∧ ∃ F', Fits ⟨P, N, S, w1, Mf pre, β1, some l⟩ s' ⟨Mf (pre ++ [x]), F'⟩) ∨ (e = .ret ∧ GoodX (pre ++ [x]) ∧ ∃ F', Fits ⟨P, N, S, w1, Mf pre, β1, some l⟩ s' ⟨Mx (pre ++ [x]), F'⟩)))
    (hdone : Good (revs n) → Q .normal ⟨Mf (revs n), F⟩) (hstop : ∀ k, k ≤ n → GoodX ((revs n).take k) → Q .ret ⟨Mx ((revs n).take k), F⟩) :
    AWp ⟨P, N, S, w0, M0, β0, none⟩ (.rangeFunc g #[p, q] assign body) ⟨M, F⟩ Q := by
  subst hM
  rintro a w ⟨h1, h2, β, h3, h4, h5⟩
  simp only at h1 h2 h3 h4 h5
  have hgv := aval_sat (F := look F) h5 g
  rw [hg] at hgv
  obtain ⟨cs, hv, v, r, hcs, ⟨g0, off0, cs', hv2, himm, ⟨sv, r', hcs', hsl, hr'⟩, hcell⟩, hr⟩ := hgv
  have hr : r = [] := hr
  have hr' : r' = [] := hr'
  subst hr hr' hv2
  have ecs : cs = #[.pointer (some ⟨g0, off0, none⟩)] := Array.toList_inj.1 hcs
  subst ecs
  have hsv := hcell 0 sv (by rw [hcs']; rfl)
  let Imm := immOf S w0.heap.size (Mf []) β w
  refine wpIn_n (n := 2) (wpIn_rangeFunc_ownF (F := Fence.wide) (n := 2) (Kp := fun A B => ∀ b, Imm b → B.heap[b]? = A.heap[b]?) rfl (by decide) hv trivial (fun args w => hcall args w) (hseq g0 off0 w Imm sv himm hsv hsl)
    (fun h k b hb => (k b hb).trans (h b hb)) (fun W l o o' hl _ _ _ b hb => World.putObj_heap_other (by have := hb.2.1; omega)) (Below.refl _ _) (fun _ => rfl)
    (fun pre W => Good pre ∧ ∃ β', MemSat S w0.heap.size (Mf pre) β' W ∧ Ev (Mf []) β w (Mf pre) β' W) (fun c pre W => c = .ret ∧ GoodX pre ∧ ∃ β', MemSat S w0.heap.size (Mx pre) β' W ∧ Ev (Mf []) β w (Mx pre) β' W)
    ?_ ?_ ⟨h0, β, h3, Ev.refl _ _ _⟩ (a₁ a) (fun l x W K hK => ?_) (fun l pre x W hI hlen => ?_) (fun D xs W hD hS hI hheap => ?_) (fun D c pre W hD hSp hI hheap => ?_))
  · rintro pre W W' row ⟨k0, β', k1, k2⟩ hg hr
    have ht := turned_of_grown (hn pre) hg hr
    exact ⟨k0, β', k1.turn ht, k2.turn ht (Nat.le_refl _)⟩
  · rintro c pre W W' row ⟨k00, k0, β', k1, k2⟩ hg hr
    have ht := turned_of_grown (hnx pre) hg hr
    exact ⟨k00, k0, β', k1.turn ht, k2.turn ht (Nat.le_refl _)⟩
  · have := hassign l a x W K hK
    change assign.wpIn (Fen (some l)) _ _ _ _ _
    simpa using this
  · obtain ⟨hgood, β', hm, he⟩ := hI
    obtain ⟨e1, e2, e3⟩ := ha₁ a x h1
    have hBW : w0.heap.size ≤ W.heap.size := hm.lo
    have hs : Sat ⟨P, N, fun b => S b ∨ w0.heap.size ≤ b, W, Mf pre, β', some l⟩ ⟨Mf pre, upF x⟩ (a₁ a x) W := by
      refine ⟨e1, by rw [e2]; trivial, β', hm.up, Ev.refl _ _ _, ?_⟩
      refine e3 _ _ _ _ fun d => ?_
      exact AVsat.on (fun b hb => ⟨.inl hb.1, hb.2⟩) (fun _ _ _ h => h) _ _ ((h5 d).ev he)
    refine wpIn_mono (hbody l _ W β' pre x hgood hlen _ _ hs) fun e a3 W3 ⟨s', hq, hs'⟩ => ?_
    have key : ∀ M3 F3 β3, Sat ⟨P, N, fun b => S b ∨ w0.heap.size ≤ b, W, Mf pre, β', some l⟩ s' a3 W3 → MemSat (fun b => S b ∨ w0.heap.size ≤ b) W.heap.size M3 β3 W3 → Ev (Mf pre) β' W M3 β3 W3 →
        (F3 : List (Nat × AV)) = F3 → KeepsOthers W W3 ∧ (∀ b, Imm b → W3.heap[b]? = W.heap[b]?) ∧ MemSat S w0.heap.size M3 β3 W3 ∧ Ev (Mf []) β w M3 β3 W3 := by
      intro M3 F3 β3 _ hm3 he3 _
      refine ⟨⟨he3.size, fun k o hk ho => (he3.keep k (heap_lt hk) (hm.cells_live (hn pre) hk ho)).trans hk⟩, fun b hb => he3.keep b (Nat.lt_of_lt_of_le hb.2.1 he.size) fun hl => ?_, hm3.down hBW he3.size, he.trans he3⟩
      rcases he.new b hl with h | h
      · exact hb.2.2 h
      · have := hb.2.1; omega
    rcases hq with ⟨rfl, hg', F', hfits⟩ | ⟨rfl, hg', F', hfits⟩
    · obtain ⟨_, _, β3, hm3, he3, _⟩ := hfits _ _ hs'
      obtain ⟨q1, q2, q3, q4⟩ := key _ F' β3 hs' hm3 he3 rfl
      exact ⟨q1, q2, hg', β3, q3, q4⟩
    · obtain ⟨_, _, β3, hm3, he3, _⟩ := hfits _ _ hs'
      obtain ⟨q1, q2, q3, q4⟩ := key _ F' β3 hs' hm3 he3 rfl
      exact ⟨q1, rfl, hg', β3, q3, q4⟩
  · obtain ⟨hgood, β', hm, he⟩ := hI
    subst hS
    exact ⟨_, hdone hgood, h1, ⟨⟨D, rfl, Nat.le_trans h3.lo hD, hheap, h2.ne hD⟩, h2.ev h3 he⟩, β', hm, h4.trans he, fun d => (h5 d).ev he⟩
  · obtain ⟨rfl, hgood, β', hm, he⟩ := hI
    obtain ⟨k, hk, rfl⟩ := hSp
    refine wpIn_ret ⟨_, hstop k hk hgood, h1, ⟨⟨D, rfl, Nat.le_trans h3.lo hD, hheap, h2.ne hD⟩, h2.ev h3 he⟩, β', hm, h4.trans he, fun d => (h5 d).ev he⟩
end Go.Proofs.Ytgkcliecgmhmfaa
