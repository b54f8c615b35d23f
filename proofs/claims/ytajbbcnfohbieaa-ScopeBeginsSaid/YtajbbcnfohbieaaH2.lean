/- The engine: ranges over slices.Backward of counters; what a round takes may be boxed. -/
import Derived.RangeFuncFrom
import Derived.Test.YtajbbcnfohbieaaH1
import Derived.Test.YtajbbcnfohbieaaU
namespace Go.Proofs.Ytajbbcnfohbieaa
open Go Go.RowKit

/-- What the closure of slices.Backward promises. -/
def BackSeq (P : Program) (f : FuncId) (k : Nat) (es : List D) (n : Nat) (val : Fin n → Value) : Prop :=
  ∀ (g0 off0 : Nat) (w : World) (imm : Nat → Prop) (sv : Value), imm g0 → w.cell? ⟨g0, off0, none⟩ = some sv → DenC w imm (.sl k es) [sv] →
    SeqStopsK Fence.wide 1 P f #[.pointer (some ⟨g0, off0, none⟩)] (fun x : Fin n => #[.int .i64 (x.1 : Int), val x]) (fun A B => ∀ b, imm b → B.heap[b]? = A.heap[b]?) (fun ys => ys = revs n) (fun pre => ∃ k, k ≤ n ∧ pre = (revs n).take k) n w
theorem below_cells {n₀ : Nat} {A B : World} (h : Below n₀ A B) {b off : Nat} (hb : b < n₀) : B.cell? ⟨b, off, none⟩ = A.cell? ⟨b, off, none⟩ := h.cell (p := ⟨b, off, none⟩) hb
theorem cell_lt {w : World} {b off : Nat} {u : Value} (hu : w.cell? ⟨b, off, none⟩ = some u) : b < w.heap.size := by
  rcases Nat.lt_or_ge b w.heap.size with h | h
  · exact h
  · unfold World.cell? at hu
    rw [Array.getElem?_eq_none h] at hu
    cases hu
theorem den_ctr {w : World} {imm : Nat → Prop} {c : Ctr} {cs : List Value} (h : DenC w imm (cD c) cs) : cs = [.string c.name, .int .i64 c.of, .int .i64 c.n, .bool c.rev] := by
  obtain ⟨_, _, h1, ⟨h2, _⟩, _, _, h3, ⟨h4, _⟩, _, _, h5, ⟨h6, _⟩, _, _, h7, ⟨h8, _⟩, h9⟩ := h
  have h9 : _ = [] := h9
  subst h9 h8 h7 h6 h5 h4 h3 h2 h1
  rfl
theorem allW_ctr (zs : List Ctr) : AllW 4 (zs.map cD) := by
  intro d hd
  obtain ⟨c, _, rfl⟩ := List.mem_map.1 hd
  rfl
theorem rows_ctr {w : World} {imm : Nat → Prop} {zs : List Ctr} {rows : List Value} (h : DenCs w imm (zs.map cD) rows) {j : Nat} (hj : j < zs.length) :
    rows[j * 4]? = some (.string zs[j].name) ∧ rows[j * 4 + 1]? = some (.int .i64 zs[j].of) ∧ rows[j * 4 + 2]? = some (.int .i64 zs[j].n) ∧ rows[j * 4 + 3]? = some (.bool zs[j].rev) := by
  have := den_ctr (DenCs.at_ (k := 4) (i := j) (d := cD zs[j]) h (allW_ctr zs) (by rw [List.getElem?_map, List.getElem?_eq_getElem hj]; rfl))
  have key : ∀ i, i < 4 → rows[j * 4 + i]? = ([Value.string zs[j].name, .int .i64 zs[j].of, .int .i64 zs[j].n, .bool zs[j].rev] : List Value)[i]? := fun i hi => by
    rw [← this, List.getElem?_take_of_lt hi, List.getElem?_drop]
  exact ⟨key 0 (by omega), key 1 (by omega), key 2 (by omega), key 3 (by omega)⟩
theorem back_ctrs (zs : List Ctr) : BackSeq Try.prog 31 4 (zs.map cD) zs.length (fun x => cV zs[x.1]) := by
  intro g0 off0 w imm sv hi hsv hd l J Jx W hW _ _ hY h0
  obtain ⟨A, n, c, h1, h2, h3, h4, h5, h6⟩ := hd
  cases h1
  rw [List.length_map] at h2
  have hc0 := (below_cells hW (cell_lt hsv)).trans hsv
  rcases Nat.eq_zero_or_pos n with hz | hp
  · have hz' : zs.length = 0 := by omega
    rw [hz] at hc0
    refine (back_ctrs_nil l g0 off0 c A (fun W => J [] W) W hc0 h0).mono fun e W' ⟨he, hj⟩ => ⟨he, .inl ⟨[], ?_, hj⟩⟩
    have : (revs zs.length).length = 0 := by rw [revs_len, hz']
    exact (List.eq_nil_of_length_eq_zero this).symm
  · obtain ⟨g, off, rows, k1, k2, k3, k4⟩ := h6 hp
    rw [k1, h2] at hc0
    have hlies : lies w g off zs := fun j hj => by
      obtain ⟨r0, r1, r2, r3⟩ := rows_ctr k3 hj
      exact ⟨k4 _ _ r0, k4 _ _ r1, k4 _ _ r2, k4 _ _ r3⟩
    have up : ∀ {A B : World}, (∀ j, A.cell? ⟨g, j, none⟩ = B.cell? ⟨g, j, none⟩) → lies A g off zs → lies B g off zs := fun {A B} h hl j hj => by
      obtain ⟨r0, r1, r2, r3⟩ := hl j hj
      exact ⟨(h _).symm.trans r0, (h _).symm.trans r1, (h _).symm.trans r2, (h _).symm.trans r3⟩
    refine back_ctrs_in l g0 off0 g off c zs (by have e : maxLen = 9223372036854775807 := rfl; omega) _ (fun A B h => World.cell?_of_block (a := ⟨g0, off0, none⟩) (h g0 hi)) (fun A B h => up fun j => (World.cell?_of_block (a := ⟨g, j, none⟩) (h g k2)).symm) J Jx hY W hc0 ?_ h0
    have hg : g < w.heap.size := cell_lt (hlies 0 (by omega)).1
    exact up (fun j => (below_cells hW hg).symm) hlies

theorem wpIn_n {L : Option Nat} {n m : Nat} {P : Program} {c : Code} {Q : Exit → Act → World → Prop} {a : Act} {w : World} (h : c.wpIn (Fen L) n P Q a w) : c.wpIn (Fen L) m P Q a w :=
  fun b k cs hro hb _ => h b k cs hro hb (fun _ hd => by cases hd)
theorem DefOk.ne {B D : Nat} {w : World} (hD : w.heap.size ≤ D) : ∀ {ds : List Deferred}, DefOk B ds w → ∀ d' ∈ ds, d' ≠ { target := .collected D, args := #[] }
  | [], _, d', h => by cases h
  | _ :: _, ⟨⟨D', h1, h2, h3, h4⟩, h5⟩, d', h => by
    rcases List.mem_cons.1 h with rfl | h
    · rw [h1]
      intro e
      injection e with e
      injection e with e
      have := heap_lt h3
      omega
    · exact DefOk.ne hD h5 d' h
section
variable {M : List AB} {β : Env} {w w' : World} {S : Nat → Prop} {B : Nat}
def NoIter (M : List AB) : Prop := ∀ ab ∈ M, ab.isIter = false
theorem MemSat.up (hm : MemSat S B M β w) : MemSat (fun b => S b ∨ B ≤ b) w.heap.size M β w :=
  have hi0 : ∀ b, immOf S B M β w b → immOf (fun b => S b ∨ B ≤ b) w.heap.size M β w b := fun b hb => ⟨.inl hb.1, hb.2⟩
  ⟨Nat.le_refl _, hm.inj, fun i ab hi => EntSat.on hi0 (fun _ _ _ h => h) (fun _ _ _ _ => rfl) (hm.ent i ab hi), fun b hl => .inl (hm.own b hl)⟩
theorem MemSat.down {B' : Nat} (hB : B ≤ B') (hB2 : B' ≤ w.heap.size) (hm : MemSat (fun b => S b ∨ B ≤ b) B' M β w) : MemSat S B M β w :=
  have hi0 : ∀ b, immOf (fun b => S b ∨ B ≤ b) B' M β w b → immOf S B M β w b := fun b hb => ⟨hb.1.elim id (fun h => .inr (Nat.le_trans hB h)), hb.2⟩
  ⟨Nat.le_trans hB hB2, hm.inj, fun i ab hi => EntSat.on hi0 (fun _ _ _ h => h) (fun _ _ _ _ => rfl) (hm.ent i ab hi), fun b hl => (hm.own b hl).elim id (fun h => .inr (Nat.le_trans hB h))⟩
theorem MemSat.cells_live (hm : MemSat S B M β w) (hn : NoIter M) {k : Nat} {o : Obj} (hk : w.heap[k]? = some o) (ho : o.isCells = false) : ¬ live M β k := by
  rintro ⟨i, ab, c, hi, ha, hb⟩
  have he := hm.ent i ab hi
  cases ab with
  | gone => cases ha
  | box e cells => obtain ⟨g', c', cs, h1, h2, _⟩ := he; rw [hb] at h1; cases h1; rw [hk] at h2; cases h2; cases ho
  | iter s p => have := hn _ (List.mem_of_getElem? hi); cases this
  | rowo v e k pre cells => obtain ⟨_, _, g', c', cs, h1, ⟨fz, h2, _⟩, _⟩ := he; rw [hb] at h1; cases h1; rw [hk] at h2; cases h2; cases ho
  | row v e k es =>
    rcases he.2 with ⟨h1, _⟩ | ⟨g', c', cs, h1, ⟨fz, h2, _⟩, _⟩
    · rw [hb] at h1; cases h1
    · rw [hb] at h1; cases h1; rw [hk] at h2; cases h2; cases ho
theorem turned_of_grown {B' : Nat} {row : Option Nat} (hn : NoIter M) (hg : w.grownBy w' row) (hr : ∀ r, row = some r → B' ≤ r ∧ ∃ o : Obj, w.heap[r]? = some o ∧ o.isCells = false) : Turned M B' w w' :=
  ⟨hg.os, hg.tape, hg.output, hg.size, fun b hb => by
    by_cases e : row = some b
    · obtain ⟨h1, o, h2, h3⟩ := hr b e
      exact .inr ⟨h1, o, h2, h3, .inr hn⟩
    · exact .inl (hg.block b hb (Ne.symm e))⟩
end


/-- A walk without deferred calls. -/
def AWpD (cx : Cx) (c : Code) (s : AS) (Q : AS → Prop) : Prop := ∀ a w, Sat cx s a w → c.wpIn (Fen cx.L) 0 cx.P (fun e a' w' => e = .normal ∧ a'.defers = a.defers ∧ ∃ s', Q s' ∧ Sat cx s' a' w') a w
section
variable {P : Program} {ops : Array Oper} {N : Nat} {fl : Nat → Nat} {K : List AB → (Nat → AV) → Prop}
theorem StepG.satD {cx : Cx} (hN : cx.N = N) {o : Oper} {M M' : List AB} {F : Nat → AV} {out : AV} (hd : dstB o.dst N = true) (h : StepG cx.P ops o M F M' out) {a : Act} {w : World} (hs : SatF cx M F a w)
    {K : Act → World → Prop} {Q : Exit → Act → World → Prop} (hK : ∀ a' w', SatF cx M' (upd F o.dst out) a' w' → a'.defers = a.defers → K a' w') :
    if Region.wanted o (yielded ops a.tmps) then o.wpIn (Fen cx.L) 0 cx.P a w K Q else (∀ f, o.about cx.P w a.eval = some f → (Fen cx.L).fn f) ∧ K (a.put o.dst undef) w := by
  obtain ⟨h1, h2, β, h3, h4, h5⟩ := hs
  have := h cx.S cx.w0.heap.size β a w h3 (fun t _ => h5 t) (fun a' w' => a'.defers = a.defers ∧ K a' w') Q fun v β' w' e1 e2 e3 => ⟨defers_put _ _ _,
    hK _ _ ⟨by rw [size_put, h1], by rw [defers_put]; exact h2.ev h3 e1, β', e2, h4.trans e1, upd_sat (by rw [h1, hN]; exact hd) (fun t => (h5 t).ev e1) e3⟩ (defers_put _ _ _)⟩
  split
  · rename_i hw; rw [if_pos hw] at this; exact wpIn_of this
  · rename_i hw; rw [if_neg hw] at this; exact ⟨fun _ _ => trivial, this.2⟩
theorem RunF.in_orderD {cx : Cx} {ds : List Deferred} {Q : Exit → Act → World → Prop} (hQ : ∀ M F a w, K M F → SatF cx M F a w → a.defers = ds → Q .normal a w) (L : List Nat) : ∀ (M : List AB) (F : Nat → AV) (a : Act) (w : World),
    RunF cx.P ops cx.N fl K L M F → SatF cx M F a w → a.defers = ds → wpOpsIn (Fen cx.L) 0 cx.P ops Q L a w := by
  induction L with
  | nil => exact fun M F a w h hs hd => hQ M F a w h hs hd
  | cons i L ih =>
    rintro M F a w ⟨o, M', out, h1, h2, h3, h4⟩ hs hd
    unfold wpOpsIn
    rw [h1]
    exact StepG.satD rfl h2 h3.g hs fun a' w' hs' hd' => ih _ _ a' w' h4 hs' (hd'.trans hd)
end
theorem aD_region {P : Program} {N : Nat} {S : Nat → Prop} {w0 : World} {M0 M : List AB} {β0 : Env} {L : Option Nat} {F : List (Nat × AV)} {Q : AS → Prop} {id : Nat} {l : List Oper} (h : RunX P l.toArray N Q l none M F) : AWpD ⟨P, N, S, w0, M0, β0, L⟩ (.region id l.toArray false) ⟨M, F⟩ Q := by
  obtain ⟨fl, h⟩ := h
  intro a w hs
  refine wpIn_region ?_
  have := Run.toF (fn := fun i => fl.getD i 0) l fl ⟨M, F⟩ 0 (fun j => by simp) (fun j => by simp) h
  rw [List.range_eq_range']
  simp only [List.size_toArray]
  exact RunF.in_orderD (ds := a.defers) (cx := ⟨P, N, S, w0, M0, β0, L⟩) (fun M F a w ⟨G, hG, hq⟩ hs hd => ⟨rfl, hd, ⟨M, G⟩, hq, by subst hG; exact hs⟩) _ _ _ a w this hs rfl
theorem aD_seq {cx : Cx} {x y : Code} {s : AS} {Q : AS → Prop} (h : AWpD cx x s (fun s' => AWpD cx y s' Q)) : AWpD cx (.seq x y) s Q := by
  intro a w hs
  refine wpIn_seq (wpIn_mono (h a w hs) fun e a' w' ⟨he, hd, s', h1, h2⟩ => ?_)
  subst he
  exact wpIn_mono (h1 a' w' h2) fun e a'' w'' ⟨he, hd', r⟩ => ⟨he, hd'.trans hd, r⟩
theorem ev_cut {M M' : List AB} {β β' : Env} {w w' : World} {n : Nat} (h : Ev M β w M' β' w') (hn : M.length ≤ n) : Ev M β w (M'.take n) β' w' :=
  ⟨h.os, h.tape, h.output, h.size, h.keep, fun b hb => h.new b (live_cut hb), fun i ab hi => by
    obtain ⟨ab', k1, k2⟩ := h.ent i ab hi
    have hlt : i < n := Nat.lt_of_lt_of_le (List.getElem?_eq_some_iff.1 hi).1 hn
    exact ⟨ab', by rw [List.getElem?_take_of_lt hlt]; exact k1, k2⟩⟩

/-- A range over a slice from behind, what a round takes may be boxed: own memory is the same ahead of each round. -/
theorem a_backB {P : Program} {N : Nat} {S : Nat → Prop} {w0 : World} {M0 M : List AB} {β0 : Env} {F : List (Nat × AV)} {Q : Exit → AS → Prop} {f : FuncId} {k n : Nat} {es : List D} {val : Fin n → Value} (vav : Fin n → AV) (hseq : BackSeq P f k es n val) (hval : ∀ x M β w imm, AVsat M β w imm (vav x) (val x)) (hcall : Callable P f)
    {g : Operand} {p q : Tmp} {assign body : Code} (hg : aval (look F) g = .cl f [.dptr [.sl k es]]) (hpN : (Nat.blt p N && Nat.blt q N) = true)
    (Ma Mx : Fin n → List AB) (Fa : Fin n → List (Nat × AV)) (Good GoodX : List (Fin n) → Prop) (hn : NoIter M) (hna : ∀ x, NoIter (Ma x)) (hnx : ∀ x, NoIter (Mx x)) (hu : M.all (AB.under M.length) = true) (hux : ∀ x, (Mx x).all (AB.under M.length) = true) (hMa : ∀ x, (Ma x).take M.length = M) (h0 : Good [])
    (hassign : ∀ (l : Nat) (S : Nat → Prop) (w1 : World) (β1 : Env) (x : Fin n), AWpD ⟨P, N, S, w1, M, β1, some l⟩ assign ⟨M, (q, vav x) :: (p, .val (.int .i64 (x.1 : Int))) :: F⟩ (fun s' => Fits ⟨P, N, S, w1, M, β1, some l⟩ s' ⟨Ma x, Fa x⟩))
    (hbody : ∀ (l : Nat) (S : Nat → Prop) (w1 : World) (β1 : Env) (pre : List (Fin n)) (x : Fin n), Good pre → pre.length < n → AWp ⟨P, N, S, w1, Ma x, β1, some l⟩ body ⟨Ma x, Fa x⟩
      (fun e s' => (e = .normal ∧ Good (pre ++ [x]) ∧ s'.M.take M.length = M) ∨ (e = .ret ∧ GoodX (pre ++ [x]) ∧ s'.M.take M.length = Mx x)))
    (hdone : Good (revs n) → Q .normal ⟨M, F⟩) (hstop : ∀ (k : Nat) (pre : List (Fin n)) (x : Fin n), k ≤ n → (revs n).take k = pre ++ [x] → GoodX (pre ++ [x]) → Q .ret ⟨Mx x, F⟩) :
    AWp ⟨P, N, S, w0, M0, β0, none⟩ (.rangeFunc g #[p, q] assign body) ⟨M, F⟩ Q := by
  rintro a w ⟨h1, h2, β, h3, h4, h5⟩
  simp only at h1 h2 h3 h4 h5
  simp only [Bool.and_eq_true, Nat.blt_eq] at hpN
  have hgv := aval_sat (F := look F) h5 g
  rw [hg] at hgv
  obtain ⟨cs, hv, v, r, hcs, ⟨g0, off0, cs', hv2, himm, ⟨sv, r', hcs', hsl, hr'⟩, hcell⟩, hr⟩ := hgv
  have hr : r = [] := hr
  have hr' : r' = [] := hr'
  subst hr hr' hv2
  have ecs : cs = #[.pointer (some ⟨g0, off0, none⟩)] := Array.toList_inj.1 hcs
  subst ecs
  have hsv := hcell 0 sv (by rw [hcs']; rfl)
  let Imm := immOf S w0.heap.size M β w
  -- what own memory does from a world within the loop on
  have key : ∀ (Mi Mo : List AB) (βi βo : Env) (W W3 : World), NoIter Mi → MemSat S w0.heap.size Mi βi W → Ev M β w Mi βi W → MemSat (fun b => S b ∨ w0.heap.size ≤ b) W.heap.size Mo βo W3 → Ev Mi βi W Mo βo W3 →
      KeepsFrom w.heap.size W W3 ∧ (∀ b, Imm b → W3.heap[b]? = W.heap[b]?) ∧ MemSat S w0.heap.size Mo βo W3 ∧ Ev M β w Mo βo W3 := by
    intro Mi Mo βi βo W W3 hni hm he hm3 he3
    refine ⟨⟨he3.size, fun k o _ hk ho => (he3.keep k (heap_lt hk) (hm.cells_live hni hk ho)).trans hk⟩, fun b hb => he3.keep b (Nat.lt_of_lt_of_le hb.2.1 he.size) fun hl => ?_, hm3.down hm.lo he3.size, he.trans he3⟩
    rcases he.new b hl with h | h
    · exact hb.2.2 h
    · have := hb.2.1; omega
  refine wpIn_n (n := 2) (wpIn_rangeFunc_ownH (F := Fence.wide) (n := 2) (Kp := fun A B => ∀ b, Imm b → B.heap[b]? = A.heap[b]?) rfl (by decide) hv trivial (fun args w => hcall args w) (hseq g0 off0 w Imm sv himm hsv hsl)
    (fun h k b hb => (k b hb).trans (h b hb)) (fun W l o o' hl _ _ _ b hb => World.putObj_heap_other (by have := hb.2.1; omega)) (Below.refl _ _) (fun _ => rfl)
    (fun pre W => Good pre ∧ ∃ β', MemSat S w0.heap.size M β' W ∧ Ev M β w M β' W) (fun c pre W => c = .ret ∧ GoodX pre ∧ ∃ pre' x β', pre = pre' ++ [x] ∧ MemSat S w0.heap.size (Mx x) β' W ∧ Ev M β w (Mx x) β' W)
    ?_ ?_ ⟨h0, β, h3, Ev.refl _ _ _⟩
    (fun x a' W => a'.tmps.size = N ∧ a'.defers = [] ∧ ∃ β1, MemSat S w0.heap.size (Ma x) β1 W ∧ Ev M β w (Ma x) β1 W ∧ ∀ d, AVsat (Ma x) β1 W (immOf S w0.heap.size (Ma x) β1 W) (look (Fa x) d) (a'.tmps.getD d undef))
    ?_ (fun l pre x W K hI hK => ?_) (fun l pre x a' W hB _ hI hA hlen => ?_) (fun D xs W hD hS hI hheap => ?_) (fun D c pre W hD hSp hI hheap => ?_))
  · rintro pre W W' row ⟨k0, β', k1, k2⟩ hg hr
    have ht := turned_of_grown hn hg hr
    exact ⟨k0, β', k1.turn ht, k2.turn ht (Nat.le_refl _)⟩
  · rintro c pre W W' row ⟨k00, k0, pre', x, β', k3, k1, k2⟩ hg hr
    have ht := turned_of_grown (hnx x) hg hr
    exact ⟨k00, k0, pre', x, β', k3, k1.turn ht, k2.turn ht (Nat.le_refl _)⟩
  · rintro x a' _ W W' row ⟨q1, q2, β1, k1, k2, k3⟩ hg hr
    have ht := turned_of_grown (hna x) hg hr
    exact ⟨q1, q2, β1, k1.turn ht, k2.turn ht (Nat.le_refl _), fun d => AVsat.on (fun b hb => ht.imm hb) ht.cells _ _ (k3 d)⟩
  · obtain ⟨hgood, β', hm, he⟩ := hI
    have hs : Sat ⟨P, N, fun b => S b ∨ w0.heap.size ≤ b, W, M, β', some l⟩ ⟨M, (q, vav x) :: (p, .val (.int .i64 (x.1 : Int))) :: F⟩ { tmps := (a.tmps.setIfInBounds p (.int .i64 (x.1 : Int))).setIfInBounds q (val x), defers := [] } W := by
      refine ⟨by simp [h1], trivial, β', hm.up, Ev.refl _ _ _, fun d => ?_⟩
      have hd := AVsat.on (M := M) (β := β') (imm' := immOf (fun b => S b ∨ w0.heap.size ≤ b) W.heap.size M β' W) (fun b (hb : immOf S w0.heap.size M β' W b) => ⟨.inl hb.1, hb.2⟩) (fun _ _ _ h => h) _ _ ((h5 d).ev he)
      simp only [look, Array.getD_eq_getD_getElem?, Array.getElem?_setIfInBounds] at hd ⊢
      cases e1 : Nat.beq q d with
      | true =>
        have := Nat.eq_of_beq_eq_true e1
        subst this
        simp only [cond_true, Array.size_setIfInBounds, h1, hpN.2, if_true, Option.getD_some]
        exact hval _ _ _ _ _
      | false =>
        have n1 : q ≠ d := Nat.ne_of_beq_eq_false e1
        rw [if_neg n1]
        cases e2 : Nat.beq p d with
        | true =>
          have := Nat.eq_of_beq_eq_true e2
          subst this
          simp only [cond_true, cond_false, h1, hpN.1, if_true, Option.getD_some]
          rfl
        | false =>
          have n2 : p ≠ d := Nat.ne_of_beq_eq_false e2
          rw [if_neg n2]
          exact hd
    have := wpIn_mono (hassign l _ W β' x _ _ hs) (Q' := Exit.then K (fun _ _ _ => False)) ?_
    · change assign.wpIn (Fen (some l)) _ _ _ _ _
      simpa using this
    · rintro e a3 W3 ⟨rfl, hd3, s', hfit, hs'⟩
      obtain ⟨t1, t2, β3, hm3, he3, t5⟩ := hfit _ _ hs'
      obtain ⟨q1, q2, q3, q4⟩ := key _ _ _ _ _ _ hn hm he hm3 he3
      refine hK _ _ q1 q2 ⟨hgood, β3, ?_, ?_⟩ ⟨t1, hd3, β3, q3, q4, fun d => ?_⟩
      · have := mem_cut (n := M.length) q3 (by rw [hMa]; exact hu)
        rwa [hMa] at this
      · have := ev_cut (n := M.length) q4 (Nat.le_refl _)
        rwa [hMa] at this
      · exact AVsat.on (fun b hb => ⟨hb.1.elim id fun h => .inr (Nat.le_trans hm.lo h), hb.2⟩) (fun _ _ _ h => h) _ _ (t5 d)
  · obtain ⟨hgood, -⟩ := hI
    obtain ⟨e1, e2, β1, hm, he, e3⟩ := hA
    have hs : Sat ⟨P, N, fun b => S b ∨ w0.heap.size ≤ b, W, Ma x, β1, some l⟩ ⟨Ma x, Fa x⟩ a' W := by
      refine ⟨e1, by rw [e2]; trivial, β1, hm.up, Ev.refl _ _ _, fun d => ?_⟩
      exact AVsat.on (fun b hb => ⟨.inl hb.1, hb.2⟩) (fun _ _ _ h => h) _ _ (e3 d)
    refine wpIn_mono (hbody l _ W β1 pre x hgood hlen _ _ hs) fun e a3 W3 ⟨s', hq, hs'⟩ => ?_
    obtain ⟨_, _, β3, hm3, he3, _⟩ := hs'
    obtain ⟨q1, q2, q3, q4⟩ := key _ _ _ _ _ _ (hna x) hm he hm3 he3
    rcases hq with ⟨rfl, hg', hM'⟩ | ⟨rfl, hg', hM'⟩
    · refine ⟨q1, q2, hg', β3, ?_, ?_⟩
      · have := mem_cut (n := M.length) q3 (by rw [hM']; exact hu)
        rwa [hM'] at this
      · have := ev_cut (n := M.length) q4 (Nat.le_refl _)
        rwa [hM'] at this
    · refine ⟨q1, rfl, hg', pre, x, β3, rfl, ?_, ?_⟩
      · have := mem_cut (n := M.length) q3 (by rw [hM']; exact hux x)
        rwa [hM'] at this
      · have := ev_cut (n := M.length) q4 (Nat.le_refl _)
        rwa [hM'] at this
  · obtain ⟨hgood, β', hm, he⟩ := hI
    subst hS
    exact ⟨_, hdone hgood, h1, ⟨⟨D, rfl, Nat.le_trans h3.lo hD, hheap, h2.ne hD⟩, h2.ev h3 he⟩, β', hm, h4.trans he, fun d => (h5 d).ev he⟩
  · obtain ⟨rfl, hgood, pre', x, β', rfl, hm, he⟩ := hI
    obtain ⟨k, hk, hpre⟩ := hSp
    refine wpIn_ret ⟨_, hstop k pre' x hk hpre.symm hgood, h1, ⟨⟨D, rfl, Nat.le_trans h3.lo hD, hheap, h2.ne hD⟩, h2.ev h3 he⟩, β', hm, h4.trans he, fun d => (h5 d).ev he⟩
end Go.Proofs.Ytajbbcnfohbieaa
