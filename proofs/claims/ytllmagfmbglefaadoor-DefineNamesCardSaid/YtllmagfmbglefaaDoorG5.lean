import Derived.Test.YtllmagfmbglefaaDoorZ
import Derived.RangeFuncBox
import Derived.RangeFuncLeaves
import Derived.WalkKit
import Derived.OwnWalkIn
import Derived.TacticsInMore
import Derived.LoopNIn
import Derived.LoopIn
import Derived.Test.YtllmagfmbglefaaDoorCb
import Derived.Test.YtllmagfmbglefaaDoorTy
import Derived.RangeFuncFrom
import Derived.Lib.MakeNoZero
import Derived.Laws.IdiomCopy
/- The engine, part 24: an own row whose last element lies open: its cells may hold own rows. -/
namespace Go.Proofs.YtllmagfmbglefaaDoor
open Go Go.RowKit

section
variable {cx : Cx}
theorem setE_id (β : Env) (i : Nat) : wX β i (β i) = β := by funext j; by_cases hj : j = i <;> simp [wX, hj]
/-- The last element is laid open. -/
theorem fits_open {M : List AB} {F : List (Nat × AV)} {i ver e k : Nat} {pre : List D} {d : D} (hM : M[i]? = some (.row ver e k (pre ++ [d]))) (hv : wy ver = false := by rfl) : Fits cx ⟨M, F⟩ ⟨M.set i (.rowo ver e k pre 1 d.cells), F⟩ := by
  rintro a w ⟨h1, h2, β, h3, h4, h5⟩
  obtain ⟨hw, ⟨_, h7⟩ | ⟨g, cap, cs, q1, q2, q3, q4, q5, q6⟩⟩ := h3.ent i _ hM
  · exact absurd h7 (by simp)
  obtain ⟨x, y, p1, p2, c1, c2, p3, p4, p5⟩ := q6.split
  have hp5 : c2 = [] := p5
  subst hp5
  have hcat : cs.toList = x ++ c1 ++ cs.toList.drop ((pre ++ [d]).length * k) := by
    have := List.take_append_drop ((pre ++ [d]).length * k) cs.toList
    rw [p1, p3, List.append_nil] at this
    exact this.symm
  have := h3.set_ (w' := w) (ab' := .rowo ver e k pre 1 d.cells) (x := β i) hM rfl rfl rfl rfl (Nat.le_refl _) (fun _ _ _ => rfl) (fun g c hc => .inl ⟨c, hc⟩) ⟨Nat.le_refl _, rfl, fun _ => ⟨rfl, by simp⟩⟩
    (fun hE => ⟨fun z hz => hw z (by simp [hz]), by rw [yK p4, Nat.one_mul]; exact hw d (by simp), g, cap, cs, q1, ⟨q2.choose, q2.choose_spec.1, (q2.choose_spec.2.clear hv).ok rfl⟩, by simpa using q3, q4, q5, x, c1, _, hcat, DenCs.mono (fun _ => immOf.ev hE) (fun _ off => immOf.cell hE off) _ _ p2, (DenC.cells_ d c1 p4).ev hE⟩)
  rw [setE_id] at this
  exact ⟨h1, h2, β, this.2, h4.trans this.1, fun d => (h5 d).ev this.1⟩
/-- The last element is data again: the row is let go, as data. -/
theorem fits_close {M : List AB} {F : List (Nat × AV)} {i ver e k : Nat} {pre : List D} {cells : List AV} (d : D) (t : Tmp) (hF : uM F t = .row i ver) (hM : M[i]? = some (.rowo ver e k pre 1 cells)) (hc : d.cells = cells) (hf : d.fine) :
    Fits cx ⟨M, F⟩ ⟨M.set i .gone, (t, .sl k (pre ++ [d])) :: F⟩ := by
  rintro a w ⟨h1, h2, β, h3, h4, h5⟩
  obtain ⟨hw, hk, g, cap, cs, q1, q2, q3, q4, q5, c1, c2, c3, q6, q7, q8⟩ := h3.ent i _ hM
  obtain ⟨e1, e2⟩ := h3.let_go hM rfl
  have hlt : i < M.length := (List.getElem?_eq_some_iff.1 hM).1
  have hv := h5 t
  rw [hF] at hv
  obtain ⟨ab, v1, v2⟩ := hv
  rw [hM] at v1; cases v1
  have v3 := v2.2 rfl
  rw [q1] at v3
  refine ⟨h1, h2, β, e2, h4.trans e1, fun z => ?_⟩
  cases hb : Nat.beq t z with
  | false =>
    simp only [uM, hb, cond_false]
    exact (h5 z).ev e1
  | true =>
    simp only [uM, hb, cond_true]
    have := Nat.eq_of_beq_eq_true hb
    subst this
    subst hc
    have hd := AVsats.denC d c2 hf q8
    refine ⟨some ⟨g, 0, none⟩, pre.length + 1, cap, by rw [v3]; rfl, by simp, q3, q4, fun z hz => ?_, fun _ => ⟨g, 0, c1 ++ c2, rfl, ⟨h3.own g ⟨i, _, cap, hM, rfl, q1⟩, zi q2.choose_spec.1, ?_⟩, ?_, fun j u hj => ?_⟩⟩
    · rcases List.mem_append.1 hz with hz | hz
      · exact hw z hz
      · rw [List.mem_singleton] at hz
        subst hz
        rw [← yK hd, ← Nat.one_mul k]; exact hk
    · rintro ⟨j, ab', c', k1, k2, k3⟩
      by_cases hji : j = i
      · subst hji
        rw [List.getElem?_set_self hlt] at k1
        cases k1; cases k2
      · rw [List.getElem?_set_ne (Ne.symm hji)] at k1
        exact hji (h3.inj j i _ _ g c' cap k1 k2 k3 hM rfl q1)
    · have := (DenCs.mono (fun _ => immOf.ev e1) (fun _ off => immOf.cell e1 off) _ _ q7).append (a := pre) (b := [d]) (y := c2) ⟨c2, [], by simp, DenC.mono (fun _ => immOf.ev e1) (fun _ off => immOf.cell e1 off) _ _ hd, rfl⟩
      exact this
    · rw [Nat.zero_add, q2.cell]
      have hj' : cs.toList[j]? = some u := by
        rw [q6, List.getElem?_append_left (List.getElem?_eq_some_iff.1 hj).1]
        exact hj
      simpa using hj'
end
section
variable {P : Program} {o : Oper} {M M' : List AB} {ρ : Operand → AV} {out : AV} {tab : List (Nat × TE)}
/-- The open element's place. -/
theorem astep_idx_o (ht : TyTab P tab) {T e i ver e' : Nat} {ee : TE} {pre : List D} {mo : Nat} {cells : List AV} {x y : Operand} {q : IntKind} {n : Int} (ho : o.op = .indexAddr T x y) (hT : u5 tab T = some (e, ee)) (hx : ρ x = .row i ver) (hM : M[i]? = some (.rowo ver e' ee.size pre mo cells)) (hy : ρ y = .val (.int q n))
    (h0 : 0 ≤ n) (hd : n.toNat < pre.length + mo) : AStep P o M ρ M (.eptr i ver n.toNat 0) :=
  .value fun S B β a w hm hs => by
    have h1 := hs x (by simp [ho, Op.operands])
    have h2 := hs y (by simp [ho, Op.operands])
    rw [hx] at h1; rw [hy] at h2
    have h2 : a.eval y = .int q n := h2
    obtain ⟨ab, v1, v2⟩ := h1
    rw [hM] at v1; cases v1
    have v3 := v2.2 rfl
    obtain ⟨_, _, g, cap, cs, q1, _⟩ := hm.ent i _ hM
    rw [q1] at v3
    obtain ⟨hu, he⟩ := vq ht hT
    have hcond : 0 ≤ n ∧ n < ((pre.length + mo : Nat) : Int) := by omega
    refine ⟨.pointer (some ⟨g, n.toNat * ee.size, none⟩), ?_, .rowo ver e' ee.size pre mo cells, hM, Nat.le_refl _, fun _ => ⟨g, cap, q1, by simp⟩⟩
    simp [execOp, ho, h2, v3, wO, Instr.indexAt, asIntOf, run_underlying hu, hcond.1, hcond.2, vU he, wN, hd]
    omega
theorem astep_load_o (ht : TyTab P tab) {T i ver j off e k : Nat} {te : TE} {x : Operand} {pre : List D} {mo : Nat} {cells : List AV} (ho : o.op = .load T x) (hT : ww tab T = some te) (hx : ρ x = .eptr i ver j off) (hM : M[i]? = some (.rowo ver e k pre mo cells)) {o' : Nat} (hj : j * k + off = pre.length * k + o') (hl : xc te (cells.drop o') = some out) : AStep P o M ρ M out :=
  .value fun S B β a w hm hs => by
    have h1 := hs x (by simp [ho, Op.operands])
    rw [hx] at h1
    obtain ⟨ab, v1, v2⟩ := h1
    rw [hM] at v1; cases v1
    obtain ⟨g, c, h3, h2⟩ := v2.2 rfl
    obtain ⟨hw, hk, g', cap, cs, q1, q2, q3, q4, q5, c1, c2, c3, q6, q7, q8⟩ := hm.ent i _ hM
    rw [h3] at q1; cases q1
    have hl1 : c1.length = pre.length * k := by rw [q7.len, v6 hw]
    obtain ⟨v, h13, h14⟩ := xk (P := P) (ht.get hT) (g := g) (off := j * k + off) (q8.drop_ o') (fun q u hq => by
      rw [List.getElem?_drop] at hq
      have hlt := (List.getElem?_eq_some_iff.1 hq).1
      rw [q2.cell]
      have : cs.toList[j * k + off + q]? = some u := by
        rw [q6, List.getElem?_append_left (by rw [List.length_append]; omega), List.getElem?_append_right (by omega)]
        rw [← hq]; congr 1; omega
      simpa using this) hl
    exact ⟨v, by simp [execOp, ho, h2, Instr.loadAt, Instr.sureAddr, h13], h14⟩
theorem astep_store_o (ht : TyTab P tab) {T i ver j off e k : Nat} {te : TE} {x y : Operand} {pre : List D} {mo : Nat} {cells : List AV} (ho : o.op = .store T x y) (hT : ww tab T = some te) (hx : ρ x = .eptr i ver j off) (hM : M[i]? = some (.rowo ver e k pre mo cells)) {o' : Nat} (hj : j * k + off = pre.length * k + o')
    (hy : zg M (cellsOf (ρ y)) = true) (hsz : (cellsOf (ρ y)).length = te.size) (hfit : Nat.ble (o' + te.size) cells.length = true) : AStep P o M ρ (M.set i (.rowo ver e k pre mo (xt cells o' (cellsOf (ρ y))))) (.val undef) := by
  intro S B β a w hm hs K Q hK
  have h1 := hs x (by simp [ho, Op.operands])
  have h2 := hs y (by simp [ho, Op.operands])
  rw [hx] at h1
  obtain ⟨ab, v1, v2⟩ := h1
  rw [hM] at v1; cases v1
  obtain ⟨g, c, h3, h4⟩ := v2.2 rfl
  obtain ⟨hw, hk, g', cap, cs, q1, q2, q3, q4, q5, c1, c2, c3, q6, q7, q8⟩ := hm.ent i _ hM
  rw [h3] at q1; cases q1
  obtain ⟨h8, h9⟩ := zl hy h2
  have hl8 := h8.len
  have hl2 := q8.len
  have hfit' := Nat.le_of_ble_eq_true hfit
  have hl1 : c1.length = pre.length * k := by rw [q7.len, v6 hw]
  have hcl : cs.size = c1.length + c2.length + c3.length := by rw [← Array.length_toList, q6]; simp only [List.length_append]
  obtain ⟨fz, g1, g2⟩ := q2
  have hst := wH P g (j * k + off) e fz (a.eval y).cells.toList 0 cs w g1 (fun j _ hj => g2.clear rfl j hj) (by omega) h9
  simp only [Nat.add_zero] at hst
  have hvs : (a.eval y).cells.size = te.size := by rw [← Array.length_toList, hl8, hsz]
  have hrun : (execOp a.eval o).run P w = .ok .skip (w.setRow g (cs.toList.take (j * k + off) ++ (a.eval y).cells.toList ++ cs.toList.drop (j * k + off + (a.eval y).cells.toList.length)).toArray) := by
    simp only [execOp, ho, h4, Instr.storeAt, Instr.sureAddr]
    simp only [Sem.run_bind, Sem.run_pure, Result.andThen_ok, storeVar, vU (ht.get hT), hvs, ne_eq, not_true_eq_false, if_false, hst]
  unfold Oper.wp
  rw [hrun]
  have hs' : wX β i (some (g, c)) = β := by funext j; by_cases hj : j = i <;> simp [wX, hj, h3]
  have hcat : cs.toList.take (j * k + off) ++ (a.eval y).cells.toList ++ cs.toList.drop (j * k + off + (a.eval y).cells.toList.length) = c1 ++ (c2.take o' ++ (a.eval y).cells.toList ++ c2.drop (o' + (a.eval y).cells.toList.length)) ++ c3 := by
    have e1 : cs.toList = c1 ++ (c2 ++ c3) := by rw [q6, List.append_assoc]
    rw [e1, hj, ← hl1, List.take_length_add_append, Nat.add_assoc, List.drop_length_add_append, List.take_append_of_le_length (by omega), List.drop_append_of_le_length (by omega)]
    simp only [List.append_assoc]
  have hlen : (cs.toList.take (j * k + off) ++ (a.eval y).cells.toList ++ cs.toList.drop (j * k + off + (a.eval y).cells.toList.length)).length = cs.size := by
    rw [hcat]
    simp only [List.length_append, List.length_take, List.length_drop]
    omega
  have := hm.set_ (w' := w.setRow g (cs.toList.take (j * k + off) ++ (a.eval y).cells.toList ++ cs.toList.drop (j * k + off + (a.eval y).cells.toList.length)).toArray)
    (ab' := .rowo ver e k pre mo (xt cells o' (cellsOf (ρ y)))) (x := some (g, c)) hM rfl rfl rfl rfl (by simp)
    (fun b _ hne => setRow_other w g b _ (fun e => hne c (by rw [h3, e]))) (fun g' c' h => by cases h; exact .inl ⟨c, h3⟩) ⟨Nat.le_refl _, rfl, fun _ => ⟨h3.symm, rfl⟩⟩
    (fun hE => ⟨hw, by
      unfold xt
      simp only [List.length_append, List.length_take, List.length_drop]
      omega, g, c, _, rfl, ⟨fz, setRow_heap w g cs _ e _ g1, g2.mono rfl (Nat.le_refl _) (by rw [List.size_toArray, hlen])⟩, q3, q4, by rw [List.size_toArray, hlen, q5], c1, _, c3, by rw [List.toList_toArray]; exact hcat,
      DenCs.mono (fun _ => immOf.ev hE) (fun _ off => immOf.cell hE off) _ _ q7, by
        have := zf (off := o') (q8.ev hE) (h8.ev hE)
        exact this⟩)
  rw [hs'] at this
  exact hK _ _ _ this.1 this.2 rfl
end
section
variable {P : Program} {ops : Array Oper} {N : Nat} {K : AS → Prop} {o : Oper} {r : List Oper} {fo fo' : Option (List Nat)} {M M' : List AB} {F : List (Nat × AV)} {dt : Tmp} {tab : List (Nat × TE)} {out : AV}
theorem r_idx_o (ht : TyTab P tab) {T e i ver e' : Nat} {ee : TE} {pre : List D} {mo : Nat} {cells : List AV} {x y : Operand} {q : IntKind} {n : Int} (hg : o.guard = none) (ho : o.op = .indexAddr T x y) (hT : u5 tab T = some (e, ee)) (hx : vc (uM F) x = .row i ver) (hM : M[i]? = some (.rowo ver e' ee.size pre mo cells)) (hy : vc (uM F) y = .val (.int q n))
    (hdd : o.dst = some dt) (hd : vD o.dst N = true) (h0 : 0 ≤ n) (hn : n.toNat < pre.length + mo) (hp : vL fo 1 = some fo') (k : RunX P ops N K r fo' M ((dt, .eptr i ver n.toNat 0) :: F)) : RunX P ops N K (o :: r) fo M F :=
  RunX.mk (fun _ k => Run.quiet hd (StepG.plain hg (astep_idx_o ht ho hT hx hM hy h0 hn)) (by rw [va hdd]; exact k)) hp k
theorem r_ld_o (ht : TyTab P tab) {T i ver j off e k' : Nat} {te : TE} {x : Operand} {pre : List D} {mo : Nat} {cells : List AV} (hg : o.guard = none) (ho : o.op = .load T x) (hT : ww tab T = some te) (hx : vc (uM F) x = .eptr i ver j off) (hM : M[i]? = some (.rowo ver e k' pre mo cells)) {o' : Nat} (hj : j * k' + off = pre.length * k' + o') (hl : ldAV te (cells.drop o') = some out)
    (hdd : o.dst = some dt) (hd : vD o.dst N = true) (hp : vL fo 1 = some fo') (k : RunX P ops N K r fo' M ((dt, out) :: F)) : RunX P ops N K (o :: r) fo M F :=
  RunX.mk (fun _ k => Run.quiet hd (StepG.plain hg (astep_load_o ht ho hT hx hM hj (zY hl))) (by rw [va hdd]; exact k)) hp k
end
end Go.Proofs.YtllmagfmbglefaaDoor

/- slices.Backward's closure over ints: a promise for whatever the loop's body is. -/
namespace Go.Proofs.YtllmagfmbglefaaDoor
open Go Go.RowKit

attribute [local go_sem] Oper.semAt_some

def revs (n : Nat) : List (Fin n) := (List.finRange n).reverse
end Go.Proofs.YtllmagfmbglefaaDoor

/- The engine: ranges over slices.Backward. -/
namespace Go.Proofs.YtllmagfmbglefaaDoor
open Go Go.RowKit

def iD (i : Int) : D := .val (.int .i64 i)
/-- What the closure of slices.Backward promises. -/
def BackSeq (P : Program) (f : FuncId) (k : Nat) (es : List D) (n : Nat) (val : Fin n → Value) : Prop :=
  ∀ (g0 off0 : Nat) (w : World) (imm : Nat → Prop) (sv : Value), imm g0 → w.cell? ⟨g0, off0, none⟩ = some sv → DenC w imm (.sl k es) [sv] →
    SeqStopsK Fence.wide 1 P f #[.pointer (some ⟨g0, off0, none⟩)] (fun x : Fin n => #[.int .i64 (x.1 : Int), val x]) (fun A B => ∀ b, imm b → B.heap[b]? = A.heap[b]?) (fun ys => ys = revs n) (fun pre => ∃ k, k ≤ n ∧ pre = (revs n).take k) n w

section
variable {M : List AB} {β : Env} {w w' : World} {S : Nat → Prop} {B : Nat}
def NoIter (M : List AB) : Prop := ∀ ab ∈ M, ab.isIter = false
theorem MemSat.up (hm : MemSat S B M β w) : MemSat (fun b => S b ∨ B ≤ b) w.heap.size M β w :=
  have hi0 : ∀ b, immOf S B M β w b → immOf (fun b => S b ∨ B ≤ b) w.heap.size M β w b := fun b hb => ⟨.inl hb.1, hb.2⟩
  ⟨Nat.le_refl _, hm.inj, fun i ab hi => EntSat.on hi0 (fun _ _ _ h => h) (fun _ _ _ _ => rfl) (hm.ent i ab hi), fun b hl => .inl (hm.own b hl), hm.gl.mono hi0 (fun _ _ _ => rfl)⟩
end

end Go.Proofs.YtllmagfmbglefaaDoor

/- The engine: places in arrays; results that are cells; blocks without zeros; closures let go. -/
namespace Go.Proofs.YtllmagfmbglefaaDoor
open Go Go.RowKit

def arrOf (tab : List (Nat × TE)) (T : Nat) : Option (Nat × Nat × TE) :=
  match ww tab T with
  | some te => match te.kind with
    | .array n e => match ww tab e with
      | some ee => some (n, e, ee)
      | none => none
    | _ => none
  | none => none
theorem arrOf_spec {P : Program} {tab : List (Nat × TE)} (ht : TyTab P tab) {T n e : Nat} {ee : TE} (h : arrOf tab T = some (n, e, ee)) : P.underlying T = some (.array n e) ∧ qs P e = some ee := by
  unfold arrOf at h
  split at h
  · rename_i te hte
    split at h
    · rename_i n' e' hk
      split at h
      · rename_i ee' hee
        cases h
        obtain ⟨d, i', z, hd, hkd, _⟩ := vV (ht.get hte)
        cases d <;> simp [wn, hk] at hkd
        obtain ⟨rfl, rfl⟩ := hkd
        exact ⟨hd, ht.get hee⟩
      · cases h
    · cases h
  · cases h
section
variable {P : Program} {o : Oper} {M M' : List AB} {ρ : Operand → AV} {out : AV} {tab : List (Nat × TE)}
theorem astep_idxa (ht : TyTab P tab) {T n e : Nat} {ee : TE} {x y : Operand} {q : IntKind} {c : Int} (ho : o.op = .indexAddr T x y) (hT : arrOf tab T = some (n, e, ee)) (hy : ρ y = .val (.int q c)) (hc : 0 ≤ c ∧ c < n)
    (hx : shiftP (c.toNat * ee.size) (ρ x) = some out) (hne : ∀ i ver j o, ρ x ≠ .eptr i ver j o) : AStep P o M ρ M out :=
  .value fun S B β a w _ hs => by
    have h1 := hs x (by simp [ho, Op.operands])
    have h2 := hs y (by simp [ho, Op.operands])
    rw [hy] at h2
    have h2 : a.eval y = .int q c := h2
    obtain ⟨hu, he⟩ := arrOf_spec ht hT
    obtain ⟨g, o', h3 | ⟨i, ver, j, o', h3⟩⟩ := shiftP_sat hx h1
    · refine ⟨_, ?_, h3.2⟩
      simp [execOp, ho, h2, h3.1, Instr.indexAt, asIntOf, run_underlying hu, Instr.sureAddr, hc, vU he, wN]
    · exact absurd h3 (hne _ _ _ _)
/-- A block of whatever bytes, none of which is looked at. -/
def nzV (n : Nat) : Nat → Option (Nat × Nat) → Nat → Value → Prop := fun _ b _ v => ∃ g c, b = some (g, c) ∧ v = .slice (some ⟨g, 0, none⟩) n c
end
section
variable {P : Program} {ops : Array Oper} {N : Nat} {K : AS → Prop} {o : Oper} {r : List Oper} {fo fo' : Option (List Nat)} {M M' : List AB} {F : List (Nat × AV)} {dt : Tmp} {tab : List (Nat × TE)} {out : AV}
theorem r_idxa (ht : TyTab P tab) {T n e : Nat} {ee : TE} {x y : Operand} {q : IntKind} {c : Int} (hg : o.guard = none) (ho : o.op = .indexAddr T x y) (hT : arrOf tab T = some (n, e, ee)) (hy : vc (uM F) y = .val (.int q c)) (hc : (Nat.ble 0 0 && decide (0 ≤ c) && decide (c < n)) = true)
    (hx : shiftP (c.toNat * ee.size) (vc (uM F) x) = some out) (hdd : o.dst = some dt) (hd : vD o.dst N = true) (hp : vL fo 0 = some fo') (k : RunX P ops N K r fo' M ((dt, out) :: F)) (hne : ∀ i ver j o, vc (uM F) x ≠ .eptr i ver j o := by intro _ _ _ _ h; cases h) : RunX P ops N K (o :: r) fo M F :=
  RunX.mk (fun _ k => Run.pure_ hd (fun _ => StepG.plain hg (astep_idxa ht ho hT hy (by simpa using hc) hx hne)) (by rw [va hdd]; exact k)) hp k
theorem r_idxa_cnd (ht : TyTab P tab) {j : Nat} {want c0 : Bool} {g : Tmp} {T n e : Nat} {ee : TE} {x y : Operand} {q : IntKind} {c : Int} (hg : o.guard = some (j, want)) (hj : wx ops j = some g) (hF : wD want (uM F g) = some c0) (ho : o.op = .indexAddr T x y) (hT : arrOf tab T = some (n, e, ee)) (hy : vc (fun t => xj (uM F t)) y = .val (.int q c)) (hc : (Nat.ble 0 0 && decide (0 ≤ c) && decide (c < n)) = true)
    (hx : shiftP (c.toNat * ee.size) (vc (fun t => xj (uM F t)) x) = some out) (hdd : o.dst = some dt) (hd : vD o.dst N = true) (hcs : c0 = true → wG (uM F) o.op.operands.toList = true) (hp : vL fo 0 = some fo') (k : RunX P ops N K r fo' M ((dt, .cnd c0 out) :: F)) (hne : ∀ i ver j o, vc (fun t => xj (uM F t)) x ≠ .eptr i ver j o := by intro _ _ _ _ h; cases h) : RunX P ops N K (o :: r) fo M F :=
  RunX.mk (fun _ k => Run.pure_ hd (fun _ => StepG.cnd hg hj hF hcs fun _ => astep_idxa ht ho hT hy (by simpa using hc) hx hne) (by rw [va hdd]; exact k)) hp k
end
/-- An own box that is not written any more, let go: what points to it reads it. -/
theorem fits_sinkp {cx : Cx} {M : List AB} {F : List (Nat × AV)} {i d T : Nat} {l : List AV} (hM : M[i]? = some (.box T l)) (hfr : AV.frees l = true) (hd : uM F d = .ptr i 0) : Fits cx ⟨M, F⟩ ⟨M.set i .gone, (d, .dptr l) :: F⟩ := by
  rintro a w ⟨h1, h2, β, h3, h4, h5⟩
  obtain ⟨e1, e2⟩ := h3.let_go hM rfl
  refine ⟨h1, h2, β, e2, h4.trans e1, fun t => ?_⟩
  cases hb : Nat.beq d t with
  | false =>
    simp only [uM, hb, cond_false]
    exact (h5 t).ev e1
  | true =>
    have := Nat.eq_of_beq_eq_true hb
    subst this
    simp only [uM, hb, cond_true]
    have h6 := h5 d
    simp only at h6
    rw [hd] at h6
    obtain ⟨g, c, hβ, hvp, ab, _, _⟩ := h6
    obtain ⟨g', c', bs, k1, k2, k3⟩ := h3.ent i _ hM
    rw [hβ] at k1; cases k1
    have hlive : live M β g := ⟨i, _, c, hM, rfl, hβ⟩
    refine ⟨g, 0, bs.toList, hvp, ⟨h3.own g hlive, zi k2, ?_⟩, AVsats.free_ (fun _ => immOf.ev e1) (fun _ _ _ => rfl) _ _ hfr k3, fun j u hj => ?_⟩
    · rintro ⟨j, ab', c'', q1, q2, q3⟩
      by_cases e : j = i
      · subst e
        rw [List.getElem?_set_self (List.getElem?_eq_some_iff.1 hM).1] at q1
        cases q1; cases q2
      · rw [List.getElem?_set_ne (Ne.symm e)] at q1
        exact e (h3.inj j i _ _ g c'' c q1 q2 q3 hM rfl hβ)
    · rw [Nat.zero_add, cell_of_row w g j bs T (0, 0) k2]
      simpa using hj
end Go.Proofs.YtllmagfmbglefaaDoor

/- The engine: a range over slices.Backward that takes the value alone. -/
namespace Go.Proofs.YtllmagfmbglefaaDoor
open Go Go.RowKit

section
variable {P : Program} {ops : Array Oper} {N : Nat} {K : AS → Prop} {o : Oper} {r : List Oper} {fo fo' : Option (List Nat)} {M M' : List AB} {F : List (Nat × AV)} {dt : Tmp} {tab : List (Nat × TE)} {out : AV}
end
theorem okFz.freeze {v m n : Nat} {fz : Nat × Nat} (h : okFz v m fz n) (hv : wy v = true) : okFz v m (if fz.1 == fz.2 then (0, 0 + m) else (min fz.1 0, max fz.2 (0 + m))) n := by
  unfold okFz at h ⊢
  rw [hv] at h ⊢
  have h : fz.2 ≤ m := h
  show (if fz.1 == fz.2 then (0, 0 + m) else (min fz.1 0, max fz.2 (0 + m))).2 ≤ m
  split
  · simp
  · simp; omega
section
variable {P : Program} {ops : Array Oper} {N : Nat} {K : AS → Prop} {o : Oper} {r : List Oper} {fo fo' : Option (List Nat)} {M M' : List AB} {F : List (Nat × AV)} {dt : Tmp} {tab : List (Nat × TE)} {out : AV}
end
end Go.Proofs.YtllmagfmbglefaaDoor

/- The engine: cuts of strings, the least of three. -/
namespace Go.Proofs.YtllmagfmbglefaaDoor
open Go Go.RowKit
section
variable {P : Program} {o : Oper} {M M' : List AB} {ρ : Operand → AV} {out : AV} {tab : List (Nat × TE)}
theorem astep_scut (ht : TyTab P tab) {T : Nat} {x : Operand} {lo hi : Option Operand} {l h : Option Int} {s : ByteArray} (ho : o.op = .slice T x lo hi none) (hT : vH tab T = some .str) (hx : ρ x = .val (.string s)) (hlo : xv ρ lo = some l) (hhi : xv ρ hi = some h)
    (hb : 0 ≤ l.getD 0 ∧ l.getD 0 ≤ h.getD s.size ∧ h.getD s.size ≤ (s.size : Int)) : AStep P o M ρ M (.val (.string (s.extract (l.getD 0).toNat (h.getD s.size).toNat))) :=
  .value fun S B β a w _ hs => by
    obtain ⟨h0, h1, h2⟩ := hb
    have hx1 := hs x (by simp [ho, Op.operands])
    rw [hx] at hx1
    have hx1 : a.eval x = .string s := hx1
    have hu := wQ ht hT
    refine ⟨.string (s.extract (l.getD 0).toNat (h.getD s.size).toNat), ?_, rfl⟩
    have elo : ∀ y, lo = some y → ∃ q n, l = some n ∧ a.eval y = .int q n := fun y hy => by
      subst hy
      have h3 := hs y (by simp [ho, Op.operands])
      simp only [xv] at hlo
      split at hlo
      · rename_i q n hq; cases hlo; rw [hq] at h3; exact ⟨q, n, rfl, h3⟩
      · cases hlo
    have ehi : ∀ y, hi = some y → ∃ q n, h = some n ∧ a.eval y = .int q n := fun y hy => by
      subst hy
      have h3 := hs y (by cases lo <;> simp [ho, Op.operands])
      simp only [xv] at hhi
      split at hhi
      · rename_i q n hq; cases hhi; rw [hq] at h3; exact ⟨q, n, rfl, h3⟩
      · cases hhi
    cases lo with
    | none =>
      cases hlo
      cases hi with
      | none =>
        cases hhi
        have := run_slice_string_all (P := P) w T s hu
        simp [execOp, ho, hx1, run_sliceAt_string _ _ _ _ _ _ hu, this]
      | some y =>
        obtain ⟨q, n, rfl, e1⟩ := ehi y rfl
        have := run_slice_string_h (P := P) w T s hu q n (by simpa using h1) (by simpa using h2)
        simp [execOp, ho, hx1, e1, run_sliceAt_string _ _ _ _ _ _ hu, this]
    | some z =>
      obtain ⟨q, n, rfl, e1⟩ := elo z rfl
      cases hi with
      | none =>
        cases hhi
        have := run_slice_string_l (P := P) w T s hu q n (by simpa using h0) (by simpa using h1)
        simp [execOp, ho, hx1, e1, run_sliceAt_string _ _ _ _ _ _ hu, this]
      | some y =>
        obtain ⟨q', n', rfl, e2⟩ := ehi y rfl
        have := run_slice_string (P := P) (w := w) T s q q' n n' hu (by simpa using h0) (by simpa using h1) (by simpa using h2)
        simp [execOp, ho, hx1, e1, e2, run_sliceAt_string _ _ _ _ _ _ hu, this]
end
section
variable {P : Program} {ops : Array Oper} {N : Nat} {K : AS → Prop} {o : Oper} {r : List Oper} {fo fo' : Option (List Nat)} {M M' : List AB} {F : List (Nat × AV)} {dt : Tmp} {tab : List (Nat × TE)} {out : AV}
theorem r_scut (ht : TyTab P tab) {T : Nat} {x : Operand} {lo hi : Option Operand} {a b : Option Int} {s : ByteArray} (hg : o.guard = none) (ho : o.op = .slice T x lo hi none) (hT : vH tab T = some .str) (hx : vc (uM F) x = .val (.string s)) (hlo : xv (vc (uM F)) lo = some a) (hhi : xv (vc (uM F)) hi = some b)
    (hdd : o.dst = some dt) (hd : vD o.dst N = true) (hb : 0 ≤ a.getD 0 ∧ a.getD 0 ≤ b.getD s.size ∧ b.getD s.size ≤ (s.size : Int)) (hp : vL fo 0 = some fo') (k : RunX P ops N K r fo' M ((dt, .val (.string (s.extract (a.getD 0).toNat (b.getD s.size).toNat))) :: F)) : RunX P ops N K (o :: r) fo M F :=
  RunX.mk (fun _ k => Run.pure_ hd (fun _ => StepG.plain hg (astep_scut ht ho hT hx hlo hhi hb)) (by rw [va hdd]; exact k)) hp k
theorem r_scut_cnd (ht : TyTab P tab) {j : Nat} {want c0 : Bool} {g : Tmp} {T : Nat} {x : Operand} {lo hi : Option Operand} {a b : Option Int} {s : ByteArray} (hg : o.guard = some (j, want)) (hj : wx ops j = some g) (hF : wD want (uM F g) = some c0) (ho : o.op = .slice T x lo hi none) (hT : vH tab T = some .str)
    (hx : vc (fun t => xj (uM F t)) x = .val (.string s)) (hlo : xv (vc fun t => xj (uM F t)) lo = some a) (hhi : xv (vc fun t => xj (uM F t)) hi = some b) (hcs : c0 = true → wG (uM F) o.op.operands.toList = true)
    (hdd : o.dst = some dt) (hd : vD o.dst N = true) (hb : c0 = true → 0 ≤ a.getD 0 ∧ a.getD 0 ≤ b.getD s.size ∧ b.getD s.size ≤ (s.size : Int)) (hp : vL fo 0 = some fo') (k : RunX P ops N K r fo' M ((dt, .cnd c0 (.val (.string (s.extract (a.getD 0).toNat (b.getD s.size).toNat)))) :: F)) : RunX P ops N K (o :: r) fo M F :=
  RunX.mk (fun _ k => Run.pure_ hd (fun _ => StepG.cnd hg hj hF hcs fun h => astep_scut ht ho hT hx hlo hhi (hb h)) (by rw [va hdd]; exact k)) hp k
end
end Go.Proofs.YtllmagfmbglefaaDoor
