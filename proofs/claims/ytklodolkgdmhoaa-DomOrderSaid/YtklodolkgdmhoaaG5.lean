import Derived.Test.YtklodolkgdmhoaaZ
import Derived.RangeFuncBox
import Derived.RangeFuncLeaves
import Derived.WalkKit
import Derived.OwnWalkIn
import Derived.TacticsInMore
import Derived.LoopNIn
import Derived.LoopIn
import Derived.Test.YtklodolkgdmhoaaCb
import Derived.Test.YtklodolkgdmhoaaTy
import Derived.RangeFuncFrom
import Derived.Lib.MakeNoZero
import Derived.Laws.IdiomCopy
/- The engine, part 24: an own row whose last element lies open: its cells may hold own rows. -/
namespace Go.Proofs.Ytklodolkgdmhoaa
open Go Go.RowKit

section
variable {cx : Cx}
theorem setE_id (β : Env) (i : Nat) : setE β i (β i) = β := by funext j; by_cases hj : j = i <;> simp [setE, hj]
/-- The last element is laid open. -/
theorem fits_open {M : List AB} {F : List (Nat × AV)} {i ver e k : Nat} {pre : List D} {d : D} (hM : M[i]? = some (.row ver e k (pre ++ [d]))) (hv : sealed ver = false := by rfl) : Fits cx ⟨M, F⟩ ⟨M.set i (.rowo ver e k pre 1 d.cells), F⟩ := by
  rintro a w ⟨h1, h2, β, h3, h4, h5⟩
  obtain ⟨hw, ⟨_, h7⟩ | ⟨g, cap, cs, q1, q2, q3, q4, q5, q6⟩⟩ := h3.ent i _ hM
  · exact absurd h7 (by simp)
  obtain ⟨x, y, p1, p2, c1, c2, p3, p4, p5⟩ := q6.split
  have hp5 : c2 = [] := p5
  subst hp5
  have hcat : cs.toList = x ++ c1 ++ cs.toList.drop ((pre ++ [d]).length * k) := by
    have := List.take_append_drop ((pre ++ [d]).length * k) cs.toList
    rw [p1, p3, List.append_nil] at this
    exact this.symm
  have := h3.set_ (w' := w) (ab' := .rowo ver e k pre 1 d.cells) (x := β i) hM rfl rfl rfl rfl (Nat.le_refl _) (fun _ _ _ => rfl) (fun g c hc => .inl ⟨c, hc⟩) ⟨Nat.le_refl _, rfl, fun _ => ⟨rfl, by simp⟩⟩
    (fun hE => ⟨fun z hz => hw z (by simp [hz]), by rw [D_cells_len p4, Nat.one_mul]; exact hw d (by simp), g, cap, cs, q1, ⟨q2.choose, q2.choose_spec.1, (q2.choose_spec.2.clear hv).ok rfl⟩, by simpa using q3, q4, q5, x, c1, _, hcat, DenCs.mono (fun _ => immOf.ev hE) (fun _ off => immOf.cell hE off) _ _ p2, (DenC.cells_ d c1 p4).ev hE⟩)
  rw [setE_id] at this
  exact ⟨h1, h2, β, this.2, h4.trans this.1, fun d => (h5 d).ev this.1⟩
/-- The last element is data again: the row is let go, as data. -/
theorem fits_close {M : List AB} {F : List (Nat × AV)} {i ver e k : Nat} {pre : List D} {cells : List AV} (d : D) (t : Tmp) (hF : look F t = .row i ver) (hM : M[i]? = some (.rowo ver e k pre 1 cells)) (hc : d.cells = cells) (hf : d.fine) :
    Fits cx ⟨M, F⟩ ⟨M.set i .gone, (t, .sl k (pre ++ [d])) :: F⟩ := by
  rintro a w ⟨h1, h2, β, h3, h4, h5⟩
  obtain ⟨hw, hk, g, cap, cs, q1, q2, q3, q4, q5, c1, c2, c3, q6, q7, q8⟩ := h3.ent i _ hM
  obtain ⟨e1, e2⟩ := h3.let_go hM rfl
  have hlt : i < M.length := (List.getElem?_eq_some_iff.1 hM).1
  have hv := h5 t
  rw [hF] at hv
  obtain ⟨ab, v1, v2⟩ := hv
  rw [hM] at v1; cases v1
  have v3 := v2.2 rfl
  rw [q1] at v3
  refine ⟨h1, h2, β, e2, h4.trans e1, fun z => ?_⟩
  cases hb : Nat.beq t z with
  | false =>
    simp only [look, hb, cond_false]
    exact (h5 z).ev e1
  | true =>
    simp only [look, hb, cond_true]
    have := Nat.eq_of_beq_eq_true hb
    subst this
    subst hc
    have hd := AVsats.denC d c2 hf q8
    refine ⟨some ⟨g, 0, none⟩, pre.length + 1, cap, by rw [v3]; rfl, by simp, q3, q4, fun z hz => ?_, fun _ => ⟨g, 0, c1 ++ c2, rfl, ⟨h3.own g ⟨i, _, cap, hM, rfl, q1⟩, heap_lt q2.choose_spec.1, ?_⟩, ?_, fun j u hj => ?_⟩⟩
    · rcases List.mem_append.1 hz with hz | hz
      · exact hw z hz
      · rw [List.mem_singleton] at hz
        subst hz
        rw [← D_cells_len hd, ← Nat.one_mul k]; exact hk
    · rintro ⟨j, ab', c', k1, k2, k3⟩
      by_cases hji : j = i
      · subst hji
        rw [List.getElem?_set_self hlt] at k1
        cases k1; cases k2
      · rw [List.getElem?_set_ne (Ne.symm hji)] at k1
        exact hji (h3.inj j i _ _ g c' cap k1 k2 k3 hM rfl q1)
    · have := (DenCs.mono (fun _ => immOf.ev e1) (fun _ off => immOf.cell e1 off) _ _ q7).append (a := pre) (b := [d]) (y := c2) ⟨c2, [], by simp, DenC.mono (fun _ => immOf.ev e1) (fun _ off => immOf.cell e1 off) _ _ hd, rfl⟩
      exact this
    · rw [Nat.zero_add, q2.cell]
      have hj' : cs.toList[j]? = some u := by
        rw [q6, List.getElem?_append_left (List.getElem?_eq_some_iff.1 hj).1]
        exact hj
      simpa using hj'
end
section
variable {P : Program} {o : Oper} {M M' : List AB} {ρ : Operand → AV} {out : AV} {tab : List (Nat × TE)}
/-- The open element's place. -/
theorem astep_idx_o (ht : TyTab P tab) {T e i ver e' : Nat} {ee : TE} {pre : List D} {mo : Nat} {cells : List AV} {x y : Operand} {q : IntKind} {n : Int} (ho : o.op = .indexAddr T x y) (hT : elemOf_ tab T = some (e, ee)) (hx : ρ x = .row i ver) (hM : M[i]? = some (.rowo ver e' ee.size pre mo cells)) (hy : ρ y = .val (.int q n))
    (h0 : 0 ≤ n) (hd : n.toNat < pre.length + mo) : AStep P o M ρ M (.eptr i ver n.toNat 0) :=
  .value fun S B β a w hm hs => by
    have h1 := hs x (by simp [ho, Op.operands])
    have h2 := hs y (by simp [ho, Op.operands])
    rw [hx] at h1; rw [hy] at h2
    have h2 : a.eval y = .int q n := h2
    obtain ⟨ab, v1, v2⟩ := h1
    rw [hM] at v1; cases v1
    have v3 := v2.2 rfl
    obtain ⟨_, _, g, cap, cs, q1, _⟩ := hm.ent i _ hM
    rw [q1] at v3
    obtain ⟨hu, he⟩ := elemOf_spec ht hT
    have hcond : 0 ≤ n ∧ n < ((pre.length + mo : Nat) : Int) := by omega
    refine ⟨.pointer (some ⟨g, n.toNat * ee.size, none⟩), ?_, .rowo ver e' ee.size pre mo cells, hM, Nat.le_refl _, fun _ => ⟨g, cap, q1, by simp⟩⟩
    simp [execOp, ho, h2, v3, rowVal, Instr.indexAt, asIntOf, run_underlying hu, hcond.1, hcond.2, run_sizeOf he, addr_add, hd]
    omega
theorem astep_nilCheck_o {x : Operand} {i ver j off e k : Nat} {pre : List D} {mo : Nat} {cells : List AV} (ho : o.op = .nilCheck x) (hx : ρ x = .eptr i ver j off) (hM : M[i]? = some (.rowo ver e k pre mo cells)) : AStep P o M ρ M (.eptr i ver j off) :=
  .value fun S B β a w hm hs => by
    have h1 := hs x (by simp [ho, Op.operands])
    rw [hx] at h1
    have h1' := h1
    obtain ⟨ab, v1, v2⟩ := h1
    rw [hM] at v1; cases v1
    obtain ⟨g, c, _, h2⟩ := v2.2 rfl
    refine ⟨a.eval x, ?_, h1'⟩
    rw [h2]
    simp [execOp, ho, h2]
theorem astep_field_o (ht : TyTab P tab) {T f off i ver j off0 e k : Nat} {fe : TE} {x : Operand} {pre : List D} {mo : Nat} {cells : List AV} (ho : o.op = .fieldAddr T x f) (hf : fieldOf tab T f = some (off, fe)) (hx : ρ x = .eptr i ver j off0) (hM : M[i]? = some (.rowo ver e k pre mo cells)) : AStep P o M ρ M (.eptr i ver j (off0 + off)) :=
  .value fun S B β a w hm hs => by
    have h1 := hs x (by simp [ho, Op.operands])
    rw [hx] at h1
    obtain ⟨ab, v1, v2⟩ := h1
    rw [hM] at v1; cases v1
    obtain ⟨g, c, h3, h2⟩ := v2.2 rfl
    refine ⟨.pointer (some ⟨g, j * k + off0 + off, none⟩), by simp [execOp, ho, h2, run_fieldAt ht hf], .rowo ver e k pre mo cells, hM, Nat.le_refl _, fun _ => ⟨g, c, h3, by simp [Nat.add_assoc]⟩⟩
theorem astep_load_o (ht : TyTab P tab) {T i ver j off e k : Nat} {te : TE} {x : Operand} {pre : List D} {mo : Nat} {cells : List AV} (ho : o.op = .load T x) (hT : tget tab T = some te) (hx : ρ x = .eptr i ver j off) (hM : M[i]? = some (.rowo ver e k pre mo cells)) {o' : Nat} (hj : j * k + off = pre.length * k + o') (hl : loadAV te (cells.drop o') = some out) : AStep P o M ρ M out :=
  .value fun S B β a w hm hs => by
    have h1 := hs x (by simp [ho, Op.operands])
    rw [hx] at h1
    obtain ⟨ab, v1, v2⟩ := h1
    rw [hM] at v1; cases v1
    obtain ⟨g, c, h3, h2⟩ := v2.2 rfl
    obtain ⟨hw, hk, g', cap, cs, q1, q2, q3, q4, q5, c1, c2, c3, q6, q7, q8⟩ := hm.ent i _ hM
    rw [h3] at q1; cases q1
    have hl1 : c1.length = pre.length * k := by rw [q7.len, widths_allW hw]
    obtain ⟨v, h13, h14⟩ := run_loadVar (P := P) (ht.get hT) (g := g) (off := j * k + off) (q8.drop_ o') (fun q u hq => by
      rw [List.getElem?_drop] at hq
      have hlt := (List.getElem?_eq_some_iff.1 hq).1
      rw [q2.cell]
      have : cs.toList[j * k + off + q]? = some u := by
        rw [q6, List.getElem?_append_left (by rw [List.length_append]; omega), List.getElem?_append_right (by omega)]
        rw [← hq]; congr 1; omega
      simpa using this) hl
    exact ⟨v, by simp [execOp, ho, h2, Instr.loadAt, Instr.sureAddr, h13], h14⟩
theorem astep_store_o (ht : TyTab P tab) {T i ver j off e k : Nat} {te : TE} {x y : Operand} {pre : List D} {mo : Nat} {cells : List AV} (ho : o.op = .store T x y) (hT : tget tab T = some te) (hx : ρ x = .eptr i ver j off) (hM : M[i]? = some (.rowo ver e k pre mo cells)) {o' : Nat} (hj : j * k + off = pre.length * k + o')
    (hy : oneCsM M (cellsOf (ρ y)) = true) (hsz : (cellsOf (ρ y)).length = te.size) (hfit : Nat.ble (o' + te.size) cells.length = true) : AStep P o M ρ (M.set i (.rowo ver e k pre mo (putCells cells o' (cellsOf (ρ y))))) (.val undef) := by
  intro S B β a w hm hs K Q hK
  have h1 := hs x (by simp [ho, Op.operands])
  have h2 := hs y (by simp [ho, Op.operands])
  rw [hx] at h1
  obtain ⟨ab, v1, v2⟩ := h1
  rw [hM] at v1; cases v1
  obtain ⟨g, c, h3, h4⟩ := v2.2 rfl
  obtain ⟨hw, hk, g', cap, cs, q1, q2, q3, q4, q5, c1, c2, c3, q6, q7, q8⟩ := hm.ent i _ hM
  rw [h3] at q1; cases q1
  obtain ⟨h8, h9⟩ := cellsOf_satM hy h2
  have hl8 := h8.len
  have hl2 := q8.len
  have hfit' := Nat.le_of_ble_eq_true hfit
  have hl1 : c1.length = pre.length * k := by rw [q7.len, widths_allW hw]
  have hcl : cs.size = c1.length + c2.length + c3.length := by rw [← Array.length_toList, q6]; simp only [List.length_append]
  obtain ⟨fz, g1, g2⟩ := q2
  have hst := run_storeCells_c P g (j * k + off) e fz (a.eval y).cells.toList 0 cs w g1 (fun j _ hj => g2.clear rfl j hj) (by omega) h9
  simp only [Nat.add_zero] at hst
  have hvs : (a.eval y).cells.size = te.size := by rw [← Array.length_toList, hl8, hsz]
  have hrun : (execOp a.eval o).run P w = .ok .skip (w.setRow g (cs.toList.take (j * k + off) ++ (a.eval y).cells.toList ++ cs.toList.drop (j * k + off + (a.eval y).cells.toList.length)).toArray) := by
    simp only [execOp, ho, h4, Instr.storeAt, Instr.sureAddr]
    simp only [Sem.run_bind, Sem.run_pure, Result.andThen_ok, storeVar, run_sizeOf (ht.get hT), hvs, ne_eq, not_true_eq_false, if_false, hst]
  unfold Oper.wp
  rw [hrun]
  have hs' : setE β i (some (g, c)) = β := by funext j; by_cases hj : j = i <;> simp [setE, hj, h3]
  have hcat : cs.toList.take (j * k + off) ++ (a.eval y).cells.toList ++ cs.toList.drop (j * k + off + (a.eval y).cells.toList.length) = c1 ++ (c2.take o' ++ (a.eval y).cells.toList ++ c2.drop (o' + (a.eval y).cells.toList.length)) ++ c3 := by
    have e1 : cs.toList = c1 ++ (c2 ++ c3) := by rw [q6, List.append_assoc]
    rw [e1, hj, ← hl1, List.take_length_add_append, Nat.add_assoc, List.drop_length_add_append, List.take_append_of_le_length (by omega), List.drop_append_of_le_length (by omega)]
    simp only [List.append_assoc]
  have hlen : (cs.toList.take (j * k + off) ++ (a.eval y).cells.toList ++ cs.toList.drop (j * k + off + (a.eval y).cells.toList.length)).length = cs.size := by
    rw [hcat]
    simp only [List.length_append, List.length_take, List.length_drop]
    omega
  have := hm.set_ (w' := w.setRow g (cs.toList.take (j * k + off) ++ (a.eval y).cells.toList ++ cs.toList.drop (j * k + off + (a.eval y).cells.toList.length)).toArray)
    (ab' := .rowo ver e k pre mo (putCells cells o' (cellsOf (ρ y)))) (x := some (g, c)) hM rfl rfl rfl rfl (by simp)
    (fun b _ hne => setRow_other w g b _ (fun e => hne c (by rw [h3, e]))) (fun g' c' h => by cases h; exact .inl ⟨c, h3⟩) ⟨Nat.le_refl _, rfl, fun _ => ⟨h3.symm, rfl⟩⟩
    (fun hE => ⟨hw, by
      unfold putCells
      simp only [List.length_append, List.length_take, List.length_drop]
      omega, g, c, _, rfl, ⟨fz, setRow_heap w g cs _ e _ g1, g2.mono rfl (Nat.le_refl _) (by rw [List.size_toArray, hlen])⟩, q3, q4, by rw [List.size_toArray, hlen, q5], c1, _, c3, by rw [List.toList_toArray]; exact hcat,
      DenCs.mono (fun _ => immOf.ev hE) (fun _ off => immOf.cell hE off) _ _ q7, by
        have := putCells_sat (off := o') (q8.ev hE) (h8.ev hE)
        exact this⟩)
  rw [hs'] at this
  exact hK _ _ _ this.1 this.2 rfl
end
section
variable {P : Program} {ops : Array Oper} {N : Nat} {K : AS → Prop} {o : Oper} {r : List Oper} {fo fo' : Option (List Nat)} {M M' : List AB} {F : List (Nat × AV)} {dt : Tmp} {tab : List (Nat × TE)} {out : AV}
theorem r_idx_o (ht : TyTab P tab) {T e i ver e' : Nat} {ee : TE} {pre : List D} {mo : Nat} {cells : List AV} {x y : Operand} {q : IntKind} {n : Int} (hg : o.guard = none) (ho : o.op = .indexAddr T x y) (hT : elemOf_ tab T = some (e, ee)) (hx : aval (look F) x = .row i ver) (hM : M[i]? = some (.rowo ver e' ee.size pre mo cells)) (hy : aval (look F) y = .val (.int q n))
    (hdd : o.dst = some dt) (hd : dstB o.dst N = true) (h0 : 0 ≤ n) (hn : n.toNat < pre.length + mo) (hp : popF fo 1 = some fo') (k : RunX P ops N K r fo' M ((dt, .eptr i ver n.toNat 0) :: F)) : RunX P ops N K (o :: r) fo M F :=
  RunX.mk (fun _ k => Run.quiet hd (StepG.plain hg (astep_idx_o ht ho hT hx hM hy h0 hn)) (by rw [put_eq hdd]; exact k)) hp k
theorem r_nilck_o {x : Operand} {i ver j off e k' : Nat} {pre : List D} {mo : Nat} {cells : List AV} (hg : o.guard = none) (ho : o.op = .nilCheck x) (hx : aval (look F) x = .eptr i ver j off) (hM : M[i]? = some (.rowo ver e k' pre mo cells)) (hdd : o.dst = some dt) (hd : dstB o.dst N = true) (hp : popF fo 1 = some fo')
    (k : RunX P ops N K r fo' M ((dt, .eptr i ver j off) :: F)) : RunX P ops N K (o :: r) fo M F :=
  RunX.mk (fun _ k => Run.quiet hd (StepG.plain hg (astep_nilCheck_o ho hx hM)) (by rw [put_eq hdd]; exact k)) hp k
theorem r_field_o (ht : TyTab P tab) {T f off i ver j off0 e k' : Nat} {fe : TE} {x : Operand} {pre : List D} {mo : Nat} {cells : List AV} (hg : o.guard = none) (ho : o.op = .fieldAddr T x f) (hf : fieldOf tab T f = some (off, fe)) (hx : aval (look F) x = .eptr i ver j off0) (hM : M[i]? = some (.rowo ver e k' pre mo cells)) (hdd : o.dst = some dt) (hd : dstB o.dst N = true) (hp : popF fo 1 = some fo')
    (k : RunX P ops N K r fo' M ((dt, .eptr i ver j (off0 + off)) :: F)) : RunX P ops N K (o :: r) fo M F :=
  RunX.mk (fun _ k => Run.quiet hd (StepG.plain hg (astep_field_o ht ho hf hx hM)) (by rw [put_eq hdd]; exact k)) hp k
theorem r_ld_o (ht : TyTab P tab) {T i ver j off e k' : Nat} {te : TE} {x : Operand} {pre : List D} {mo : Nat} {cells : List AV} (hg : o.guard = none) (ho : o.op = .load T x) (hT : tget tab T = some te) (hx : aval (look F) x = .eptr i ver j off) (hM : M[i]? = some (.rowo ver e k' pre mo cells)) {o' : Nat} (hj : j * k' + off = pre.length * k' + o') (hl : ldAV te (cells.drop o') = some out)
    (hdd : o.dst = some dt) (hd : dstB o.dst N = true) (hp : popF fo 1 = some fo') (k : RunX P ops N K r fo' M ((dt, out) :: F)) : RunX P ops N K (o :: r) fo M F :=
  RunX.mk (fun _ k => Run.quiet hd (StepG.plain hg (astep_load_o ht ho hT hx hM hj (ldAV_eq hl))) (by rw [put_eq hdd]; exact k)) hp k
theorem r_st_o (ht : TyTab P tab) {T i ver j off e k' : Nat} {te : TE} {x y : Operand} {pre : List D} {mo : Nat} {cells new : List AV} (hg : o.guard = none) (ho : o.op = .store T x y) (hT : tget tab T = some te) (hx : aval (look F) x = .eptr i ver j off) (hM : M[i]? = some (.rowo ver e k' pre mo cells)) {o' : Nat} (hj : j * k' + off = pre.length * k' + o')
    (hy : oneCsM M (cellsOf (aval (look F) y)) = true) (hsz : (cellsOf (aval (look F) y)).length = te.size) (hfit : Nat.ble (o' + te.size) cells.length = true) (hnew : nfs (putCells cells o' (cellsOf (aval (look F) y))) = some new) (hdd : o.dst = none) (hp : popF fo 2 = some fo')
    (k : RunX P ops N K r fo' (M.set i (.rowo ver e k' pre mo new)) F) : RunX P ops N K (o :: r) fo M F :=
  RunX.mk (fun _ k => Run.eff (by rw [hdd]; rfl) (StepG.plain hg (astep_store_o ht ho hT hx hM hj hy hsz hfit)) (by rw [put_none hdd, nfs_eq hnew]; exact k)) hp k
end
end Go.Proofs.Ytklodolkgdmhoaa

/- slices.Backward's closure over ints: a promise for whatever the loop's body is. -/
namespace Go.Proofs.Ytklodolkgdmhoaa
open Go Go.RowKit

attribute [local go_sem] Oper.semAt_some

def revs (n : Nat) : List (Fin n) := (List.finRange n).reverse
theorem revs_len (n : Nat) : (revs n).length = n := by simp [revs]
theorem revs_take_succ {n k : Nat} (hk : k < n) : (revs n).take (k + 1) = (revs n).take k ++ [⟨n - 1 - k, by omega⟩] := by
  rw [List.take_succ_eq_append_getElem (by rw [revs_len]; exact hk)]
  congr 2
  simp [revs]


set_option maxRecDepth 100000 in
set_option maxHeartbeats 4000000 in
theorem back_ints_in (l Bs bo b off cap : Nat) (zs : List Int) (hcap : zs.length ≤ 9223372036854775807) (Kp : World → World → Prop) (hKs : ∀ A B, Kp A B → B.cell? ⟨Bs, bo, none⟩ = A.cell? ⟨Bs, bo, none⟩) (hKb : ∀ A B j, Kp A B → B.cell? ⟨b, off + j, none⟩ = A.cell? ⟨b, off + j, none⟩)
    (J Jx : List (Fin zs.length) → World → Prop)
    (hY : ∀ pre x W, J pre W → pre.length < zs.length → YieldAt Fence.wide 0 Try.prog l #[.int .i64 (x.1 : Int), .int .i64 zs[x.1]] W fun e W' =>
      (e = .returned (.bool true) ∧ J (pre ++ [x]) W' ∧ Kp W W') ∨ (e = .returned (.bool false) ∧ Jx (pre ++ [x]) W'))
    (W : World) (hBs : W.cell? ⟨Bs, bo, none⟩ = some (.slice (some ⟨b, off, none⟩) zs.length cap)) (hc : ∀ j (hj : j < zs.length), W.cell? ⟨b, off + j, none⟩ = some (.int .i64 zs[j])) (h0 : J [] W) :
    CallsIn Fence.wide 1 Try.prog 52 #[.func (.yield l) #[] #[], .pointer (some ⟨Bs, bo, none⟩)] W fun e W' => (∃ v, e = .returned v) ∧
      ((∃ ys, ys = revs zs.length ∧ J ys W') ∨ (∃ pre, (∃ k, k ≤ zs.length ∧ pre = (revs zs.length).take k) ∧ Jx pre W')) := by
  refine callsIn_of_wp Try.func52 rfl trivial ?_ rfl
  simp only [Try.ntmps52, List.size_toArray, List.length_cons, List.length_nil, Nat.reduceAdd, Nat.reduceSub, Array.replicate_succ, Array.replicate_zero, List.push_toArray, List.append_toArray, List.nil_append, List.cons_append]
  gi_wp2
  gi_loopw [3] (fun i wr => ∃ k : Nat, k ≤ zs.length ∧ i = .int .i64 ((zs.length : Int) - 1 - k) ∧ J ((revs zs.length).take k) wr ∧ wr.cell? ⟨Bs, bo, none⟩ = some (.slice (some ⟨b, off, none⟩) zs.length cap) ∧ ∀ j (hj : j < zs.length), wr.cell? ⟨b, off + j, none⟩ = some (.int .i64 zs[j]))
    (fun i _ => (intOf i + 1).toNat)
  case atStart => exact ⟨0, Nat.zero_le _, by simp [wrap64], h0, hBs, hc⟩
  case round =>
    obtain ⟨k, hk, rfl, hJs, hcs, hcc⟩ := hrel
    by_cases hlt : k < zs.length
    · obtain ⟨m, hm⟩ : ∃ m : Nat, (zs.length : Int) - 1 - k = m := ⟨zs.length - 1 - k, by omega⟩
      have hml : m < zs.length := by omega
      rw [hm]
      obtain ⟨fn, tmps, assign, body, hy, hR⟩ := hY _ ⟨m, hml⟩ wr hJs (by rw [List.length_take, revs_len]; omega)
      dsimp only at hy
      have hcx := hcc m hml
      gi_wp2
      refine hR.mono ?_
      rintro e W3 (⟨rfl, hJ3, hk3⟩ | ⟨rfl, hJx3⟩)
      · gi_wp2
        go_roundw
        case rel =>
          refine ⟨k + 1, by omega, ?_, ?_, (hKs _ _ hk3).trans hcs, fun j hj => (hKb _ _ j hk3).trans (hcc j hj)⟩
          · simp [wrap64]; omega
          · rw [revs_take_succ hlt]
            have : (⟨zs.length - 1 - k, by omega⟩ : Fin zs.length) = ⟨m, hml⟩ := Fin.ext (by show zs.length - 1 - k = m; omega)
            rw [this]; exact hJ3
        case measure => simp [intOf]
      · gi_wp2
        refine bodyPost_ret (results_none rfl _ _ _) rfl ?_
        refine ⟨⟨_, rfl⟩, .inr ⟨_, ⟨k + 1, by omega, ?_⟩, hJx3⟩⟩
        rw [revs_take_succ hlt]
        congr 2
        exact Fin.ext (by show m = zs.length - 1 - k; omega)
    · obtain rfl : k = zs.length := by omega
      gi_wp2
      go_end0
      exact ⟨⟨_, rfl⟩, .inl ⟨_, by rw [List.take_of_length_le (by rw [revs_len]; exact Nat.le_refl _)], hJs⟩⟩
set_option maxRecDepth 100000 in
set_option maxHeartbeats 4000000 in
theorem back_ints_nil (l Bs bo cap : Nat) (A : Option Addr) (J : World → Prop) (W : World) (hBs : W.cell? ⟨Bs, bo, none⟩ = some (.slice A 0 cap)) (h0 : J W) :
    CallsIn Fence.wide 1 Try.prog 52 #[.func (.yield l) #[] #[], .pointer (some ⟨Bs, bo, none⟩)] W fun e W' => (∃ v, e = .returned v) ∧ J W' := by
  refine callsIn_of_wp Try.func52 rfl trivial ?_ rfl
  simp only [Try.ntmps52, List.size_toArray, List.length_cons, List.length_nil, Nat.reduceAdd, Nat.reduceSub, Array.replicate_succ, Array.replicate_zero, List.push_toArray, List.append_toArray, List.nil_append, List.cons_append]
  gi_wp2
  gi_loopw [3] (fun i wr => i = .int .i64 (-1) ∧ J wr) (fun _ _ => 0)
  case atStart => exact ⟨by simp [wrap64], h0⟩
  case round =>
    obtain ⟨rfl, hJs⟩ := hrel
    gi_wp2
    go_end0
    exact ⟨⟨_, rfl⟩, hJs⟩
end Go.Proofs.Ytklodolkgdmhoaa

/- The engine: ranges over slices.Backward. -/
namespace Go.Proofs.Ytklodolkgdmhoaa
open Go Go.RowKit

def iD (i : Int) : D := .val (.int .i64 i)
/-- What the closure of slices.Backward promises. -/
def BackSeq (P : Program) (f : FuncId) (k : Nat) (es : List D) (n : Nat) (val : Fin n → Value) : Prop :=
  ∀ (g0 off0 : Nat) (w : World) (imm : Nat → Prop) (sv : Value), imm g0 → w.cell? ⟨g0, off0, none⟩ = some sv → DenC w imm (.sl k es) [sv] →
    SeqStopsK Fence.wide 1 P f #[.pointer (some ⟨g0, off0, none⟩)] (fun x : Fin n => #[.int .i64 (x.1 : Int), val x]) (fun A B => ∀ b, imm b → B.heap[b]? = A.heap[b]?) (fun ys => ys = revs n) (fun pre => ∃ k, k ≤ n ∧ pre = (revs n).take k) n w

theorem den_ints {w : World} {imm : Nat → Prop} : ∀ {zs : List Int} {rows : List Value}, DenCs w imm (zs.map iD) rows → rows = zs.map (Value.int .i64)
  | [], _, h => h
  | z :: zs, _, ⟨c1, c2, h1, h2, h3⟩ => by rw [h1, h2.1, den_ints h3]; rfl
theorem below_cells {n₀ : Nat} {A B : World} (h : Below n₀ A B) {b off : Nat} (hb : b < n₀) : B.cell? ⟨b, off, none⟩ = A.cell? ⟨b, off, none⟩ := h.cell (p := ⟨b, off, none⟩) hb
theorem cell_lt {w : World} {b off : Nat} {u : Value} (hu : w.cell? ⟨b, off, none⟩ = some u) : b < w.heap.size := by
  rcases Nat.lt_or_ge b w.heap.size with h | h
  · exact h
  · unfold World.cell? at hu
    rw [Array.getElem?_eq_none h] at hu
    cases hu
theorem back_ints (zs : List Int) : BackSeq Try.prog 52 1 (zs.map iD) zs.length (fun x => .int .i64 zs[x.1]) := by
  intro g0 off0 w imm sv hi hsv hd l J Jx W hW _ _ hY h0
  obtain ⟨A, n, c, h1, h2, h3, h4, h5, h6⟩ := hd
  cases h1
  rw [List.length_map] at h2
  have hc0 := (below_cells hW (cell_lt hsv)).trans hsv
  rcases Nat.eq_zero_or_pos n with hz | hp
  · have hz' : zs.length = 0 := by omega
    rw [hz] at hc0
    refine (back_ints_nil l g0 off0 c A (fun W => J [] W) W hc0 h0).mono fun e W' ⟨he, hj⟩ => ⟨he, .inl ⟨[], ?_, hj⟩⟩
    have : (revs zs.length).length = 0 := by rw [revs_len, hz']
    exact (List.eq_nil_of_length_eq_zero this).symm
  · obtain ⟨g, off, rows, k1, k2, k3, k4⟩ := h6 hp
    have k5 := den_ints k3
    subst k5
    rw [k1, h2] at hc0
    have hcells : ∀ j (hj : j < zs.length), w.cell? ⟨g, off + j, none⟩ = some (.int .i64 zs[j]) := fun j hj => k4 j _ (by rw [List.getElem?_map, List.getElem?_eq_getElem hj]; rfl)
    refine back_ints_in l g0 off0 g off c zs (by have e : maxLen = 9223372036854775807 := rfl; omega) _ (fun A B h => World.cell?_of_block (a := ⟨g0, off0, none⟩) (h g0 hi)) (fun A B j h => World.cell?_of_block (a := ⟨g, off + j, none⟩) (h g k2)) J Jx hY W hc0 (fun j hj => ?_) h0
    exact (below_cells hW (cell_lt (hcells j hj))).trans (hcells j hj)

theorem wpIn_n {L : Option Nat} {n m : Nat} {P : Program} {c : Code} {Q : Exit → Act → World → Prop} {a : Act} {w : World} (h : c.wpIn (Fen L) n P Q a w) : c.wpIn (Fen L) m P Q a w :=
  fun b k cs hro hb _ => h b k cs hro hb (fun _ hd => by cases hd)
theorem DefOk.ne {B D : Nat} {w : World} (hD : w.heap.size ≤ D) : ∀ {ds : List Deferred}, DefOk B ds w → ∀ d' ∈ ds, d' ≠ { target := .collected D, args := #[] }
  | [], _, d', h => by cases h
  | _ :: _, ⟨⟨D', h1, h2, h3, h4⟩, h5⟩, d', h => by
    rcases List.mem_cons.1 h with rfl | h
    · rw [h1]
      intro e
      injection e with e
      injection e with e
      have := heap_lt h3
      omega
    · exact DefOk.ne hD h5 d' h
section
variable {M : List AB} {β : Env} {w w' : World} {S : Nat → Prop} {B : Nat}
def NoIter (M : List AB) : Prop := ∀ ab ∈ M, ab.isIter = false
theorem MemSat.up (hm : MemSat S B M β w) : MemSat (fun b => S b ∨ B ≤ b) w.heap.size M β w :=
  have hi0 : ∀ b, immOf S B M β w b → immOf (fun b => S b ∨ B ≤ b) w.heap.size M β w b := fun b hb => ⟨.inl hb.1, hb.2⟩
  ⟨Nat.le_refl _, hm.inj, fun i ab hi => EntSat.on hi0 (fun _ _ _ h => h) (fun _ _ _ _ => rfl) (hm.ent i ab hi), fun b hl => .inl (hm.own b hl)⟩
theorem MemSat.down {B' : Nat} (hB : B ≤ B') (hB2 : B' ≤ w.heap.size) (hm : MemSat (fun b => S b ∨ B ≤ b) B' M β w) : MemSat S B M β w :=
  have hi0 : ∀ b, immOf (fun b => S b ∨ B ≤ b) B' M β w b → immOf S B M β w b := fun b hb => ⟨hb.1.elim id (fun h => .inr (Nat.le_trans hB h)), hb.2⟩
  ⟨Nat.le_trans hB hB2, hm.inj, fun i ab hi => EntSat.on hi0 (fun _ _ _ h => h) (fun _ _ _ _ => rfl) (hm.ent i ab hi), fun b hl => (hm.own b hl).elim id (fun h => .inr (Nat.le_trans hB h))⟩
theorem MemSat.cells_live (hm : MemSat S B M β w) (hn : NoIter M) {k : Nat} {o : Obj} (hk : w.heap[k]? = some o) (ho : o.isCells = false) : ¬ live M β k := by
  rintro ⟨i, ab, c, hi, ha, hb⟩
  have he := hm.ent i ab hi
  cases ab with
  | gone => cases ha
  | box e cells => obtain ⟨g', c', cs, h1, h2, _⟩ := he; rw [hb] at h1; cases h1; rw [hk] at h2; cases h2; cases ho
  | iter s p => have := hn _ (List.mem_of_getElem? hi); cases this
  | rowo v e k pre mo cells => obtain ⟨_, _, g', c', cs, h1, ⟨fz, h2, _⟩, _⟩ := he; rw [hb] at h1; cases h1; rw [hk] at h2; cases h2; cases ho
  | row v e k es =>
    rcases he.2 with ⟨h1, _⟩ | ⟨g', c', cs, h1, ⟨fz, h2, _⟩, _⟩
    · rw [hb] at h1; cases h1
    · rw [hb] at h1; cases h1; rw [hk] at h2; cases h2; cases ho
theorem turned_of_grown {B' : Nat} {row : Option Nat} (hn : NoIter M) (hg : w.grownBy w' row) (hr : ∀ r, row = some r → B' ≤ r ∧ ∃ o : Obj, w.heap[r]? = some o ∧ o.isCells = false) : Turned M B' w w' :=
  ⟨hg.os, hg.tape, hg.output, hg.size, fun b hb => by
    by_cases e : row = some b
    · obtain ⟨h1, o, h2, h3⟩ := hr b e
      exact .inr ⟨h1, o, h2, h3, .inr hn⟩
    · exact .inl (hg.block b hb (Ne.symm e))⟩
end

/-- A range over a slice from behind: whatever the body does, it is known what it makes of own memory; it may return. -/
theorem a_back {P : Program} {N : Nat} {S : Nat → Prop} {w0 : World} {M0 M : List AB} {β0 : Env} {F : List (Nat × AV)} {Q : Exit → AS → Prop} {f : FuncId} {k n : Nat} {es : List D} {val : Fin n → Value} (hseq : BackSeq P f k es n val) (hcall : Callable P f)
    {g : Operand} {p q dd : Tmp} {assign body : Code} (hg : aval (look F) g = .cl f [.dptr [.sl k es]]) (hpN : (Nat.blt p N && Nat.blt q N) = true) (upF : Fin n → List (Nat × AV)) (a₁ : Act → Fin n → Act)
    (hassign : ∀ (l : Nat) (a : Act) (x : Fin n) (W : World) (K : Act → World → Prop), K (a₁ a x) W → assign.wpIn (Fen (some l)) 0 P (Exit.then K (fun _ _ _ => False)) { tmps := (a.tmps.setIfInBounds p (.int .i64 (x.1 : Int))).setIfInBounds q (val x), defers := [] } W)
    (ha₁ : ∀ (a : Act) (x : Fin n), a.tmps.size = N → (a₁ a x).tmps.size = N ∧ (a₁ a x).defers = [] ∧ ∀ (M : List AB) (β : Env) (w : World) (imm : Nat → Prop), (∀ d, AVsat M β w imm (look F d) (a.tmps.getD d undef)) → ∀ d, AVsat M β w imm (look (upF x) d) ((a₁ a x).tmps.getD d undef))
    (Mf Mx : List (Fin n) → List AB) (Good GoodX : List (Fin n) → Prop) (hM : Mf [] = M) (hn : ∀ pre, NoIter (Mf pre)) (hnx : ∀ pre, NoIter (Mx pre)) (h0 : Good [])
    (hbody : ∀ (l : Nat) (S : Nat → Prop) (w1 : World) (β1 : Env) (pre : List (Fin n)) (x : Fin n), Good pre → pre.length < n → AWp ⟨P, N, S, w1, Mf pre, β1, some l⟩ body ⟨Mf pre, upF x⟩
      (fun e s' => (e = .normal ∧ Good (pre ++ [x]) ∧ ∃ F', Fits ⟨P, N, S, w1, Mf pre, β1, some l⟩ s' ⟨Mf (pre ++ [x]), F'⟩) ∨ (e = .ret ∧ GoodX (pre ++ [x]) ∧ ∃ F', Fits ⟨P, N, S, w1, Mf pre, β1, some l⟩ s' ⟨Mx (pre ++ [x]), F'⟩)))
    (hdone : Good (revs n) → Q .normal ⟨Mf (revs n), F⟩) (hstop : ∀ k, k ≤ n → GoodX ((revs n).take k) → Q .ret ⟨Mx ((revs n).take k), F⟩) :
    AWp ⟨P, N, S, w0, M0, β0, none⟩ (.rangeFunc g #[p, q] assign body) ⟨M, F⟩ Q := by
  subst hM
  rintro a w ⟨h1, h2, β, h3, h4, h5⟩
  simp only at h1 h2 h3 h4 h5
  have hgv := aval_sat (F := look F) h5 g
  rw [hg] at hgv
  obtain ⟨cs, hv, v, r, hcs, ⟨g0, off0, cs', hv2, himm, ⟨sv, r', hcs', hsl, hr'⟩, hcell⟩, hr⟩ := hgv
  have hr : r = [] := hr
  have hr' : r' = [] := hr'
  subst hr hr' hv2
  have ecs : cs = #[.pointer (some ⟨g0, off0, none⟩)] := Array.toList_inj.1 hcs
  subst ecs
  have hsv := hcell 0 sv (by rw [hcs']; rfl)
  let Imm := immOf S w0.heap.size (Mf []) β w
  refine wpIn_n (n := 2) (wpIn_rangeFunc_ownF (F := Fence.wide) (n := 2) (Kp := fun A B => ∀ b, Imm b → B.heap[b]? = A.heap[b]?) rfl (by decide) hv trivial (fun args w => hcall args w) (hseq g0 off0 w Imm sv himm hsv hsl)
    (fun h k b hb => (k b hb).trans (h b hb)) (fun W l o o' hl _ _ _ b hb => World.putObj_heap_other (by have := hb.2.1; omega)) (Below.refl _ _) (fun _ => rfl)
    (fun pre W => Good pre ∧ ∃ β', MemSat S w0.heap.size (Mf pre) β' W ∧ Ev (Mf []) β w (Mf pre) β' W) (fun c pre W => c = .ret ∧ GoodX pre ∧ ∃ β', MemSat S w0.heap.size (Mx pre) β' W ∧ Ev (Mf []) β w (Mx pre) β' W)
    ?_ ?_ ⟨h0, β, h3, Ev.refl _ _ _⟩ (a₁ a) (fun l x W K hK => ?_) (fun l pre x W hI hlen => ?_) (fun D xs W hD hS hI hheap => ?_) (fun D c pre W hD hSp hI hheap => ?_))
  · rintro pre W W' row ⟨k0, β', k1, k2⟩ hg hr
    have ht := turned_of_grown (hn pre) hg hr
    exact ⟨k0, β', k1.turn ht, k2.turn ht (Nat.le_refl _)⟩
  · rintro c pre W W' row ⟨k00, k0, β', k1, k2⟩ hg hr
    have ht := turned_of_grown (hnx pre) hg hr
    exact ⟨k00, k0, β', k1.turn ht, k2.turn ht (Nat.le_refl _)⟩
  · have := hassign l a x W K hK
    change assign.wpIn (Fen (some l)) _ _ _ _ _
    simpa using this
  · obtain ⟨hgood, β', hm, he⟩ := hI
    obtain ⟨e1, e2, e3⟩ := ha₁ a x h1
    have hBW : w0.heap.size ≤ W.heap.size := hm.lo
    have hs : Sat ⟨P, N, fun b => S b ∨ w0.heap.size ≤ b, W, Mf pre, β', some l⟩ ⟨Mf pre, upF x⟩ (a₁ a x) W := by
      refine ⟨e1, by rw [e2]; trivial, β', hm.up, Ev.refl _ _ _, ?_⟩
      refine e3 _ _ _ _ fun d => ?_
      exact AVsat.on (fun b hb => ⟨.inl hb.1, hb.2⟩) (fun _ _ _ h => h) _ _ ((h5 d).ev he)
    refine wpIn_mono (hbody l _ W β' pre x hgood hlen _ _ hs) fun e a3 W3 ⟨s', hq, hs'⟩ => ?_
    have key : ∀ M3 F3 β3, Sat ⟨P, N, fun b => S b ∨ w0.heap.size ≤ b, W, Mf pre, β', some l⟩ s' a3 W3 → MemSat (fun b => S b ∨ w0.heap.size ≤ b) W.heap.size M3 β3 W3 → Ev (Mf pre) β' W M3 β3 W3 →
        (F3 : List (Nat × AV)) = F3 → KeepsOthers W W3 ∧ (∀ b, Imm b → W3.heap[b]? = W.heap[b]?) ∧ MemSat S w0.heap.size M3 β3 W3 ∧ Ev (Mf []) β w M3 β3 W3 := by
      intro M3 F3 β3 _ hm3 he3 _
      refine ⟨⟨he3.size, fun k o hk ho => (he3.keep k (heap_lt hk) (hm.cells_live (hn pre) hk ho)).trans hk⟩, fun b hb => he3.keep b (Nat.lt_of_lt_of_le hb.2.1 he.size) fun hl => ?_, hm3.down hBW he3.size, he.trans he3⟩
      rcases he.new b hl with h | h
      · exact hb.2.2 h
      · have := hb.2.1; omega
    rcases hq with ⟨rfl, hg', F', hfits⟩ | ⟨rfl, hg', F', hfits⟩
    · obtain ⟨_, _, β3, hm3, he3, _⟩ := hfits _ _ hs'
      obtain ⟨q1, q2, q3, q4⟩ := key _ F' β3 hs' hm3 he3 rfl
      exact ⟨q1, q2, hg', β3, q3, q4⟩
    · obtain ⟨_, _, β3, hm3, he3, _⟩ := hfits _ _ hs'
      obtain ⟨q1, q2, q3, q4⟩ := key _ F' β3 hs' hm3 he3 rfl
      exact ⟨q1, rfl, hg', β3, q3, q4⟩
  · obtain ⟨hgood, β', hm, he⟩ := hI
    subst hS
    exact ⟨_, hdone hgood, h1, ⟨⟨D, rfl, Nat.le_trans h3.lo hD, hheap, h2.ne hD⟩, h2.ev h3 he⟩, β', hm, h4.trans he, fun d => (h5 d).ev he⟩
  · obtain ⟨rfl, hgood, β', hm, he⟩ := hI
    obtain ⟨k, hk, rfl⟩ := hSp
    refine wpIn_ret ⟨_, hstop k hk hgood, h1, ⟨⟨D, rfl, Nat.le_trans h3.lo hD, hheap, h2.ne hD⟩, h2.ev h3 he⟩, β', hm, h4.trans he, fun d => (h5 d).ev he⟩
end Go.Proofs.Ytklodolkgdmhoaa

/- The engine: places in arrays; results that are cells; blocks without zeros; closures let go. -/
namespace Go.Proofs.Ytklodolkgdmhoaa
open Go Go.RowKit

def arrOf (tab : List (Nat × TE)) (T : Nat) : Option (Nat × Nat × TE) :=
  match tget tab T with
  | some te => match te.kind with
    | .array n e => match tget tab e with
      | some ee => some (n, e, ee)
      | none => none
    | _ => none
  | none => none
theorem arrOf_spec {P : Program} {tab : List (Nat × TE)} (ht : TyTab P tab) {T n e : Nat} {ee : TE} (h : arrOf tab T = some (n, e, ee)) : P.underlying T = some (.array n e) ∧ teOf P e = some ee := by
  unfold arrOf at h
  split at h
  · rename_i te hte
    split at h
    · rename_i n' e' hk
      split at h
      · rename_i ee' hee
        cases h
        obtain ⟨d, i', z, hd, hkd, _⟩ := teOf_spec (ht.get hte)
        cases d <;> simp [kindOf, hk] at hkd
        obtain ⟨rfl, rfl⟩ := hkd
        exact ⟨hd, ht.get hee⟩
      · cases h
    · cases h
  · cases h
section
variable {P : Program} {o : Oper} {M M' : List AB} {ρ : Operand → AV} {out : AV} {tab : List (Nat × TE)}
theorem astep_idxa (ht : TyTab P tab) {T n e : Nat} {ee : TE} {x y : Operand} {q : IntKind} {c : Int} (ho : o.op = .indexAddr T x y) (hT : arrOf tab T = some (n, e, ee)) (hy : ρ y = .val (.int q c)) (hc : 0 ≤ c ∧ c < n)
    (hx : shiftP (c.toNat * ee.size) (ρ x) = some out) (hne : ∀ i ver j o, ρ x ≠ .eptr i ver j o) : AStep P o M ρ M out :=
  .value fun S B β a w _ hs => by
    have h1 := hs x (by simp [ho, Op.operands])
    have h2 := hs y (by simp [ho, Op.operands])
    rw [hy] at h2
    have h2 : a.eval y = .int q c := h2
    obtain ⟨hu, he⟩ := arrOf_spec ht hT
    obtain ⟨g, o', h3 | ⟨i, ver, j, o', h3⟩⟩ := shiftP_sat hx h1
    · refine ⟨_, ?_, h3.2⟩
      simp [execOp, ho, h2, h3.1, Instr.indexAt, asIntOf, run_underlying hu, Instr.sureAddr, hc, run_sizeOf he, addr_add]
    · exact absurd h3 (hne _ _ _ _)
/-- A block of whatever bytes, none of which is looked at. -/
def nzV (n : Nat) : Nat → Option (Nat × Nat) → Nat → Value → Prop := fun _ b _ v => ∃ g c, b = some (g, c) ∧ v = .slice (some ⟨g, 0, none⟩) n c
theorem astep_nozero {f : FuncId} {fn : Func} {x : Operand} {ts : Array TypeId} {t e : TypeId} {ps : Array TypeId} {n : Nat} (hf : P.funcs[f]? = some fn) (hname : (fn.name == "runtime.NumGoroutine") = false) (hb : fn.body.isNone = true) (hn : Extern.findNext fn = none) (he : Extern.find fn = some (Extern.BytealgMakeNoZero.makeNoZero ps #[t]))
    (ht : P.underlying t = some (.slice e)) (ho : o.op = .call { callee := .value (.func f), args := #[x], argTypes := ts }) (hx : ρ x = .val (.int .i64 n)) (hle : n ≤ 281474976710656) :
    AStep P o M ρ (M ++ [.row 1 e 1 []]) (.vw M.length 1 (nzV n)) := by
  intro S B β a w hm hs K Q hK
  have h1 := hs x (by simp [ho, Op.operands, Call.operands])
  rw [hx] at h1
  have h1 : a.eval x = .int .i64 n := h1
  have hr := run_callFunc_extern hf hname hb hn he (#[x].map a.eval) w
  have e1 : #[x].map a.eval = #[.int .i64 n] := by simp [h1]
  rw [e1] at hr
  obtain ⟨cs, hrun, hle1, hle2⟩ := Lib.run_makeNoZero (P := P) w ps t e ht n hle
  rw [hrun] at hr
  have hb' : Below w.heap.size w (w.drew.drew.alloc (.cells cs e)) := (((Below.refl _ w).drew).drew).alloc (Nat.le_refl _) _
  obtain ⟨k1, k2⟩ := hm.push (ab := .row 1 e 1 []) (x := some (w.heap.size, cs.size)) hb' (fun g c h => by cases h; exact Nat.le_refl _)
    (fun hE => ⟨fun d hd => by simp at hd, .inr ⟨w.heap.size, cs.size, cs, rfl, .of0 (heap_alloc_new w.drew.drew _), Nat.zero_le _, hle2 (by simp only [maxLen]; omega), by simp, by simp [DenCs]⟩⟩)
  unfold Oper.wp
  have hex : (execOp a.eval o).run P w = .ok (.value (.slice (some ⟨w.heap.size, 0, none⟩) n cs.size)) (w.drew.drew.alloc (.cells cs e)) := by
    refine run_ext ho a ?_
    rw [e1]
    exact hr
  rw [hex]
  exact hK _ _ _ k1 k2 ⟨.row 1 e 1 [], by simp, Nat.le_refl _, fun _ => ⟨w.heap.size, cs.size, by simp, rfl⟩⟩
theorem astep_vwcut {T e i ver n k e' : Nat} {x y : Operand} {q : IntKind} {ee : TE} (ht : TyTab P tab) (ho : o.op = .slice T x none (some y) none) (hT : elemOf_ tab T = some (e, ee)) (hx : ρ x = .vw i ver (nzV n)) (hy : ρ y = .val (.int q 0)) (hM : M[i]? = some (.row ver e' k [])) : AStep P o M ρ M (.row i ver) :=
  .value fun S B β a w _ hs => by
    have h1 := hs x (by simp [ho, Op.operands])
    have h2 := hs y (by simp [ho, Op.operands])
    rw [hx] at h1; rw [hy] at h2
    have h2 : a.eval y = .int q 0 := h2
    obtain ⟨ab, k1, k2⟩ := h1
    rw [hM] at k1; cases k1
    obtain ⟨g, c, k3, k4⟩ := k2.2 rfl
    obtain ⟨hu, he⟩ := elemOf_spec ht hT
    obtain ⟨hu', he'⟩ := elem_of hu
    have hsz := run_sizeOf (P := P) (w := w) he
    rw [← he'] at hsz
    refine ⟨rowVal (β i) 0, ?_, _, hM, Nat.le_refl _, fun _ => rfl⟩
    have e := run_slice_h (P := P) w T (some ⟨g, 0, none⟩) n c hu' q 0 (Int.le_refl _) (by omega)
    simp only [execOp, ho, k4, Sem.run_bind, run_sliceAt_slice _ _ _ _ _ _ hu']
    simp [h2, e, hsz, k3, rowVal, sliced, addr_add]
theorem astep_copy0 {T U e i ver k e' : Nat} {x y : Operand} {A : Option Addr} {n c : Nat} {ee : TE} (ht : TyTab P tab) (ho : o.op = .call { callee := .builtin .copy, args := #[x, y], argTypes := #[T, U] }) (hT : elemOf_ tab T = some (e, ee)) (h1e : (P.info? e).map (·.size) = some 1) (hx : ρ x = .row i ver) (hM : M[i]? = some (.row ver e' k [])) (hy : ρ y = .val (.slice A n c)) :
    AStep P o M ρ M (.val (.int .i64 0)) :=
  .value fun S B β a w hm hs => by
    have h1 := hs x (by simp [ho, Op.operands, Call.operands])
    have h2 := hs y (by simp [ho, Op.operands, Call.operands])
    rw [hx] at h1; rw [hy] at h2
    have h2 : a.eval y = .slice A n c := h2
    obtain ⟨h3, h4⟩ := row_val hm hM h1
    obtain ⟨A', c', h5⟩ := rowVal_form (β i) 0 (fun _ => rfl)
    rw [show ([] : List D).length = 0 from rfl] at h3
    rw [h5] at h3
    have e := run_copy_none (P := P) w T U o.type e A' A 0 c' n c (elemOf_spec ht hT).1 h1e (by simp)
    exact ⟨.int .i64 0, by simp [execOp, ho, h2, h3, resolve, invoke, builtin, e, goInt], rfl⟩
theorem astep_cap0 {T e : Nat} {x : Operand} {ee : TE} (ht : TyTab P tab) (ho : o.op = .call { callee := .builtin .cap, args := #[x], argTypes := #[T] }) (hT : elemOf_ tab T = some (e, ee)) (hx : ρ x = .val (.slice none 0 0)) : AStep P o M ρ M (.val (.int .i64 0)) :=
  .value fun S B β a w hm hs => by
    have h1 := hs x (by simp [ho, Op.operands, Call.operands])
    rw [hx] at h1
    have h1 : a.eval x = .slice none 0 0 := h1
    exact ⟨.int .i64 0, by simp [execOp, ho, h1, resolve, invoke, builtin, Builtin.cap_, run_underlying (elemOf_spec ht hT).1, goInt], rfl⟩
end
section
variable {P : Program} {ops : Array Oper} {N : Nat} {K : AS → Prop} {o : Oper} {r : List Oper} {fo fo' : Option (List Nat)} {M M' : List AB} {F : List (Nat × AV)} {dt : Tmp} {tab : List (Nat × TE)} {out : AV}
theorem r_idxa (ht : TyTab P tab) {T n e : Nat} {ee : TE} {x y : Operand} {q : IntKind} {c : Int} (hg : o.guard = none) (ho : o.op = .indexAddr T x y) (hT : arrOf tab T = some (n, e, ee)) (hy : aval (look F) y = .val (.int q c)) (hc : (Nat.ble 0 0 && decide (0 ≤ c) && decide (c < n)) = true)
    (hx : shiftP (c.toNat * ee.size) (aval (look F) x) = some out) (hdd : o.dst = some dt) (hd : dstB o.dst N = true) (hp : popF fo 0 = some fo') (k : RunX P ops N K r fo' M ((dt, out) :: F)) (hne : ∀ i ver j o, aval (look F) x ≠ .eptr i ver j o := by intro _ _ _ _ h; cases h) : RunX P ops N K (o :: r) fo M F :=
  RunX.mk (fun _ k => Run.pure_ hd (fun _ => StepG.plain hg (astep_idxa ht ho hT hy (by simpa using hc) hx hne)) (by rw [put_eq hdd]; exact k)) hp k
theorem r_idxa_cnd (ht : TyTab P tab) {j : Nat} {want c0 : Bool} {g : Tmp} {T n e : Nat} {ee : TE} {x y : Operand} {q : IntKind} {c : Int} (hg : o.guard = some (j, want)) (hj : dstOf ops j = some g) (hF : guardOf want (look F g) = some c0) (ho : o.op = .indexAddr T x y) (hT : arrOf tab T = some (n, e, ee)) (hy : aval (fun t => strip (look F t)) y = .val (.int q c)) (hc : (Nat.ble 0 0 && decide (0 ≤ c) && decide (c < n)) = true)
    (hx : shiftP (c.toNat * ee.size) (aval (fun t => strip (look F t)) x) = some out) (hdd : o.dst = some dt) (hd : dstB o.dst N = true) (hcs : c0 = true → condsOf (look F) o.op.operands.toList = true) (hp : popF fo 0 = some fo') (k : RunX P ops N K r fo' M ((dt, .cnd c0 out) :: F)) (hne : ∀ i ver j o, aval (fun t => strip (look F t)) x ≠ .eptr i ver j o := by intro _ _ _ _ h; cases h) : RunX P ops N K (o :: r) fo M F :=
  RunX.mk (fun _ k => Run.pure_ hd (fun _ => StepG.cnd hg hj hF hcs fun _ => astep_idxa ht ho hT hy (by simpa using hc) hx hne) (by rw [put_eq hdd]; exact k)) hp k
/-- A call that is handed own memory and hands back more of it. -/
theorem r_mcallx {f : FuncId} {xs : Array Operand} {ts : Array TypeId} {M0 M1 M'' : List AB} {cargs : List AV} {res out : AV} (σ : List Nat) (k0 : Nat) (hc : MCalls P f M0 cargs M1 res) (hcall : Callable P f) (hg : o.guard = none) (ho : o.op = .call { callee := .value (.func f), args := xs, argTypes := ts })
    (hemb : EmbM M (nth (σ ++ List.range' M.length k0)) σ M0) (hnd : σ.Nodup) (hσ : ∀ i ∈ σ, i < M.length) (hargs : Subs (xs.toList.map (aval (look F))) (AV.rens (nth (σ ++ List.range' M.length k0)) cargs)) (hn : M1.length = M0.length + k0) (hu : (AV.unders σ.length cargs && M0.all (AB.under σ.length)) = true)
    (hM' : setAll M σ ((M1.take M0.length).map (AB.ren (nth (σ ++ List.range' M.length k0)))) ++ (M1.drop M0.length).map (AB.ren (nth (σ ++ List.range' M.length k0))) = M'') (hr : nf (res.ren (nth (σ ++ List.range' M.length k0))) = some out) (hdd : o.dst = some dt) (hd : dstB o.dst N = true) (hp : popF fo 2 = some fo') (k : RunX P ops N K r fo' M'' ((dt, out) :: F)) : RunX P ops N K (o :: r) fo M F := by
  subst hM'
  have hlen := hemb.len
  have hl1 : (setAll M σ ((M1.take M0.length).map (AB.ren (nth (σ ++ List.range' M.length k0))))).length = M.length := setAll_len
  have hnd2 : (σ ++ List.range' M.length k0).Nodup := by
    rw [List.nodup_append]
    refine ⟨hnd, List.nodup_range', fun a ha b hb e => ?_⟩
    have h1 := hσ a ha
    simp only [List.mem_range'_1] at hb
    omega
  refine RunX.mk (fun _ k => Run.eff hd (StepG.plain hg (astep_mcallx σ (goes_f hcall ho) hc (σ ++ List.range' M.length k0) hemb (by simp) hnd2 (by simp; omega) (by simp [List.all_eq_true, List.mem_range'_1]; intro x h1 _; exact h1) (fun j hj => ?_) (fun i hi => ?_) hargs (by omega) hu)) (by rw [put_eq hdd, nf_eq hr]; exact k)) hp k
  · rcases Nat.lt_or_ge j σ.length with h | h
    · have e : (σ ++ List.range' M.length k0)[j]? = some σ[j] := by rw [List.getElem?_append_left h, List.getElem?_eq_getElem h]
      rw [nth_of e, List.getElem?_append_left (by rw [hl1]; exact hσ _ (List.getElem_mem h)), setAll_at hnd (by rw [List.length_map, List.length_take]; omega) (List.getElem?_eq_getElem h) (hσ _ (List.getElem_mem h)), List.getElem?_map, List.getElem?_take_of_lt (by omega)]
    · have hj2 : j - σ.length < k0 := by simp at hj; omega
      have e : (σ ++ List.range' M.length k0)[j]? = some (M.length + (j - σ.length)) := by rw [List.getElem?_append_right h, List.getElem?_range' hj2]; simp
      rw [nth_of e, List.getElem?_append_right (by rw [hl1]; omega), hl1, Nat.add_sub_cancel_left, List.getElem?_map, List.getElem?_drop]
      congr 2
      omega
  · have h1 : i ∉ σ := fun h => hi (by simp [h])
    rcases Nat.lt_or_ge i M.length with h | h
    · rw [List.getElem?_append_left (by rw [hl1]; exact h), setAll_ne h1]
    · have h2 : M.length + k0 ≤ i := by
        have : i ∉ List.range' M.length k0 := fun h => hi (by simp only [List.mem_append]; exact .inr h)
        simp only [List.mem_range'_1] at this
        omega
      rw [List.getElem?_eq_none (by simp only [List.length_append, hl1, List.length_map, List.length_drop]; omega), List.getElem?_eq_none (by omega)]
end
/-- A box that a closure has caught is let go: from now on it is data. -/
theorem fits_sink {cx : Cx} {M : List AB} {F : List (Nat × AV)} {i d T : Nat} {f : FuncId} {l : List AV} (hM : M[i]? = some (.box T l)) (hfr : AV.frees l = true) (hd : look F d = .cl f [.ptr i 0]) : Fits cx ⟨M, F⟩ ⟨M.set i .gone, (d, .cl f [.dptr l]) :: F⟩ := by
  rintro a w ⟨h1, h2, β, h3, h4, h5⟩
  obtain ⟨e1, e2⟩ := h3.let_go hM rfl
  refine ⟨h1, h2, β, e2, h4.trans e1, fun t => ?_⟩
  cases hb : Nat.beq d t with
  | false =>
    simp only [look, hb, cond_false]
    exact (h5 t).ev e1
  | true =>
    have := Nat.eq_of_beq_eq_true hb
    subst this
    simp only [look, hb, cond_true]
    have h6 := h5 d
    simp only at h6
    rw [hd] at h6
    obtain ⟨cs, hv, v, r, hcs, ⟨g, c, hβ, hvp, ab, _, _⟩, hr⟩ := h6
    refine ⟨cs, hv, v, r, hcs, ?_, hr⟩
    obtain ⟨g', c', bs, k1, k2, k3⟩ := h3.ent i _ hM
    rw [hβ] at k1; cases k1
    have hlive : live M β g := ⟨i, _, c, hM, rfl, hβ⟩
    refine ⟨g, 0, bs.toList, hvp, ⟨h3.own g hlive, heap_lt k2, ?_⟩, AVsats.free_ (fun _ => immOf.ev e1) (fun _ _ _ => rfl) _ _ hfr k3, fun j u hj => ?_⟩
    · rintro ⟨j, ab', c'', q1, q2, q3⟩
      by_cases e : j = i
      · subst e
        rw [List.getElem?_set_self (List.getElem?_eq_some_iff.1 hM).1] at q1
        cases q1; cases q2
      · rw [List.getElem?_set_ne (Ne.symm e)] at q1
        exact e (h3.inj j i _ _ g c'' c q1 q2 q3 hM rfl hβ)
    · rw [Nat.zero_add, cell_of_row w g j bs T (0, 0) k2]
      simpa using hj
/-- An own box that is not written any more, let go: what points to it reads it. -/
theorem fits_sinkp {cx : Cx} {M : List AB} {F : List (Nat × AV)} {i d T : Nat} {l : List AV} (hM : M[i]? = some (.box T l)) (hfr : AV.frees l = true) (hd : look F d = .ptr i 0) : Fits cx ⟨M, F⟩ ⟨M.set i .gone, (d, .dptr l) :: F⟩ := by
  rintro a w ⟨h1, h2, β, h3, h4, h5⟩
  obtain ⟨e1, e2⟩ := h3.let_go hM rfl
  refine ⟨h1, h2, β, e2, h4.trans e1, fun t => ?_⟩
  cases hb : Nat.beq d t with
  | false =>
    simp only [look, hb, cond_false]
    exact (h5 t).ev e1
  | true =>
    have := Nat.eq_of_beq_eq_true hb
    subst this
    simp only [look, hb, cond_true]
    have h6 := h5 d
    simp only at h6
    rw [hd] at h6
    obtain ⟨g, c, hβ, hvp, ab, _, _⟩ := h6
    obtain ⟨g', c', bs, k1, k2, k3⟩ := h3.ent i _ hM
    rw [hβ] at k1; cases k1
    have hlive : live M β g := ⟨i, _, c, hM, rfl, hβ⟩
    refine ⟨g, 0, bs.toList, hvp, ⟨h3.own g hlive, heap_lt k2, ?_⟩, AVsats.free_ (fun _ => immOf.ev e1) (fun _ _ _ => rfl) _ _ hfr k3, fun j u hj => ?_⟩
    · rintro ⟨j, ab', c'', q1, q2, q3⟩
      by_cases e : j = i
      · subst e
        rw [List.getElem?_set_self (List.getElem?_eq_some_iff.1 hM).1] at q1
        cases q1; cases q2
      · rw [List.getElem?_set_ne (Ne.symm e)] at q1
        exact e (h3.inj j i _ _ g c'' c q1 q2 q3 hM rfl hβ)
    · rw [Nat.zero_add, cell_of_row w g j bs T (0, 0) k2]
      simpa using hj
/-- A result that is a variable. -/
theorem ret1c {P : Program} {fn : Func} {res x : AV} {e : Exit} {M : List AB} {F : List (Nat × AV)} {t : Tmp} {ty : TypeId} {te : TE} {i off e' : Nat} {cells : List AV} {tab : List (Nat × TE)} (ht : TyTab P tab) (he : e = .normal ∨ e = .ret) (hr : fn.results.toList = [.cell t ty]) (hte : tget tab ty = some te)
    (hp : look F t = .ptr i off) (hM : M[i]? = some (.box e' cells)) (hx : loadAV te (cells.drop off) = some x) (hf : x.free = true) (h : Sub x res) : retQ P fn res e ⟨M, F⟩ :=
  ⟨he, [x], by rw [hr]; exact .cons (.cell (ht.get hte) hp hM hx hf) .nil, h⟩
end Go.Proofs.Ytklodolkgdmhoaa

/- The engine: a range over slices.Backward that takes the value alone. -/
namespace Go.Proofs.Ytklodolkgdmhoaa
open Go Go.RowKit

section
variable {P : Program} {ops : Array Oper} {N : Nat} {K : AS → Prop} {o : Oper} {r : List Oper} {fo fo' : Option (List Nat)} {M M' : List AB} {F : List (Nat × AV)} {dt : Tmp} {tab : List (Nat × TE)} {out : AV}
/-- A row's word stored in a box: its number may be any. -/
theorem r_st_row (ht : TyTab P tab) {T i off e iy ver ey k' : Nat} {te : TE} {x y : Operand} {cells l : List AV} {es : List D} (hg : o.guard = none) (ho : o.op = .store T x y) (hx : aval (look F) x = .ptr i off) (hM : M[i]? = some (.box e cells)) (hT : tget tab T = some te) (hsz : te.size = 1) (hoff : Nat.ble (off + 1) cells.length = true)
    (hy : aval (look F) y = .row iy ver) (hMy : M[iy]? = some (.row ver ey k' es)) (hl : nfs (putCells cells off [.row iy ver]) = some l) (hdd : o.dst = none) (hp : popF fo 2 = some fo') (k : RunX P ops N K r fo' (M.set i (.box e l)) F) : RunX P ops N K (o :: r) fo M F := by
  refine r_st ht (out := .val undef) hg ?_ hdd hp k
  have e1 : oneCsM M (cellsOf (aval (look F) y)) = true := by
    rw [hy]
    simp [cellsOf, oneCsM, oneCM, freshRow, hMy]
  have e2 : cellsOf (aval (look F) y) = [.row iy ver] := by rw [hy]; rfl
  rw [ho]
  rw [e2] at e1
  simp only [wrM, hx, hM, hT, e2]
  rw [hsz, hoff, hl, e1]
  rfl
end
theorem okFz.freeze {v m n : Nat} {fz : Nat × Nat} (h : okFz v m fz n) (hv : sealed v = true) : okFz v m (if fz.1 == fz.2 then (0, 0 + m) else (min fz.1 0, max fz.2 (0 + m))) n := by
  unfold okFz at h ⊢
  rw [hv] at h ⊢
  have h : fz.2 ≤ m := h
  show (if fz.1 == fz.2 then (0, 0 + m) else (min fz.1 0, max fz.2 (0 + m))).2 ≤ m
  split
  · simp
  · simp; omega
/-- unsafe.String of a row of odd number: the row stays, its elements frozen. -/
theorem astep_ustrk {P : Program} {o : Oper} {M : List AB} {ρ : Operand → AV} {T U i ver e : Nat} {x y : Operand} {l : List UInt8} (ht : P.underlying T = some (.pointer e)) (hce : P.cellsOf e = 1) (ho : o.op = .call { callee := .builtin .unsafeString, args := #[x, y], argTypes := #[T, U] }) (hx : ρ x = .eptr i ver 0 0) (hy : ρ y = .val (.int .i64 (l.map bD).length))
    (hM : M[i]? = some (.row ver e 1 (l.map bD))) (hne : l ≠ []) (hv : sealed ver = true) : AStep P o M ρ M (.val (.string ⟨l.toArray⟩)) := by
  intro S B β a w hm hs K Q hK
  have h1 := hs x (by simp [ho, Op.operands, Call.operands])
  have h2 := hs y (by simp [ho, Op.operands, Call.operands])
  rw [hx] at h1; rw [hy] at h2
  rw [List.length_map] at h2
  have h2 : a.eval y = .int .i64 l.length := h2
  obtain ⟨ab, k1, k2⟩ := h1
  rw [hM] at k1; cases k1
  obtain ⟨g, c, hb, k3⟩ := k2.2 rfl
  obtain ⟨hw, ⟨h7, _⟩ | ⟨g', c', cs, h7, h8, h9, h10, h11, h12⟩⟩ := hm.ent i _ hM
  · rw [hb] at h7; cases h7
  rw [hb] at h7; cases h7
  have hrows := DenCs_bytes_eq h12
  have h8' := h8
  obtain ⟨fz, g1, g2⟩ := h8'
  have h9' := h9
  rw [List.length_map] at h9
  have hr := Lib.run_unsafeString_row (P := P) w T U o.type e ht hce g cs.size (by simp [World.shape?, g1]) l hne (by omega) (by simp only [maxLen] at h10; omega) (fun j x hj => by
    rw [addr_add, Nat.zero_add, h8.cell]
    have h13 : (cs.toList.take ((l.map bD).length * 1))[j]? = some (.int .u8 x.toNat) := by rw [hrows]; simp [hj]
    rw [List.getElem?_take] at h13
    split at h13
    · simpa using h13
    · cases h13)
  have hrun : (execOp a.eval o).run P w = .ok (.value (.string ⟨l.toArray⟩)) (w.freeze ⟨g, 0, none⟩ l.length) := by
    simp [execOp, ho, h2, k3, resolve, invoke, builtin, hr]
  unfold Oper.wp
  rw [hrun]
  have hl0 : ¬ l.length = 0 := fun h => hne (List.eq_nil_of_length_eq_zero h)
  have hsz : (w.freeze ⟨g, 0, none⟩ l.length).heap.size = w.heap.size ∧ (∀ b, b ≠ g → (w.freeze ⟨g, 0, none⟩ l.length).heap[b]? = w.heap[b]?) ∧ (w.freeze ⟨g, 0, none⟩ l.length).os = w.os ∧ (w.freeze ⟨g, 0, none⟩ l.length).tape = w.tape ∧ (w.freeze ⟨g, 0, none⟩ l.length).output = w.output := by
    unfold World.freeze
    rw [if_neg hl0]
    refine ⟨by simp, fun b hne => ?_, rfl, rfl, rfl⟩
    simp only [Array.getElem?_modify]
    rw [if_neg (fun e => hne e.symm)]
  have hheap : (w.freeze ⟨g, 0, none⟩ l.length).heap[g]? = some (.cells cs e (if fz.1 == fz.2 then (0, 0 + l.length) else (min fz.1 0, max fz.2 (0 + l.length)))) := by
    unfold World.freeze
    rw [if_neg hl0]
    simp only [Array.getElem?_modify, g1]
    simp
  have hs' : setE β i (some (g, c)) = β := by funext j; by_cases hj : j = i <;> simp [setE, hj, hb]
  have hMs : M.set i (.row ver e 1 (l.map bD)) = M := by
    obtain ⟨hlt, hget⟩ := List.getElem?_eq_some_iff.1 hM
    rw [← hget]
    exact List.set_getElem_self hlt
  have := hm.set_ (w' := w.freeze ⟨g, 0, none⟩ l.length) (ab' := .row ver e 1 (l.map bD)) (x := some (g, c)) hM rfl hsz.2.2.1 hsz.2.2.2.1 hsz.2.2.2.2 (by rw [hsz.1]; exact Nat.le_refl _)
    (fun b _ hne => hsz.2.1 b (fun e => hne c (by rw [hb, e]))) (fun g' c' h => by cases h; exact .inl ⟨c, hb⟩) ⟨Nat.le_refl _, rfl, fun _ => ⟨hb.symm, rfl⟩⟩
    (fun hE => ⟨hw, .inr ⟨g, c, cs, rfl, ⟨_, hheap, by have := g2.freeze hv; simpa using this⟩, h9', h10, h11, DenCs.mono (fun _ => immOf.ev hE) (fun _ off => immOf.cell hE off) _ _ h12⟩⟩)
  rw [hs', hMs] at this
  exact hK _ _ _ this.1 this.2 rfl
section
variable {P : Program} {ops : Array Oper} {N : Nat} {K : AS → Prop} {o : Oper} {r : List Oper} {fo fo' : Option (List Nat)} {M M' : List AB} {F : List (Nat × AV)} {dt : Tmp} {tab : List (Nat × TE)} {out : AV}
theorem r_ustrk {T U i ver e : Nat} {x y : Operand} {l : List UInt8} (hne : l ≠ []) (ht : P.underlying T = some (.pointer e)) (hce : P.cellsOf e = 1) (hg : o.guard = none) (ho : o.op = .call { callee := .builtin .unsafeString, args := #[x, y], argTypes := #[T, U] }) (hx : aval (look F) x = .eptr i ver 0 0) (hy : aval (look F) y = .val (.int .i64 (l.map bD).length))
    (hM : M[i]? = some (.row ver e 1 (l.map bD))) (hdd : o.dst = some dt) (hd : dstB o.dst N = true) (hp : popF fo 2 = some fo') (hv : sealed ver = true) (k : RunX P ops N K r fo' M ((dt, .val (.string ⟨l.toArray⟩)) :: F)) : RunX P ops N K (o :: r) fo M F :=
  RunX.mk (fun _ k => Run.eff hd (StepG.plain hg (astep_ustrk ht hce ho hx hy hM hne hv)) (by rw [put_eq hdd]; exact k)) hp k
end
theorem assign1_wp {P : Program} {l id : Nat} {d q : Tmp} {ty : TypeId} {pos : String} {af : Array _} {K : Act → World → Prop} {a : Act} {W : World} (h : K (a.put (some d) (a.eval (.tmp q))) W) :
    (Code.region id #[{ dst := some d, op := .assign (.tmp q), type := ty, pos := pos, after := af, guard := none }] false).wpIn (Fen (some l)) 0 P (Exit.then K fun _ _ _ => False) a W := by
  refine wpIn_region_lit ?_
  have hw : ∀ y, Region.wanted { dst := some d, op := .assign (.tmp q), type := ty, pos := pos, after := af, guard := none } y = true := fun y => rfl
  unfold wpListIn
  rw [if_pos (hw _)]
  refine ⟨?_, ?_⟩
  · intro f hf
    simp [Oper.about, Target.leads] at hf
  · simp only [Oper.semAt]
    exact h
theorem act_val {N p q d : Nat} {v1 v2 : Value} {a : Act} {F : List (Nat × AV)} (hb : (Nat.blt p N && Nat.blt q N && Nat.blt d N) = true) (hp : look F p = .any) (hq : look F q = .any) (h1 : a.tmps.size = N) :
    (({ tmps := (a.tmps.setIfInBounds p v1).setIfInBounds q v2, defers := [] } : Act).put (some d) (({ tmps := (a.tmps.setIfInBounds p v1).setIfInBounds q v2, defers := [] } : Act).eval (.tmp q))).tmps.size = N ∧
    (({ tmps := (a.tmps.setIfInBounds p v1).setIfInBounds q v2, defers := [] } : Act).put (some d) (({ tmps := (a.tmps.setIfInBounds p v1).setIfInBounds q v2, defers := [] } : Act).eval (.tmp q))).defers = [] ∧
    ∀ (M : List AB) (β : Env) (w : World) (imm : Nat → Prop), (∀ t, AVsat M β w imm (look F t) (a.tmps.getD t undef)) → ∀ t, AVsat M β w imm (look ((d, .val v2) :: F) t) ((({ tmps := (a.tmps.setIfInBounds p v1).setIfInBounds q v2, defers := [] } : Act).put (some d) (({ tmps := (a.tmps.setIfInBounds p v1).setIfInBounds q v2, defers := [] } : Act).eval (.tmp q))).tmps.getD t undef) := by
  simp only [Bool.and_eq_true, Nat.blt_eq] at hb
  obtain ⟨⟨hb1, hb2⟩, hb3⟩ := hb
  have he : ({ tmps := (a.tmps.setIfInBounds p v1).setIfInBounds q v2, defers := [] } : Act).eval (.tmp q) = v2 := by
    simp [Act.eval, h1, hb2]
  rw [he]
  refine ⟨by simp [Act.put, h1], rfl, fun M β w imm hs t => ?_⟩
  simp only [Act.put]
  cases hc : Nat.beq d t with
  | true =>
    have := Nat.eq_of_beq_eq_true hc
    subst this
    simp only [look, hc, cond_true]
    simp [AVsat, h1, hb3]
  | false =>
    have hne : d ≠ t := Nat.ne_of_beq_eq_false hc
    simp only [look, hc, cond_false]
    by_cases e1 : t = q
    · subst e1; rw [hq]; trivial
    · by_cases e2 : t = p
      · subst e2; rw [hp]; trivial
      · have := hs t
        simp only [Array.getD_eq_getD_getElem?, Array.getElem?_setIfInBounds] at this ⊢
        rw [if_neg hne, if_neg (Ne.symm e1), if_neg (Ne.symm e2)]
        exact this
theorem a_back1 {P : Program} {N : Nat} {S : Nat → Prop} {w0 : World} {M0 M : List AB} {β0 : Env} {F : List (Nat × AV)} {Q : Exit → AS → Prop} {f : FuncId} {k n : Nat} {es : List D} {val : Fin n → Value} (hseq : BackSeq P f k es n val) (hcall : Callable P f)
    {g : Operand} {p q d : Tmp} {id : Nat} {ty : TypeId} {pos : String} {af : Array _} {body : Code} (hg : aval (look F) g = .cl f [.dptr [.sl k es]]) (hb : (Nat.blt p N && Nat.blt q N && Nat.blt d N) = true) (hp : look F p = .any) (hq : look F q = .any)
    (Mf Mx : List (Fin n) → List AB) (Good GoodX : List (Fin n) → Prop) (hM : Mf [] = M) (hn : ∀ pre, NoIter (Mf pre)) (hnx : ∀ pre, NoIter (Mx pre)) (h0 : Good [])
    (hbody : ∀ (l : Nat) (S : Nat → Prop) (w1 : World) (β1 : Env) (pre : List (Fin n)) (x : Fin n), Good pre → pre.length < n → AWp ⟨P, N, S, w1, Mf pre, β1, some l⟩ body ⟨Mf pre, (d, .val (val x)) :: F⟩
      (fun e s' => (e = .normal ∧ Good (pre ++ [x]) ∧ ∃ F', Fits ⟨P, N, S, w1, Mf pre, β1, some l⟩ s' ⟨Mf (pre ++ [x]), F'⟩) ∨ (e = .ret ∧ GoodX (pre ++ [x]) ∧ ∃ F', Fits ⟨P, N, S, w1, Mf pre, β1, some l⟩ s' ⟨Mx (pre ++ [x]), F'⟩)))
    (hdone : Good (revs n) → Q .normal ⟨Mf (revs n), F⟩) (hstop : ∀ k, k ≤ n → GoodX ((revs n).take k) → Q .ret ⟨Mx ((revs n).take k), F⟩) :
    AWp ⟨P, N, S, w0, M0, β0, none⟩ (.rangeFunc g #[p, q] (.region id #[{ dst := some d, op := .assign (.tmp q), type := ty, pos := pos, after := af, guard := none }] false) body) ⟨M, F⟩ Q := by
  refine a_back (dd := 0) hseq hcall hg ?_ (fun x => (d, .val (val x)) :: F) (fun a x => ({ tmps := (a.tmps.setIfInBounds p (.int .i64 (x.1 : Int))).setIfInBounds q (val x), defers := [] } : Act).put (some d) (({ tmps := (a.tmps.setIfInBounds p (.int .i64 (x.1 : Int))).setIfInBounds q (val x), defers := [] } : Act).eval (.tmp q)))
    (fun l a x W K hK => assign1_wp hK) (fun a x h => act_val hb hp hq h) Mf Mx Good GoodX hM hn hnx h0 hbody hdone hstop
  rw [Bool.and_eq_true] at hb
  exact hb.1
end Go.Proofs.Ytklodolkgdmhoaa

/- The engine: cuts of strings, the least of three. -/
namespace Go.Proofs.Ytklodolkgdmhoaa
open Go Go.RowKit
section
variable {P : Program} {o : Oper} {M M' : List AB} {ρ : Operand → AV} {out : AV} {tab : List (Nat × TE)}
theorem astep_scut (ht : TyTab P tab) {T : Nat} {x : Operand} {lo hi : Option Operand} {l h : Option Int} {s : ByteArray} (ho : o.op = .slice T x lo hi none) (hT : kindAt tab T = some .str) (hx : ρ x = .val (.string s)) (hlo : cutLo ρ lo = some l) (hhi : cutLo ρ hi = some h)
    (hb : 0 ≤ l.getD 0 ∧ l.getD 0 ≤ h.getD s.size ∧ h.getD s.size ≤ (s.size : Int)) : AStep P o M ρ M (.val (.string (s.extract (l.getD 0).toNat (h.getD s.size).toNat))) :=
  .value fun S B β a w _ hs => by
    obtain ⟨h0, h1, h2⟩ := hb
    have hx1 := hs x (by simp [ho, Op.operands])
    rw [hx] at hx1
    have hx1 : a.eval x = .string s := hx1
    have hu := kindAt_str ht hT
    refine ⟨.string (s.extract (l.getD 0).toNat (h.getD s.size).toNat), ?_, rfl⟩
    have elo : ∀ y, lo = some y → ∃ q n, l = some n ∧ a.eval y = .int q n := fun y hy => by
      subst hy
      have h3 := hs y (by simp [ho, Op.operands])
      simp only [cutLo] at hlo
      split at hlo
      · rename_i q n hq; cases hlo; rw [hq] at h3; exact ⟨q, n, rfl, h3⟩
      · cases hlo
    have ehi : ∀ y, hi = some y → ∃ q n, h = some n ∧ a.eval y = .int q n := fun y hy => by
      subst hy
      have h3 := hs y (by cases lo <;> simp [ho, Op.operands])
      simp only [cutLo] at hhi
      split at hhi
      · rename_i q n hq; cases hhi; rw [hq] at h3; exact ⟨q, n, rfl, h3⟩
      · cases hhi
    cases lo with
    | none =>
      cases hlo
      cases hi with
      | none =>
        cases hhi
        have := run_slice_string_all (P := P) w T s hu
        simp [execOp, ho, hx1, run_sliceAt_string _ _ _ _ _ _ hu, this]
      | some y =>
        obtain ⟨q, n, rfl, e1⟩ := ehi y rfl
        have := run_slice_string_h (P := P) w T s hu q n (by simpa using h1) (by simpa using h2)
        simp [execOp, ho, hx1, e1, run_sliceAt_string _ _ _ _ _ _ hu, this]
    | some z =>
      obtain ⟨q, n, rfl, e1⟩ := elo z rfl
      cases hi with
      | none =>
        cases hhi
        have := run_slice_string_l (P := P) w T s hu q n (by simpa using h0) (by simpa using h1)
        simp [execOp, ho, hx1, e1, run_sliceAt_string _ _ _ _ _ _ hu, this]
      | some y =>
        obtain ⟨q', n', rfl, e2⟩ := ehi y rfl
        have := run_slice_string (P := P) (w := w) T s q q' n n' hu (by simpa using h0) (by simpa using h1) (by simpa using h2)
        simp [execOp, ho, hx1, e1, e2, run_sliceAt_string _ _ _ _ _ _ hu, this]
theorem run_min3 {w : World} (ts : Array TypeId) (t : TypeId) (k k' k'' : IntKind) (x y z : Int) : (Builtin.min_ ts t #[.int k x, .int k' y, .int k'' z]).run P w = .ok (.int k (min (min x y) z)) w := by
  simp [Builtin.min_, Builtin.min2]
  omega
theorem astep_min3 {x y z : Operand} {ts : Array TypeId} {k k' k'' : IntKind} {a b c : Int} (ho : o.op = .call { callee := .builtin .min, args := #[x, y, z], argTypes := ts }) (hx : ρ x = .val (.int k a)) (hy : ρ y = .val (.int k' b)) (hz : ρ z = .val (.int k'' c)) : AStep P o M ρ M (.val (.int k (min (min a b) c))) :=
  .value fun S B β A w _ hs => by
    have h1 := hs x (by simp [ho, Op.operands, Call.operands])
    have h2 := hs y (by simp [ho, Op.operands, Call.operands])
    have h3 := hs z (by simp [ho, Op.operands, Call.operands])
    rw [hx] at h1; rw [hy] at h2; rw [hz] at h3
    have h1 : A.eval x = .int k a := h1
    have h2 : A.eval y = .int k' b := h2
    have h3 : A.eval z = .int k'' c := h3
    refine ⟨.int k (min (min a b) c), ?_, rfl⟩
    have := run_min3 (P := P) (w := w) ts o.type k k' k'' a b c
    simp only [execOp, ho, resolve, invoke, builtin]
    simp [h1, h2, h3, this]
end
section
variable {P : Program} {ops : Array Oper} {N : Nat} {K : AS → Prop} {o : Oper} {r : List Oper} {fo fo' : Option (List Nat)} {M M' : List AB} {F : List (Nat × AV)} {dt : Tmp} {tab : List (Nat × TE)} {out : AV}
theorem r_scut (ht : TyTab P tab) {T : Nat} {x : Operand} {lo hi : Option Operand} {a b : Option Int} {s : ByteArray} (hg : o.guard = none) (ho : o.op = .slice T x lo hi none) (hT : kindAt tab T = some .str) (hx : aval (look F) x = .val (.string s)) (hlo : cutLo (aval (look F)) lo = some a) (hhi : cutLo (aval (look F)) hi = some b)
    (hdd : o.dst = some dt) (hd : dstB o.dst N = true) (hb : 0 ≤ a.getD 0 ∧ a.getD 0 ≤ b.getD s.size ∧ b.getD s.size ≤ (s.size : Int)) (hp : popF fo 0 = some fo') (k : RunX P ops N K r fo' M ((dt, .val (.string (s.extract (a.getD 0).toNat (b.getD s.size).toNat))) :: F)) : RunX P ops N K (o :: r) fo M F :=
  RunX.mk (fun _ k => Run.pure_ hd (fun _ => StepG.plain hg (astep_scut ht ho hT hx hlo hhi hb)) (by rw [put_eq hdd]; exact k)) hp k
theorem r_scut_cnd (ht : TyTab P tab) {j : Nat} {want c0 : Bool} {g : Tmp} {T : Nat} {x : Operand} {lo hi : Option Operand} {a b : Option Int} {s : ByteArray} (hg : o.guard = some (j, want)) (hj : dstOf ops j = some g) (hF : guardOf want (look F g) = some c0) (ho : o.op = .slice T x lo hi none) (hT : kindAt tab T = some .str)
    (hx : aval (fun t => strip (look F t)) x = .val (.string s)) (hlo : cutLo (aval fun t => strip (look F t)) lo = some a) (hhi : cutLo (aval fun t => strip (look F t)) hi = some b) (hcs : c0 = true → condsOf (look F) o.op.operands.toList = true)
    (hdd : o.dst = some dt) (hd : dstB o.dst N = true) (hb : c0 = true → 0 ≤ a.getD 0 ∧ a.getD 0 ≤ b.getD s.size ∧ b.getD s.size ≤ (s.size : Int)) (hp : popF fo 0 = some fo') (k : RunX P ops N K r fo' M ((dt, .cnd c0 (.val (.string (s.extract (a.getD 0).toNat (b.getD s.size).toNat)))) :: F)) : RunX P ops N K (o :: r) fo M F :=
  RunX.mk (fun _ k => Run.pure_ hd (fun _ => StepG.cnd hg hj hF hcs fun h => astep_scut ht ho hT hx hlo hhi (hb h)) (by rw [put_eq hdd]; exact k)) hp k
/-- An entry is added: the first entry may be read ahead of it, or behind. -/
theorem r_push {ab : AB} {x : AV} (hs : AStep P o M (aval (look F)) (M ++ [ab]) x) (hg : o.guard = none) (hx : nf x = some out) (hl : Nat.blt 0 M.length = true) (hdd : o.dst = some dt) (hd : dstB o.dst N = true) (hp : popF fo 3 = some fo') (k : RunX P ops N K r fo' (M ++ [ab]) ((dt, out) :: F)) : RunX P ops N K (o :: r) fo M F :=
  RunX.mk (fun _ k => Run.push hd (by rw [Nat.blt_eq] at hl; exact hl) (StepG.plain hg hs) (by rw [put_eq hdd, nf_eq hx]; exact k)) hp k
theorem ldM_0 {tab : List (Nat × TE)} {M1 M2 : List AB} {ρ : Operand → AV} {T off : Nat} {x : Operand} (hx : ρ x = .ptr 0 off) (h : M2[0]? = M1[0]?) : ldM tab M2 ρ (.load T x) = ldM tab M1 ρ (.load T x) := by
  simp only [ldM, hx, h]
theorem r_ld0 (ht : TyTab P tab) {T off : Nat} {x : Operand} (hg : o.guard = none) (ho : o.op = .load T x) (hx : aval (look F) x = .ptr 0 off) (he : ldM tab M (aval (look F)) o.op = some out) (hdd : o.dst = some dt) (hd : dstB o.dst N = true) (hp : popF fo 4 = some fo') (k : RunX P ops N K r fo' M ((dt, out) :: F)) : RunX P ops N K (o :: r) fo M F :=
  RunX.mk (fun _ k => Run.read0 hd (fun M2 h => StepG.plain hg (ldM_sound ht (by rw [ho] at he ⊢; rw [ldM_0 hx h]; exact he))) (by rw [put_eq hdd]; exact k)) hp k
theorem take3_get {M1 M2 : List AB} (h : M2.take 3 = M1.take 3) {i : Nat} (hi : i < 3) : M2[i]? = M1[i]? := by
  have := congrArg (fun l => l[i]?) h
  simpa [List.getElem?_take, hi] using this
theorem ldM_i {tab : List (Nat × TE)} {M1 M2 : List AB} {ρ : Operand → AV} {T i off : Nat} {x : Operand} (hx : ρ x = .ptr i off) (h : M2[i]? = M1[i]?) : ldM tab M2 ρ (.load T x) = ldM tab M1 ρ (.load T x) := by
  simp only [ldM, hx, h]
/-- A load out of one of the first three entries, that may be drawn ahead of what turns none of them. -/
theorem r_ld3 (ht : TyTab P tab) {T i off : Nat} {x : Operand} (hg : o.guard = none) (ho : o.op = .load T x) (hx : aval (look F) x = .ptr i off) (hi : Nat.blt i 3 = true) (he : ldM tab M (aval (look F)) o.op = some out) (hdd : o.dst = some dt) (hd : dstB o.dst N = true) (hp : popF fo 6 = some fo') (k : RunX P ops N K r fo' M ((dt, out) :: F)) : RunX P ops N K (o :: r) fo M F :=
  RunX.mk (fun _ k => Run.read3 hd (fun M2 h => StepG.plain hg (ldM_sound ht (by rw [Nat.blt_eq] at hi; rw [ho] at he ⊢; rw [ldM_i hx (take3_get h hi)]; exact he))) (by rw [put_eq hdd]; exact k)) hp k
/-- An append onto a row behind the first three entries. -/
theorem r_append3 (ht : TyTab P tab) {T e : Nat} {ee : TE} {x y : Operand} {i ver : Nat} {es xs : List D} (hg : o.guard = none) (ho : o.op = .call { callee := .builtin .append, args := #[x, y], argTypes := #[T, T] }) (hT : elemOf_ tab T = some (e, ee))
    (hok : (Nat.blt 0 ee.size && Nat.beq ee.zero.length ee.size && Nat.blt 0 ee.bytes) = true) (hx : aval (look F) x = .row i ver) (hM : M[i]? = some (.row ver e ee.size es)) (hy : aval (look F) y = .sl ee.size xs)
    (hi : Nat.ble 3 i = true) (hdd : o.dst = some dt) (hd : dstB o.dst N = true) (hb : (es.length + xs.length) * ee.bytes ≤ 140737488355328) (hp : popF fo 5 = some fo') (k : RunX P ops N K r fo' (M.set i (.row (ver + 2) e ee.size (es ++ xs))) ((dt, (.row i (ver + 2))) :: F)) : RunX P ops N K (o :: r) fo M F :=
  RunX.mk (fun _ k => Run.behind3 hd (by have := Nat.le_of_ble_eq_true hi; exact List.take_set_of_le this) (StepG.plain hg (astep_append ht ho hT hok hx hM hy hb)) (by rw [put_eq hdd]; exact k)) hp k
/-- A slice written out, that looks at no memory. -/
theorem r_builtp (ht : TyTab P tab) {T n e : Nat} {ee : TE} {parts : Array (Nat × Operand)} {ds : List D} (hg : o.guard = none) (ho : o.op = .buildSlice T n parts) (hT : elemOf_ tab T = some (e, ee))
    (hok : (Nat.blt 0 ee.size && Nat.beq ee.zero.length ee.size && Nat.beq (partsOf parts).length n && Nat.ble (n * ee.size) 16777216 && inOrder parts.toList 0) = true)
    (hds : toDall ((partsOf parts).map (aval (look F))) = some ds) (hf : fitK ee.size ((partsOf parts).map (aval (look F))) ds = true)
    (hdd : o.dst = some dt) (hd : dstB o.dst N = true) (hp : popF fo 0 = some fo') (k : RunX P ops N K r fo' (M) ((dt, (.sl ee.size ds)) :: F)) : RunX P ops N K (o :: r) fo M F :=
  RunX.mk (fun _ k => Run.pure_ hd (fun _ => StepG.plain hg (astep_buildSlice ht ho hT hok hds hf)) (by rw [put_eq hdd]; exact k)) hp k
end
end Go.Proofs.Ytklodolkgdmhoaa
