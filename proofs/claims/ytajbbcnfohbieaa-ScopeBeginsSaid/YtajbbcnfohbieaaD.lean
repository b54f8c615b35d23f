/- The engine, part 24: an own row whose last element lies open: its cells may hold own rows. -/
import Derived.Test.YtajbbcnfohbieaaZ
namespace Go.Proofs.Ytajbbcnfohbieaa
open Go Go.RowKit

section
variable {cx : Cx}
theorem setE_id (β : Env) (i : Nat) : setE β i (β i) = β := by funext j; by_cases hj : j = i <;> simp [setE, hj]
/-- The last element is laid open. -/
theorem fits_open {M : List AB} {F : List (Nat × AV)} {i ver e k : Nat} {pre : List D} {d : D} (hM : M[i]? = some (.row ver e k (pre ++ [d]))) (hv : sealed ver = false := by rfl) : Fits cx ⟨M, F⟩ ⟨M.set i (.rowo ver e k pre d.cells), F⟩ := by
  rintro a w ⟨h1, h2, β, h3, h4, h5⟩
  obtain ⟨hw, ⟨_, h7⟩ | ⟨g, cap, cs, q1, q2, q3, q4, q5, q6⟩⟩ := h3.ent i _ hM
  · exact absurd h7 (by simp)
  obtain ⟨x, y, p1, p2, c1, c2, p3, p4, p5⟩ := q6.split
  have hp5 : c2 = [] := p5
  subst hp5
  have hcat : cs.toList = x ++ c1 ++ cs.toList.drop ((pre ++ [d]).length * k) := by
    have := List.take_append_drop ((pre ++ [d]).length * k) cs.toList
    rw [p1, p3, List.append_nil] at this
    exact this.symm
  have := h3.set_ (w' := w) (ab' := .rowo ver e k pre d.cells) (x := β i) hM rfl rfl rfl rfl (Nat.le_refl _) (fun _ _ _ => rfl) (fun g c hc => .inl ⟨c, hc⟩) ⟨Nat.le_refl _, rfl, fun _ => ⟨rfl, by simp⟩⟩
    (fun hE => ⟨fun z hz => hw z (by simp [hz]), by rw [D_cells_len p4]; exact hw d (by simp), g, cap, cs, q1, ⟨q2.choose, q2.choose_spec.1, (q2.choose_spec.2.clear hv).ok rfl⟩, by simpa using q3, q4, q5, x, c1, _, hcat, DenCs.mono (fun _ => immOf.ev hE) (fun _ off => immOf.cell hE off) _ _ p2, (DenC.cells_ d c1 p4).ev hE⟩)
  rw [setE_id] at this
  exact ⟨h1, h2, β, this.2, h4.trans this.1, fun d => (h5 d).ev this.1⟩
/-- The last element is data again: the row is let go, as data. -/
theorem fits_close {M : List AB} {F : List (Nat × AV)} {i ver e k : Nat} {pre : List D} {cells : List AV} (d : D) (t : Tmp) (hF : look F t = .row i ver) (hM : M[i]? = some (.rowo ver e k pre cells)) (hc : d.cells = cells) (hf : d.fine) :
    Fits cx ⟨M, F⟩ ⟨M.set i .gone, (t, .sl k (pre ++ [d])) :: F⟩ := by
  rintro a w ⟨h1, h2, β, h3, h4, h5⟩
  obtain ⟨hw, hk, g, cap, cs, q1, q2, q3, q4, q5, c1, c2, c3, q6, q7, q8⟩ := h3.ent i _ hM
  obtain ⟨e1, e2⟩ := h3.let_go hM rfl
  have hlt : i < M.length := (List.getElem?_eq_some_iff.1 hM).1
  have hv := h5 t
  rw [hF] at hv
  obtain ⟨ab, v1, v2⟩ := hv
  rw [hM] at v1; cases v1
  have v3 := v2.2 rfl
  rw [q1] at v3
  refine ⟨h1, h2, β, e2, h4.trans e1, fun z => ?_⟩
  cases hb : Nat.beq t z with
  | false =>
    simp only [look, hb, cond_false]
    exact (h5 z).ev e1
  | true =>
    simp only [look, hb, cond_true]
    have := Nat.eq_of_beq_eq_true hb
    subst this
    subst hc
    have hd := AVsats.denC d c2 hf q8
    refine ⟨some ⟨g, 0, none⟩, pre.length + 1, cap, by rw [v3]; rfl, by simp, q3, q4, fun z hz => ?_, fun _ => ⟨g, 0, c1 ++ c2, rfl, ⟨h3.own g ⟨i, _, cap, hM, rfl, q1⟩, heap_lt q2.choose_spec.1, ?_⟩, ?_, fun j u hj => ?_⟩⟩
    · rcases List.mem_append.1 hz with hz | hz
      · exact hw z hz
      · rw [List.mem_singleton] at hz
        subst hz
        rw [← D_cells_len hd]; exact hk
    · rintro ⟨j, ab', c', k1, k2, k3⟩
      by_cases hji : j = i
      · subst hji
        rw [List.getElem?_set_self hlt] at k1
        cases k1; cases k2
      · rw [List.getElem?_set_ne (Ne.symm hji)] at k1
        exact hji (h3.inj j i _ _ g c' cap k1 k2 k3 hM rfl q1)
    · have := (DenCs.mono (fun _ => immOf.ev e1) (fun _ off => immOf.cell e1 off) _ _ q7).append (a := pre) (b := [d]) (y := c2) ⟨c2, [], by simp, DenC.mono (fun _ => immOf.ev e1) (fun _ off => immOf.cell e1 off) _ _ hd, rfl⟩
      exact this
    · rw [Nat.zero_add, q2.cell]
      have hj' : cs.toList[j]? = some u := by
        rw [q6, List.getElem?_append_left (List.getElem?_eq_some_iff.1 hj).1]
        exact hj
      simpa using hj'
end
section
variable {P : Program} {o : Oper} {M M' : List AB} {ρ : Operand → AV} {out : AV} {tab : List (Nat × TE)}
/-- The open element's place. -/
theorem astep_idx_o (ht : TyTab P tab) {T e i ver e' : Nat} {ee : TE} {pre : List D} {cells : List AV} {x y : Operand} {q : IntKind} {n : Int} (ho : o.op = .indexAddr T x y) (hT : elemOf_ tab T = some (e, ee)) (hx : ρ x = .row i ver) (hM : M[i]? = some (.rowo ver e' ee.size pre cells)) (hy : ρ y = .val (.int q n))
    (h0 : 0 ≤ n) (hd : n.toNat = pre.length) : AStep P o M ρ M (.eptr i ver pre.length 0) :=
  .value fun S B β a w hm hs => by
    have h1 := hs x (by simp [ho, Op.operands])
    have h2 := hs y (by simp [ho, Op.operands])
    rw [hx] at h1; rw [hy] at h2
    have h2 : a.eval y = .int q n := h2
    obtain ⟨ab, v1, v2⟩ := h1
    rw [hM] at v1; cases v1
    have v3 := v2.2 rfl
    obtain ⟨_, _, g, cap, cs, q1, _⟩ := hm.ent i _ hM
    rw [q1] at v3
    obtain ⟨hu, he⟩ := elemOf_spec ht hT
    have hcond : 0 ≤ n ∧ n < ((pre.length + 1 : Nat) : Int) := by omega
    refine ⟨.pointer (some ⟨g, pre.length * ee.size, none⟩), ?_, .rowo ver e' ee.size pre cells, hM, Nat.le_refl _, fun _ => ⟨g, cap, q1, by simp⟩⟩
    simp [execOp, ho, h2, v3, rowVal, Instr.indexAt, asIntOf, run_underlying hu, hcond.1, hcond.2, run_sizeOf he, addr_add, hd]
    omega
theorem astep_nilCheck_o {x : Operand} {i ver j off e k : Nat} {pre : List D} {cells : List AV} (ho : o.op = .nilCheck x) (hx : ρ x = .eptr i ver j off) (hM : M[i]? = some (.rowo ver e k pre cells)) : AStep P o M ρ M (.eptr i ver j off) :=
  .value fun S B β a w hm hs => by
    have h1 := hs x (by simp [ho, Op.operands])
    rw [hx] at h1
    have h1' := h1
    obtain ⟨ab, v1, v2⟩ := h1
    rw [hM] at v1; cases v1
    obtain ⟨g, c, _, h2⟩ := v2.2 rfl
    refine ⟨a.eval x, ?_, h1'⟩
    rw [h2]
    simp [execOp, ho, h2]
theorem astep_field_o (ht : TyTab P tab) {T f off i ver j off0 e k : Nat} {fe : TE} {x : Operand} {pre : List D} {cells : List AV} (ho : o.op = .fieldAddr T x f) (hf : fieldOf tab T f = some (off, fe)) (hx : ρ x = .eptr i ver j off0) (hM : M[i]? = some (.rowo ver e k pre cells)) : AStep P o M ρ M (.eptr i ver j (off0 + off)) :=
  .value fun S B β a w hm hs => by
    have h1 := hs x (by simp [ho, Op.operands])
    rw [hx] at h1
    obtain ⟨ab, v1, v2⟩ := h1
    rw [hM] at v1; cases v1
    obtain ⟨g, c, h3, h2⟩ := v2.2 rfl
    refine ⟨.pointer (some ⟨g, j * k + off0 + off, none⟩), by simp [execOp, ho, h2, run_fieldAt ht hf], .rowo ver e k pre cells, hM, Nat.le_refl _, fun _ => ⟨g, c, h3, by simp [Nat.add_assoc]⟩⟩
theorem astep_load_o (ht : TyTab P tab) {T i ver j off e k : Nat} {te : TE} {x : Operand} {pre : List D} {cells : List AV} (ho : o.op = .load T x) (hT : tget tab T = some te) (hx : ρ x = .eptr i ver j off) (hM : M[i]? = some (.rowo ver e k pre cells)) (hj : j = pre.length) (hl : loadAV te (cells.drop off) = some out) : AStep P o M ρ M out :=
  .value fun S B β a w hm hs => by
    have h1 := hs x (by simp [ho, Op.operands])
    rw [hx] at h1
    obtain ⟨ab, v1, v2⟩ := h1
    rw [hM] at v1; cases v1
    obtain ⟨g, c, h3, h2⟩ := v2.2 rfl
    obtain ⟨hw, hk, g', cap, cs, q1, q2, q3, q4, q5, c1, c2, c3, q6, q7, q8⟩ := hm.ent i _ hM
    rw [h3] at q1; cases q1
    have hl1 : c1.length = j * k := by rw [q7.len, widths_allW hw, hj]
    obtain ⟨v, h13, h14⟩ := run_loadVar (P := P) (ht.get hT) (g := g) (off := j * k + off) (q8.drop_ off) (fun q u hq => by
      rw [List.getElem?_drop] at hq
      have hlt := (List.getElem?_eq_some_iff.1 hq).1
      rw [q2.cell]
      have : cs.toList[j * k + off + q]? = some u := by
        rw [q6, List.getElem?_append_left (by rw [List.length_append]; omega), List.getElem?_append_right (by omega)]
        rw [← hq]; congr 1; omega
      simpa using this) hl
    exact ⟨v, by simp [execOp, ho, h2, Instr.loadAt, Instr.sureAddr, h13], h14⟩
theorem astep_store_o (ht : TyTab P tab) {T i ver j off e k : Nat} {te : TE} {x y : Operand} {pre : List D} {cells : List AV} (ho : o.op = .store T x y) (hT : tget tab T = some te) (hx : ρ x = .eptr i ver j off) (hM : M[i]? = some (.rowo ver e k pre cells)) (hj : j = pre.length)
    (hy : oneCsM M (cellsOf (ρ y)) = true) (hsz : (cellsOf (ρ y)).length = te.size) (hfit : Nat.ble (off + te.size) cells.length = true) : AStep P o M ρ (M.set i (.rowo ver e k pre (putCells cells off (cellsOf (ρ y))))) (.val undef) := by
  intro S B β a w hm hs K Q hK
  have h1 := hs x (by simp [ho, Op.operands])
  have h2 := hs y (by simp [ho, Op.operands])
  rw [hx] at h1
  obtain ⟨ab, v1, v2⟩ := h1
  rw [hM] at v1; cases v1
  obtain ⟨g, c, h3, h4⟩ := v2.2 rfl
  obtain ⟨hw, hk, g', cap, cs, q1, q2, q3, q4, q5, c1, c2, c3, q6, q7, q8⟩ := hm.ent i _ hM
  rw [h3] at q1; cases q1
  obtain ⟨h8, h9⟩ := cellsOf_satM hy h2
  have hl8 := h8.len
  have hl2 := q8.len
  have hfit' := Nat.le_of_ble_eq_true hfit
  have hl1 : c1.length = j * k := by rw [q7.len, widths_allW hw, hj]
  have hcl : cs.size = c1.length + c2.length + c3.length := by rw [← Array.length_toList, q6]; simp only [List.length_append]
  obtain ⟨fz, g1, g2⟩ := q2
  have hst := run_storeCells_c P g (j * k + off) e fz (a.eval y).cells.toList 0 cs w g1 (fun j _ hj => g2.clear rfl j hj) (by omega) h9
  simp only [Nat.add_zero] at hst
  have hvs : (a.eval y).cells.size = te.size := by rw [← Array.length_toList, hl8, hsz]
  have hrun : (execOp a.eval o).run P w = .ok .skip (w.setRow g (cs.toList.take (j * k + off) ++ (a.eval y).cells.toList ++ cs.toList.drop (j * k + off + (a.eval y).cells.toList.length)).toArray) := by
    simp only [execOp, ho, h4, Instr.storeAt, Instr.sureAddr]
    simp only [Sem.run_bind, Sem.run_pure, Result.andThen_ok, storeVar, run_sizeOf (ht.get hT), hvs, ne_eq, not_true_eq_false, if_false, hst]
  unfold Oper.wp
  rw [hrun]
  have hs' : setE β i (some (g, c)) = β := by funext j; by_cases hj : j = i <;> simp [setE, hj, h3]
  have hcat : cs.toList.take (j * k + off) ++ (a.eval y).cells.toList ++ cs.toList.drop (j * k + off + (a.eval y).cells.toList.length) = c1 ++ (c2.take off ++ (a.eval y).cells.toList ++ c2.drop (off + (a.eval y).cells.toList.length)) ++ c3 := by
    have e1 : cs.toList = c1 ++ (c2 ++ c3) := by rw [q6, List.append_assoc]
    rw [e1, ← hl1, List.take_length_add_append, Nat.add_assoc, List.drop_length_add_append, List.take_append_of_le_length (by omega), List.drop_append_of_le_length (by omega)]
    simp only [List.append_assoc]
  have hlen : (cs.toList.take (j * k + off) ++ (a.eval y).cells.toList ++ cs.toList.drop (j * k + off + (a.eval y).cells.toList.length)).length = cs.size := by
    rw [hcat]
    simp only [List.length_append, List.length_take, List.length_drop]
    omega
  have := hm.set_ (w' := w.setRow g (cs.toList.take (j * k + off) ++ (a.eval y).cells.toList ++ cs.toList.drop (j * k + off + (a.eval y).cells.toList.length)).toArray)
    (ab' := .rowo ver e k pre (putCells cells off (cellsOf (ρ y)))) (x := some (g, c)) hM rfl rfl rfl rfl (by simp)
    (fun b _ hne => setRow_other w g b _ (fun e => hne c (by rw [h3, e]))) (fun g' c' h => by cases h; exact .inl ⟨c, h3⟩) ⟨Nat.le_refl _, rfl, fun _ => ⟨h3.symm, rfl⟩⟩
    (fun hE => ⟨hw, by
      unfold putCells
      simp only [List.length_append, List.length_take, List.length_drop]
      omega, g, c, _, rfl, ⟨fz, setRow_heap w g cs _ e _ g1, g2.mono rfl (Nat.le_refl _) (by rw [List.size_toArray, hlen])⟩, q3, q4, by rw [List.size_toArray, hlen, q5], c1, _, c3, by rw [List.toList_toArray]; exact hcat,
      DenCs.mono (fun _ => immOf.ev hE) (fun _ off => immOf.cell hE off) _ _ q7, by
        have := putCells_sat (off := off) (q8.ev hE) (h8.ev hE)
        exact this⟩)
  rw [hs'] at this
  exact hK _ _ _ this.1 this.2 rfl
end
section
variable {P : Program} {ops : Array Oper} {N : Nat} {K : AS → Prop} {o : Oper} {r : List Oper} {fo fo' : Option (List Nat)} {M M' : List AB} {F : List (Nat × AV)} {dt : Tmp} {tab : List (Nat × TE)} {out : AV}
theorem r_idx_o (ht : TyTab P tab) {T e i ver e' : Nat} {ee : TE} {pre : List D} {cells : List AV} {x y : Operand} {q : IntKind} {n : Int} (hg : o.guard = none) (ho : o.op = .indexAddr T x y) (hT : elemOf_ tab T = some (e, ee)) (hx : aval (look F) x = .row i ver) (hM : M[i]? = some (.rowo ver e' ee.size pre cells)) (hy : aval (look F) y = .val (.int q n))
    (hdd : o.dst = some dt) (hd : dstB o.dst N = true) (h0 : 0 ≤ n) (hn : n.toNat = pre.length) (hp : popF fo 1 = some fo') (k : RunX P ops N K r fo' M ((dt, .eptr i ver pre.length 0) :: F)) : RunX P ops N K (o :: r) fo M F :=
  RunX.mk (fun _ k => Run.quiet hd (StepG.plain hg (astep_idx_o ht ho hT hx hM hy h0 hn)) (by rw [put_eq hdd]; exact k)) hp k
theorem r_nilck_o {x : Operand} {i ver j off e k' : Nat} {pre : List D} {cells : List AV} (hg : o.guard = none) (ho : o.op = .nilCheck x) (hx : aval (look F) x = .eptr i ver j off) (hM : M[i]? = some (.rowo ver e k' pre cells)) (hdd : o.dst = some dt) (hd : dstB o.dst N = true) (hp : popF fo 1 = some fo')
    (k : RunX P ops N K r fo' M ((dt, .eptr i ver j off) :: F)) : RunX P ops N K (o :: r) fo M F :=
  RunX.mk (fun _ k => Run.quiet hd (StepG.plain hg (astep_nilCheck_o ho hx hM)) (by rw [put_eq hdd]; exact k)) hp k
theorem r_field_o (ht : TyTab P tab) {T f off i ver j off0 e k' : Nat} {fe : TE} {x : Operand} {pre : List D} {cells : List AV} (hg : o.guard = none) (ho : o.op = .fieldAddr T x f) (hf : fieldOf tab T f = some (off, fe)) (hx : aval (look F) x = .eptr i ver j off0) (hM : M[i]? = some (.rowo ver e k' pre cells)) (hdd : o.dst = some dt) (hd : dstB o.dst N = true) (hp : popF fo 1 = some fo')
    (k : RunX P ops N K r fo' M ((dt, .eptr i ver j (off0 + off)) :: F)) : RunX P ops N K (o :: r) fo M F :=
  RunX.mk (fun _ k => Run.quiet hd (StepG.plain hg (astep_field_o ht ho hf hx hM)) (by rw [put_eq hdd]; exact k)) hp k
theorem r_ld_o (ht : TyTab P tab) {T i ver j off e k' : Nat} {te : TE} {x : Operand} {pre : List D} {cells : List AV} (hg : o.guard = none) (ho : o.op = .load T x) (hT : tget tab T = some te) (hx : aval (look F) x = .eptr i ver j off) (hM : M[i]? = some (.rowo ver e k' pre cells)) (hj : j = pre.length) (hl : ldAV te (cells.drop off) = some out)
    (hdd : o.dst = some dt) (hd : dstB o.dst N = true) (hp : popF fo 1 = some fo') (k : RunX P ops N K r fo' M ((dt, out) :: F)) : RunX P ops N K (o :: r) fo M F :=
  RunX.mk (fun _ k => Run.quiet hd (StepG.plain hg (astep_load_o ht ho hT hx hM hj (ldAV_eq hl))) (by rw [put_eq hdd]; exact k)) hp k
theorem r_st_o (ht : TyTab P tab) {T i ver j off e k' : Nat} {te : TE} {x y : Operand} {pre : List D} {cells new : List AV} (hg : o.guard = none) (ho : o.op = .store T x y) (hT : tget tab T = some te) (hx : aval (look F) x = .eptr i ver j off) (hM : M[i]? = some (.rowo ver e k' pre cells)) (hj : j = pre.length)
    (hy : oneCsM M (cellsOf (aval (look F) y)) = true) (hsz : (cellsOf (aval (look F) y)).length = te.size) (hfit : Nat.ble (off + te.size) cells.length = true) (hnew : nfs (putCells cells off (cellsOf (aval (look F) y))) = some new) (hdd : o.dst = none) (hp : popF fo 2 = some fo')
    (k : RunX P ops N K r fo' (M.set i (.rowo ver e k' pre new)) F) : RunX P ops N K (o :: r) fo M F :=
  RunX.mk (fun _ k => Run.eff (by rw [hdd]; rfl) (StepG.plain hg (astep_store_o ht ho hT hx hM hj hy hsz hfit)) (by rw [put_none hdd, nfs_eq hnew]; exact k)) hp k
end
end Go.Proofs.Ytajbbcnfohbieaa
