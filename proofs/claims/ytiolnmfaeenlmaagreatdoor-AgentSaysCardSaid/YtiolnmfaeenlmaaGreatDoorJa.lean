import Derived.Test.YtiolnmfaeenlmaaGreatDoorZ
import Derived.Lib.MakeNoZero
import Derived.Laws.IdiomCopy
import Derived.Test.YtiolnmfaeenlmaaGreatDoorCb
/- The engine, part 24: an own row whose last element lies open: its cells may hold own rows. -/
namespace Go.Proofs.YtiolnmfaeenlmaaGreatDoor
open Go Go.RowKit

section
variable {cx : Cx}
theorem setE_id (β : Env) (i : Nat) : setE β i (β i) = β := by funext j; by_cases hj : j = i <;> simp [setE, hj]
/-- The last element is laid open. -/
theorem fits_open {M : List AB} {F : List (Nat × AV)} {i ver e k : Nat} {pre : List D} {d : D} (hM : M[i]? = some (.row ver e k (pre ++ [d]))) (hv : sealed ver = false := by rfl) : Fits cx ⟨M, F⟩ ⟨M.set i (.rowo ver e k pre 1 d.cells), F⟩ := by
  rintro a w ⟨h1, h2, β, h3, h4, h5⟩
  obtain ⟨hw, ⟨_, h7⟩ | ⟨g, cap, cs, q1, q2, q3, q4, q5, q6⟩⟩ := h3.ent i _ hM
  · exact absurd h7 (by simp)
  obtain ⟨x, y, p1, p2, c1, c2, p3, p4, p5⟩ := q6.split
  have hp5 : c2 = [] := p5
  subst hp5
  have hcat : cs.toList = x ++ c1 ++ cs.toList.drop ((pre ++ [d]).length * k) := by
    have := List.take_append_drop ((pre ++ [d]).length * k) cs.toList
    rw [p1, p3, List.append_nil] at this
    exact this.symm
  have := h3.set_ (w' := w) (ab' := .rowo ver e k pre 1 d.cells) (x := β i) hM rfl rfl rfl rfl (Nat.le_refl _) (fun _ _ _ => rfl) (fun g c hc => .inl ⟨c, hc⟩) ⟨Nat.le_refl _, rfl, fun _ => ⟨rfl, by simp⟩⟩
    (fun hE => ⟨fun z hz => hw z (by simp [hz]), by rw [D_cells_len p4, Nat.one_mul]; exact hw d (by simp), g, cap, cs, q1, ⟨q2.choose, q2.choose_spec.1, (q2.choose_spec.2.clear hv).ok rfl⟩, by simpa using q3, q4, q5, x, c1, _, hcat, DenCs.mono (fun _ => immOf.ev hE) (fun _ off => immOf.cell hE off) _ _ p2, (DenC.cells_ d c1 p4).ev hE⟩)
  rw [setE_id] at this
  exact ⟨h1, h2, β, this.2, h4.trans this.1, fun d => (h5 d).ev this.1⟩
end
section
variable {P : Program} {o : Oper} {M M' : List AB} {ρ : Operand → AV} {out : AV} {tab : List (Nat × TE)}
/-- The open element's place. -/
theorem astep_idx_o (ht : TyTab P tab) {T e i ver e' : Nat} {ee : TE} {pre : List D} {mo : Nat} {cells : List AV} {x y : Operand} {q : IntKind} {n : Int} (ho : o.op = .indexAddr T x y) (hT : elemOf_ tab T = some (e, ee)) (hx : ρ x = .row i ver) (hM : M[i]? = some (.rowo ver e' ee.size pre mo cells)) (hy : ρ y = .val (.int q n))
    (h0 : 0 ≤ n) (hd : n.toNat < pre.length + mo) : AStep P o M ρ M (.eptr i ver n.toNat 0) :=
  .value fun S B β a w hm hs => by
    have h1 := hs x (by simp [ho, Op.operands])
    have h2 := hs y (by simp [ho, Op.operands])
    rw [hx] at h1; rw [hy] at h2
    have h2 : a.eval y = .int q n := h2
    obtain ⟨ab, v1, v2⟩ := h1
    rw [hM] at v1; cases v1
    have v3 := v2.2 rfl
    obtain ⟨_, _, g, cap, cs, q1, _⟩ := hm.ent i _ hM
    rw [q1] at v3
    obtain ⟨hu, he⟩ := elemOf_spec ht hT
    have hcond : 0 ≤ n ∧ n < ((pre.length + mo : Nat) : Int) := by omega
    refine ⟨.pointer (some ⟨g, n.toNat * ee.size, none⟩), ?_, .rowo ver e' ee.size pre mo cells, hM, Nat.le_refl _, fun _ => ⟨g, cap, q1, by simp⟩⟩
    simp [execOp, ho, h2, v3, rowVal, Instr.indexAt, asIntOf, run_underlying hu, hcond.1, hcond.2, run_sizeOf he, addr_add, hd]
    omega
theorem astep_field_o (ht : TyTab P tab) {T f off i ver j off0 e k : Nat} {fe : TE} {x : Operand} {pre : List D} {mo : Nat} {cells : List AV} (ho : o.op = .fieldAddr T x f) (hf : fieldOf tab T f = some (off, fe)) (hx : ρ x = .eptr i ver j off0) (hM : M[i]? = some (.rowo ver e k pre mo cells)) : AStep P o M ρ M (.eptr i ver j (off0 + off)) :=
  .value fun S B β a w hm hs => by
    have h1 := hs x (by simp [ho, Op.operands])
    rw [hx] at h1
    obtain ⟨ab, v1, v2⟩ := h1
    rw [hM] at v1; cases v1
    obtain ⟨g, c, h3, h2⟩ := v2.2 rfl
    refine ⟨.pointer (some ⟨g, j * k + off0 + off, none⟩), by simp [execOp, ho, h2, run_fieldAt ht hf], .rowo ver e k pre mo cells, hM, Nat.le_refl _, fun _ => ⟨g, c, h3, by simp [Nat.add_assoc]⟩⟩
theorem astep_load_o (ht : TyTab P tab) {T i ver j off e k : Nat} {te : TE} {x : Operand} {pre : List D} {mo : Nat} {cells : List AV} (ho : o.op = .load T x) (hT : tget tab T = some te) (hx : ρ x = .eptr i ver j off) (hM : M[i]? = some (.rowo ver e k pre mo cells)) {o' : Nat} (hj : j * k + off = pre.length * k + o') (hl : loadAV te (cells.drop o') = some out) : AStep P o M ρ M out :=
  .value fun S B β a w hm hs => by
    have h1 := hs x (by simp [ho, Op.operands])
    rw [hx] at h1
    obtain ⟨ab, v1, v2⟩ := h1
    rw [hM] at v1; cases v1
    obtain ⟨g, c, h3, h2⟩ := v2.2 rfl
    obtain ⟨hw, hk, g', cap, cs, q1, q2, q3, q4, q5, c1, c2, c3, q6, q7, q8⟩ := hm.ent i _ hM
    rw [h3] at q1; cases q1
    have hl1 : c1.length = pre.length * k := by rw [q7.len, widths_allW hw]
    obtain ⟨v, h13, h14⟩ := run_loadVar (P := P) (ht.get hT) (g := g) (off := j * k + off) (q8.drop_ o') (fun q u hq => by
      rw [List.getElem?_drop] at hq
      have hlt := (List.getElem?_eq_some_iff.1 hq).1
      rw [q2.cell]
      have : cs.toList[j * k + off + q]? = some u := by
        rw [q6, List.getElem?_append_left (by rw [List.length_append]; omega), List.getElem?_append_right (by omega)]
        rw [← hq]; congr 1; omega
      simpa using this) hl
    exact ⟨v, by simp [execOp, ho, h2, Instr.loadAt, Instr.sureAddr, h13], h14⟩
theorem astep_store_o (ht : TyTab P tab) {T i ver j off e k : Nat} {te : TE} {x y : Operand} {pre : List D} {mo : Nat} {cells : List AV} (ho : o.op = .store T x y) (hT : tget tab T = some te) (hx : ρ x = .eptr i ver j off) (hM : M[i]? = some (.rowo ver e k pre mo cells)) {o' : Nat} (hj : j * k + off = pre.length * k + o')
    (hy : oneCsM M (cellsOf (ρ y)) = true) (hsz : (cellsOf (ρ y)).length = te.size) (hfit : Nat.ble (o' + te.size) cells.length = true) : AStep P o M ρ (M.set i (.rowo ver e k pre mo (putCells cells o' (cellsOf (ρ y))))) (.val undef) := by
  intro S B β a w hm hs K Q hK
  have h1 := hs x (by simp [ho, Op.operands])
  have h2 := hs y (by simp [ho, Op.operands])
  rw [hx] at h1
  obtain ⟨ab, v1, v2⟩ := h1
  rw [hM] at v1; cases v1
  obtain ⟨g, c, h3, h4⟩ := v2.2 rfl
  obtain ⟨hw, hk, g', cap, cs, q1, q2, q3, q4, q5, c1, c2, c3, q6, q7, q8⟩ := hm.ent i _ hM
  rw [h3] at q1; cases q1
  obtain ⟨h8, h9⟩ := cellsOf_satM hy h2
  have hl8 := h8.len
  have hl2 := q8.len
  have hfit' := Nat.le_of_ble_eq_true hfit
  have hl1 : c1.length = pre.length * k := by rw [q7.len, widths_allW hw]
  have hcl : cs.size = c1.length + c2.length + c3.length := by rw [← Array.length_toList, q6]; simp only [List.length_append]
  obtain ⟨fz, g1, g2⟩ := q2
  have hst := run_storeCells_c P g (j * k + off) e fz (a.eval y).cells.toList 0 cs w g1 (fun j _ hj => g2.clear rfl j hj) (by omega) h9
  simp only [Nat.add_zero] at hst
  have hvs : (a.eval y).cells.size = te.size := by rw [← Array.length_toList, hl8, hsz]
  have hrun : (execOp a.eval o).run P w = .ok .skip (w.setRow g (cs.toList.take (j * k + off) ++ (a.eval y).cells.toList ++ cs.toList.drop (j * k + off + (a.eval y).cells.toList.length)).toArray) := by
    simp only [execOp, ho, h4, Instr.storeAt, Instr.sureAddr]
    simp only [Sem.run_bind, Sem.run_pure, Result.andThen_ok, storeVar, run_sizeOf (ht.get hT), hvs, ne_eq, not_true_eq_false, if_false, hst]
  unfold Oper.wp
  rw [hrun]
  have hs' : setE β i (some (g, c)) = β := by funext j; by_cases hj : j = i <;> simp [setE, hj, h3]
  have hcat : cs.toList.take (j * k + off) ++ (a.eval y).cells.toList ++ cs.toList.drop (j * k + off + (a.eval y).cells.toList.length) = c1 ++ (c2.take o' ++ (a.eval y).cells.toList ++ c2.drop (o' + (a.eval y).cells.toList.length)) ++ c3 := by
    have e1 : cs.toList = c1 ++ (c2 ++ c3) := by rw [q6, List.append_assoc]
    rw [e1, hj, ← hl1, List.take_length_add_append, Nat.add_assoc, List.drop_length_add_append, List.take_append_of_le_length (by omega), List.drop_append_of_le_length (by omega)]
    simp only [List.append_assoc]
  have hlen : (cs.toList.take (j * k + off) ++ (a.eval y).cells.toList ++ cs.toList.drop (j * k + off + (a.eval y).cells.toList.length)).length = cs.size := by
    rw [hcat]
    simp only [List.length_append, List.length_take, List.length_drop]
    omega
  have := hm.set_ (w' := w.setRow g (cs.toList.take (j * k + off) ++ (a.eval y).cells.toList ++ cs.toList.drop (j * k + off + (a.eval y).cells.toList.length)).toArray)
    (ab' := .rowo ver e k pre mo (putCells cells o' (cellsOf (ρ y)))) (x := some (g, c)) hM rfl rfl rfl rfl (by simp)
    (fun b _ hne => setRow_other w g b _ (fun e => hne c (by rw [h3, e]))) (fun g' c' h => by cases h; exact .inl ⟨c, h3⟩) ⟨Nat.le_refl _, rfl, fun _ => ⟨h3.symm, rfl⟩⟩
    (fun hE => ⟨hw, by
      unfold putCells
      simp only [List.length_append, List.length_take, List.length_drop]
      omega, g, c, _, rfl, ⟨fz, setRow_heap w g cs _ e _ g1, g2.mono rfl (Nat.le_refl _) (by rw [List.size_toArray, hlen])⟩, q3, q4, by rw [List.size_toArray, hlen, q5], c1, _, c3, by rw [List.toList_toArray]; exact hcat,
      DenCs.mono (fun _ => immOf.ev hE) (fun _ off => immOf.cell hE off) _ _ q7, by
        have := putCells_sat (off := o') (q8.ev hE) (h8.ev hE)
        exact this⟩)
  rw [hs'] at this
  exact hK _ _ _ this.1 this.2 rfl
end
section
variable {P : Program} {ops : Array Oper} {N : Nat} {K : AS → Prop} {o : Oper} {r : List Oper} {fo fo' : Option (List Nat)} {M M' : List AB} {F : List (Nat × AV)} {dt : Tmp} {tab : List (Nat × TE)} {out : AV}
theorem r_idx_o (ht : TyTab P tab) {T e i ver e' : Nat} {ee : TE} {pre : List D} {mo : Nat} {cells : List AV} {x y : Operand} {q : IntKind} {n : Int} (hg : o.guard = none) (ho : o.op = .indexAddr T x y) (hT : elemOf_ tab T = some (e, ee)) (hx : aval (look F) x = .row i ver) (hM : M[i]? = some (.rowo ver e' ee.size pre mo cells)) (hy : aval (look F) y = .val (.int q n))
    (hdd : o.dst = some dt) (hd : dstB o.dst N = true) (h0 : 0 ≤ n) (hn : n.toNat < pre.length + mo) (hp : popF fo 1 = some fo') (k : RunX P ops N K r fo' M ((dt, .eptr i ver n.toNat 0) :: F)) : RunX P ops N K (o :: r) fo M F :=
  RunX.mk (fun _ k => Run.quiet hd (StepG.plain hg (astep_idx_o ht ho hT hx hM hy h0 hn)) (by rw [put_eq hdd]; exact k)) hp k
theorem r_field_o (ht : TyTab P tab) {T f off i ver j off0 e k' : Nat} {fe : TE} {x : Operand} {pre : List D} {mo : Nat} {cells : List AV} (hg : o.guard = none) (ho : o.op = .fieldAddr T x f) (hf : fieldOf tab T f = some (off, fe)) (hx : aval (look F) x = .eptr i ver j off0) (hM : M[i]? = some (.rowo ver e k' pre mo cells)) (hdd : o.dst = some dt) (hd : dstB o.dst N = true) (hp : popF fo 1 = some fo')
    (k : RunX P ops N K r fo' M ((dt, .eptr i ver j (off0 + off)) :: F)) : RunX P ops N K (o :: r) fo M F :=
  RunX.mk (fun _ k => Run.quiet hd (StepG.plain hg (astep_field_o ht ho hf hx hM)) (by rw [put_eq hdd]; exact k)) hp k
theorem r_ld_o (ht : TyTab P tab) {T i ver j off e k' : Nat} {te : TE} {x : Operand} {pre : List D} {mo : Nat} {cells : List AV} (hg : o.guard = none) (ho : o.op = .load T x) (hT : tget tab T = some te) (hx : aval (look F) x = .eptr i ver j off) (hM : M[i]? = some (.rowo ver e k' pre mo cells)) {o' : Nat} (hj : j * k' + off = pre.length * k' + o') (hl : ldAV te (cells.drop o') = some out)
    (hdd : o.dst = some dt) (hd : dstB o.dst N = true) (hp : popF fo 1 = some fo') (k : RunX P ops N K r fo' M ((dt, out) :: F)) : RunX P ops N K (o :: r) fo M F :=
  RunX.mk (fun _ k => Run.quiet hd (StepG.plain hg (astep_load_o ht ho hT hx hM hj (ldAV_eq hl))) (by rw [put_eq hdd]; exact k)) hp k
end
end Go.Proofs.YtiolnmfaeenlmaaGreatDoor

/- The engine: places in arrays; results that are cells; blocks without zeros; closures let go. -/
namespace Go.Proofs.YtiolnmfaeenlmaaGreatDoor
open Go Go.RowKit

def arrOf (tab : List (Nat × TE)) (T : Nat) : Option (Nat × Nat × TE) :=
  match tget tab T with
  | some te => match te.kind with
    | .array n e => match tget tab e with
      | some ee => some (n, e, ee)
      | none => none
    | _ => none
  | none => none
theorem arrOf_spec {P : Program} {tab : List (Nat × TE)} (ht : TyTab P tab) {T n e : Nat} {ee : TE} (h : arrOf tab T = some (n, e, ee)) : P.underlying T = some (.array n e) ∧ teOf P e = some ee := by
  unfold arrOf at h
  split at h
  · rename_i te hte
    split at h
    · rename_i n' e' hk
      split at h
      · rename_i ee' hee
        cases h
        obtain ⟨d, i', z, hd, hkd, _⟩ := teOf_spec (ht.get hte)
        cases d <;> simp [kindOf, hk] at hkd
        obtain ⟨rfl, rfl⟩ := hkd
        exact ⟨hd, ht.get hee⟩
      · cases h
    · cases h
  · cases h
section
variable {P : Program} {o : Oper} {M M' : List AB} {ρ : Operand → AV} {out : AV} {tab : List (Nat × TE)}
theorem astep_idxa (ht : TyTab P tab) {T n e : Nat} {ee : TE} {x y : Operand} {q : IntKind} {c : Int} (ho : o.op = .indexAddr T x y) (hT : arrOf tab T = some (n, e, ee)) (hy : ρ y = .val (.int q c)) (hc : 0 ≤ c ∧ c < n)
    (hx : shiftP (c.toNat * ee.size) (ρ x) = some out) (hne : ∀ i ver j o, ρ x ≠ .eptr i ver j o) : AStep P o M ρ M out :=
  .value fun S B β a w _ hs => by
    have h1 := hs x (by simp [ho, Op.operands])
    have h2 := hs y (by simp [ho, Op.operands])
    rw [hy] at h2
    have h2 : a.eval y = .int q c := h2
    obtain ⟨hu, he⟩ := arrOf_spec ht hT
    obtain ⟨g, o', h3 | ⟨i, ver, j, o', h3⟩⟩ := shiftP_sat hx h1
    · refine ⟨_, ?_, h3.2⟩
      simp [execOp, ho, h2, h3.1, Instr.indexAt, asIntOf, run_underlying hu, Instr.sureAddr, hc, run_sizeOf he, addr_add]
    · exact absurd h3 (hne _ _ _ _)
/-- A block of whatever bytes, none of which is looked at. -/
def nzV (n : Nat) : Nat → Option (Nat × Nat) → Nat → Value → Prop := fun _ b _ v => ∃ g c, b = some (g, c) ∧ v = .slice (some ⟨g, 0, none⟩) n c
end
section
variable {P : Program} {ops : Array Oper} {N : Nat} {K : AS → Prop} {o : Oper} {r : List Oper} {fo fo' : Option (List Nat)} {M M' : List AB} {F : List (Nat × AV)} {dt : Tmp} {tab : List (Nat × TE)} {out : AV}
theorem r_idxa (ht : TyTab P tab) {T n e : Nat} {ee : TE} {x y : Operand} {q : IntKind} {c : Int} (hg : o.guard = none) (ho : o.op = .indexAddr T x y) (hT : arrOf tab T = some (n, e, ee)) (hy : aval (look F) y = .val (.int q c)) (hc : (Nat.ble 0 0 && decide (0 ≤ c) && decide (c < n)) = true)
    (hx : shiftP (c.toNat * ee.size) (aval (look F) x) = some out) (hdd : o.dst = some dt) (hd : dstB o.dst N = true) (hp : popF fo 0 = some fo') (k : RunX P ops N K r fo' M ((dt, out) :: F)) (hne : ∀ i ver j o, aval (look F) x ≠ .eptr i ver j o := by intro _ _ _ _ h; cases h) : RunX P ops N K (o :: r) fo M F :=
  RunX.mk (fun _ k => Run.pure_ hd (fun _ => StepG.plain hg (astep_idxa ht ho hT hy (by simpa using hc) hx hne)) (by rw [put_eq hdd]; exact k)) hp k
end
/-- An own box that is not written any more, let go: what points to it reads it. -/
theorem fits_sinkp {cx : Cx} {M : List AB} {F : List (Nat × AV)} {i d T : Nat} {l : List AV} (hM : M[i]? = some (.box T l)) (hfr : AV.frees l = true) (hd : look F d = .ptr i 0) : Fits cx ⟨M, F⟩ ⟨M.set i .gone, (d, .dptr l) :: F⟩ := by
  rintro a w ⟨h1, h2, β, h3, h4, h5⟩
  obtain ⟨e1, e2⟩ := h3.let_go hM rfl
  refine ⟨h1, h2, β, e2, h4.trans e1, fun t => ?_⟩
  cases hb : Nat.beq d t with
  | false =>
    simp only [look, hb, cond_false]
    exact (h5 t).ev e1
  | true =>
    have := Nat.eq_of_beq_eq_true hb
    subst this
    simp only [look, hb, cond_true]
    have h6 := h5 d
    simp only at h6
    rw [hd] at h6
    obtain ⟨g, c, hβ, hvp, ab, _, _⟩ := h6
    obtain ⟨g', c', bs, k1, k2, k3⟩ := h3.ent i _ hM
    rw [hβ] at k1; cases k1
    have hlive : live M β g := ⟨i, _, c, hM, rfl, hβ⟩
    refine ⟨g, 0, bs.toList, hvp, ⟨h3.own g hlive, heap_lt k2, ?_⟩, AVsats.free_ (fun _ => immOf.ev e1) (fun _ _ _ => rfl) _ _ hfr k3, fun j u hj => ?_⟩
    · rintro ⟨j, ab', c'', q1, q2, q3⟩
      by_cases e : j = i
      · subst e
        rw [List.getElem?_set_self (List.getElem?_eq_some_iff.1 hM).1] at q1
        cases q1; cases q2
      · rw [List.getElem?_set_ne (Ne.symm e)] at q1
        exact e (h3.inj j i _ _ g c'' c q1 q2 q3 hM rfl hβ)
    · rw [Nat.zero_add, cell_of_row w g j bs T (0, 0) k2]
      simpa using hj
end Go.Proofs.YtiolnmfaeenlmaaGreatDoor

/- The engine: a row with open elements grows, and is cut. -/
namespace Go.Proofs.YtiolnmfaeenlmaaGreatDoor
open Go Go.RowKit

section
variable {P : Program} {o : Oper} {M M' : List AB} {ρ : Operand → AV} {out : AV} {tab : List (Nat × TE)}
theorem astep_len_o (ht : TyTab P tab) {T e i ver e' k : Nat} {ee : TE} {pre : List D} {mo : Nat} {cells : List AV} {x : Operand} (ho : o.op = .call { callee := .builtin .len, args := #[x], argTypes := #[T] }) (hT : elemOf_ tab T = some (e, ee)) (hx : ρ x = .row i ver) (hM : M[i]? = some (.rowo ver e' k pre mo cells)) :
    AStep P o M ρ M (.val (.int .i64 (pre.length + mo : Nat))) :=
  .value fun S B β a w hm hs => by
    have h1 := hs x (by simp [ho, Op.operands, Call.operands])
    rw [hx] at h1
    obtain ⟨ab, v1, v2⟩ := h1
    rw [hM] at v1; cases v1
    have v3 := v2.2 rfl
    obtain ⟨_, _, g, cap, cs, q1, _⟩ := hm.ent i _ hM
    rw [q1] at v3
    exact ⟨_, by simp [execOp, ho, v3, rowVal, resolve, invoke, builtin, run_len_sl (elemOf_spec ht hT).1], rfl⟩
theorem astep_append_o (ht : TyTab P tab) {T e : Nat} {ee : TE} {x y : Operand} {i ver mo : Nat} {pre : List D} {cells : List AV} {d : D} (ho : o.op = .call { callee := .builtin .append, args := #[x, y], argTypes := #[T, T] }) (hT : elemOf_ tab T = some (e, ee))
    (hok : (Nat.blt 0 ee.size && Nat.beq ee.zero.length ee.size && Nat.blt 0 ee.bytes) = true) (hx : ρ x = .row i ver) (hM : M[i]? = some (.rowo ver e ee.size pre mo cells)) (hy : ρ y = .sl ee.size [d]) (hb : (pre.length + mo + 1) * ee.bytes ≤ 140737488355328) :
    AStep P o M ρ (M.set i (.rowo (ver + 2) e ee.size pre (mo + 1) (cells ++ d.cells))) (.row i (ver + 2)) := by
  intro S B β a w hm hs K Q hK
  have hlt : i < M.length := (List.getElem?_eq_some_iff.1 hM).1
  have h1 := hs x (by simp [ho, Op.operands, Call.operands])
  have h2 := hs y (by simp [ho, Op.operands, Call.operands])
  rw [hx] at h1; rw [hy] at h2
  obtain ⟨ab, v1, v2⟩ := h1
  rw [hM] at v1; cases v1
  have v3 := v2.2 rfl
  obtain ⟨hw, hk, g, cap, cs, q1, q2, q3, q4, q5, c1, c2, c3, q6, q7, q8⟩ := hm.ent i _ hM
  rw [q1] at v3
  obtain ⟨A, m, c, rows, s1, s2, s3, s4, s5, s6, s7⟩ := src_of h2
  have hm1 : m = 1 := s2
  subst hm1
  have hl1 : c1.length = pre.length * ee.size := by rw [q7.len, widths_allW hw]
  have hl2 : c2.length = mo * ee.size := by rw [q8.len, hk]
  have hl12 : (c1 ++ c2).length = (pre.length + mo) * ee.size := by rw [List.length_append, hl1, hl2, Nat.add_mul]
  have w1 : ownsC w e ee.size 0 (a.eval x) (pre.length + mo) (c1 ++ c2) :=
    ⟨hl12, .inr ⟨g, cap, cs, by rw [v3]; rfl, q2.mono rfl (Nat.zero_le _), q3, q4, q5, by rw [q6, List.take_append_of_le_length (by omega), List.take_of_length_le (by omega)]⟩⟩
  have w3 : (a.eval x).ownBlock = some g := by rw [v3]; rfl
  have hsz : 0 < ee.size := by simp only [Bool.and_eq_true, Nat.blt_eq] at hok; exact hok.1.1
  obtain ⟨v', w', r1, r2, r3, r4⟩ := run_append_src (P := P) (c := c) ht hT hok o.type w1 s5 s6 s7 (s4.one) hb
  have hrun : (execOp a.eval o).run P w = .ok (.value v') w' := by
    simp [execOp, ho, resolve, invoke, builtin, s1, r1]
  unfold Oper.wp
  rw [hrun]
  obtain ⟨f1, f2⟩ := r2
  rcases f2 with ⟨_, f3⟩ | ⟨g', cap', cur, e1, e2, e3, e4, e5, e6⟩
  · omega
  subst e1
  obtain ⟨x1, y1, p1, p4, p5⟩ := s4
  have hp5 : y1 = [] := p5
  subst hp5
  rw [List.append_nil] at p1
  subst p1
  have hdl : d.width = ee.size := s3 d (by simp)
  have hcat : cur.toList = c1 ++ (c2 ++ rows) ++ cur.toList.drop ((pre.length + mo + 1) * ee.size) := by
    have := List.take_append_drop ((pre.length + mo + 1) * ee.size) cur.toList
    rw [e6] at this
    rw [← List.append_assoc c1]
    exact this.symm
  obtain ⟨fz, z1, z2⟩ := e2
  have := hm.set_ (w' := w') (ab' := .rowo (ver + 2) e ee.size pre (mo + 1) (cells ++ d.cells)) (x := some (g', cap')) hM rfl r3.os r3.tape r3.output r3.size
    (fun b hb hne => r3.block b hb (fun e' => by
      rw [w3] at e'
      cases e'
      exact hne cap q1))
    (fun g0 c0 h => by
      cases h
      rcases r4 with r4 | r4
      · rw [w3] at r4
        cases r4
        exact .inl ⟨cap, q1⟩
      · cases r4
        exact .inr (Nat.le_refl _))
    ⟨by omega, rfl, fun h => by omega⟩
    (fun hE => ⟨hw, by rw [List.length_append, hk, D_cells_len p4, hdl, Nat.add_mul, Nat.one_mul], g', cap', cur, rfl, ⟨fz, z1, (z2.clear rfl).ok rfl⟩, by omega, e4, e5, c1, c2 ++ rows, _, hcat,
      DenCs.mono (fun _ => immOf.ev hE) (fun _ off => immOf.cell hE off) _ _ q7, (q8.ev hE).append ((DenC.cells_ d rows p4).ev hE)⟩)
  refine hK _ _ w' this.1 this.2 ⟨.rowo (ver + 2) e ee.size pre (mo + 1) (cells ++ d.cells), by rw [List.getElem?_set_self hlt], Nat.le_refl _, fun _ => ?_⟩
  rw [setE_same]
  rfl
end
section
variable {P : Program} {ops : Array Oper} {N : Nat} {K : AS → Prop} {o : Oper} {r : List Oper} {fo fo' : Option (List Nat)} {M M' : List AB} {F : List (Nat × AV)} {dt : Tmp} {tab : List (Nat × TE)} {out : AV}
theorem r_len_o (ht : TyTab P tab) {T e i ver e' k' : Nat} {ee : TE} {pre : List D} {mo : Nat} {cells : List AV} {x : Operand} (hg : o.guard = none) (ho : o.op = .call { callee := .builtin .len, args := #[x], argTypes := #[T] }) (hT : elemOf_ tab T = some (e, ee)) (hx : aval (look F) x = .row i ver) (hM : M[i]? = some (.rowo ver e' k' pre mo cells))
    (hdd : o.dst = some dt) (hd : dstB o.dst N = true) (hp : popF fo 1 = some fo') (k : RunX P ops N K r fo' M ((dt, .val (.int .i64 (pre.length + mo : Nat))) :: F)) : RunX P ops N K (o :: r) fo M F :=
  RunX.mk (fun _ k => Run.quiet hd (StepG.plain hg (astep_len_o ht ho hT hx hM)) (by rw [put_eq hdd]; exact k)) hp k
theorem r_append_o (ht : TyTab P tab) {T e : Nat} {ee : TE} {x y : Operand} {i ver mo : Nat} {pre : List D} {cells new : List AV} {d : D} (hg : o.guard = none) (ho : o.op = .call { callee := .builtin .append, args := #[x, y], argTypes := #[T, T] }) (hT : elemOf_ tab T = some (e, ee))
    (hok : (Nat.blt 0 ee.size && Nat.beq ee.zero.length ee.size && Nat.blt 0 ee.bytes) = true) (hx : aval (look F) x = .row i ver) (hM : M[i]? = some (.rowo ver e ee.size pre mo cells)) (hy : aval (look F) y = .sl ee.size [d]) (hdd : o.dst = some dt) (hd : dstB o.dst N = true)
    (hb : (pre.length + mo + 1) * ee.bytes ≤ 140737488355328) (hnew : cells ++ d.cells = new) (hp : popF fo 2 = some fo') (k : RunX P ops N K r fo' (M.set i (.rowo (ver + 2) e ee.size pre (mo + 1) new)) ((dt, .row i (ver + 2)) :: F)) : RunX P ops N K (o :: r) fo M F := by
  subst hnew
  exact RunX.mk (fun _ k => Run.eff hd (StepG.plain hg (astep_append_o ht ho hT hok hx hM hy hb)) (by rw [put_eq hdd]; exact k)) hp k
end
section
variable {P : Program} {ops : Array Oper} {N : Nat} {K : AS → Prop} {o : Oper} {r : List Oper} {fo fo' : Option (List Nat)} {M M' : List AB} {F : List (Nat × AV)} {dt : Tmp} {tab : List (Nat × TE)} {out : AV} {jg : Nat} {want c0 : Bool} {g : Tmp}
theorem r_len_o_cnd (ht : TyTab P tab) {T e i ver e' k' : Nat} {ee : TE} {pre : List D} {mo : Nat} {cells : List AV} {x : Operand} (hg : o.guard = some (jg, want)) (hj : dstOf ops jg = some g) (hF : guardOf want (look F g) = some c0) (ho : o.op = .call { callee := .builtin .len, args := #[x], argTypes := #[T] }) (hT : elemOf_ tab T = some (e, ee))
    (hx : aval (fun t => strip (look F t)) x = .row i ver) (hM : c0 = true → M[i]? = some (.rowo ver e' k' pre mo cells)) (hcs : c0 = true → condsOf (look F) o.op.operands.toList = true) (hdd : o.dst = some dt) (hd : dstB o.dst N = true) (hp : popF fo 1 = some fo') (k : RunX P ops N K r fo' M ((dt, .cnd c0 (.val (.int .i64 (pre.length + mo : Nat)))) :: F)) : RunX P ops N K (o :: r) fo M F :=
  RunX.mk (fun _ k => Run.quiet hd (StepG.cnd hg hj hF hcs fun h => astep_len_o ht ho hT hx (hM h)) (by rw [put_eq hdd]; exact k)) hp k
theorem r_idx_o_cnd (ht : TyTab P tab) {T e i ver e' : Nat} {ee : TE} {pre : List D} {mo : Nat} {cells : List AV} {x y : Operand} {q : IntKind} {n : Int} (hg : o.guard = some (jg, want)) (hj : dstOf ops jg = some g) (hF : guardOf want (look F g) = some c0) (ho : o.op = .indexAddr T x y) (hT : elemOf_ tab T = some (e, ee))
    (hx : aval (fun t => strip (look F t)) x = .row i ver) (hM : c0 = true → M[i]? = some (.rowo ver e' ee.size pre mo cells)) (hy : aval (fun t => strip (look F t)) y = .val (.int q n)) (hcs : c0 = true → condsOf (look F) o.op.operands.toList = true) (hdd : o.dst = some dt) (hd : dstB o.dst N = true)
    (h0 : c0 = true → 0 ≤ n) (hn : c0 = true → n.toNat < pre.length + mo) (hp : popF fo 1 = some fo') (k : RunX P ops N K r fo' M ((dt, .cnd c0 (.eptr i ver n.toNat 0)) :: F)) : RunX P ops N K (o :: r) fo M F :=
  RunX.mk (fun _ k => Run.quiet hd (StepG.cnd hg hj hF hcs fun h => astep_idx_o ht ho hT hx (hM h) hy (h0 h) (hn h)) (by rw [put_eq hdd]; exact k)) hp k
theorem r_field_o_cnd (ht : TyTab P tab) {T f off i ver j off0 e k' : Nat} {fe : TE} {x : Operand} {pre : List D} {mo : Nat} {cells : List AV} (hg : o.guard = some (jg, want)) (hj : dstOf ops jg = some g) (hF : guardOf want (look F g) = some c0) (ho : o.op = .fieldAddr T x f) (hf : fieldOf tab T f = some (off, fe))
    (hx : aval (fun t => strip (look F t)) x = .eptr i ver j off0) (hM : c0 = true → M[i]? = some (.rowo ver e k' pre mo cells)) (hcs : c0 = true → condsOf (look F) o.op.operands.toList = true) (hdd : o.dst = some dt) (hd : dstB o.dst N = true) (hp : popF fo 1 = some fo')
    (k : RunX P ops N K r fo' M ((dt, .cnd c0 (.eptr i ver j (off0 + off))) :: F)) : RunX P ops N K (o :: r) fo M F :=
  RunX.mk (fun _ k => Run.quiet hd (StepG.cnd hg hj hF hcs fun h => astep_field_o ht ho hf hx (hM h)) (by rw [put_eq hdd]; exact k)) hp k
theorem r_ld_o_cnd (ht : TyTab P tab) {T i ver j off e k' : Nat} {te : TE} {x : Operand} {pre : List D} {mo : Nat} {cells : List AV} (hg : o.guard = some (jg, want)) (hj : dstOf ops jg = some g) (hF : guardOf want (look F g) = some c0) (ho : o.op = .load T x) (hT : tget tab T = some te)
    (hx : aval (fun t => strip (look F t)) x = .eptr i ver j off) (hM : c0 = true → M[i]? = some (.rowo ver e k' pre mo cells)) {o' : Nat} (hq : c0 = true → j * k' + off = pre.length * k' + o') (hl : c0 = true → loadAV te (cells.drop o') = some out) (hcs : c0 = true → condsOf (look F) o.op.operands.toList = true)
    (hdd : o.dst = some dt) (hd : dstB o.dst N = true) (hp : popF fo 1 = some fo') (k : RunX P ops N K r fo' M ((dt, .cnd c0 out) :: F)) : RunX P ops N K (o :: r) fo M F :=
  RunX.mk (fun _ k => Run.quiet hd (StepG.cnd hg hj hF hcs fun h => astep_load_o ht ho hT hx (hM h) (hq h) (hl h)) (by rw [put_eq hdd]; exact k)) hp k
end
end Go.Proofs.YtiolnmfaeenlmaaGreatDoor

/- The engine: a region whose orders differ; two stores, whichever comes last. -/
namespace Go.Proofs.YtiolnmfaeenlmaaGreatDoor
open Go Go.RowKit

/-- Whichever is taken next. -/
def AnyR (P : Program) (ops : Array Oper) (N : Nat) (K : AS → Prop) : Nat → Array Bool → AS → Prop
  | 0, listed, s => Region.ready .any ops listed = [] ∧ K s
  | f + 1, listed, s => (Region.ready .any ops listed = [] → K s) ∧ ∀ i ∈ Region.ready .any ops listed, ∃ o M' out, ops[i]? = some o ∧ dstB o.dst N = true ∧ StepG P ops o s.M (look s.F) M' out ∧ AnyR P ops N K f (listed.setIfInBounds i true) ⟨M', putF s.F o.dst out⟩
theorem AnyR.sound {cx : Cx} {ops : Array Oper} {K : AS → Prop} {Q : Exit → Act → World → Prop} (hQ : ∀ s a w, K s → Sat cx s a w → Q .normal a w) : ∀ (f : Nat) (listed : Array Bool) (s : AS) (a : Act) (w : World),
    AnyR cx.P ops cx.N K f listed s → Sat cx s a w → wpAnyIn (Fen cx.L) 0 cx.P .any ops Q f listed a w
  | 0, _, s, a, w, h, hs => ⟨h.1, hQ s a w h.2 hs⟩
  | f + 1, listed, s, a, w, h, hs => by
    refine ⟨fun he => hQ s a w (h.1 he) hs, fun i hi => ?_⟩
    obtain ⟨o, M', out, h1, h2, h3, h4⟩ := h.2 i hi
    unfold wpOpIn
    rw [h1]
    refine StepG.sat rfl h2 h3 hs fun a' w' hs' => AnyR.sound hQ f _ _ a' w' h4 ?_
    show SatF cx M' (look (putF s.F o.dst out)) a' w'
    rw [look_putF]
    exact hs'
theorem a_any {cx : Cx} {s : AS} {Q : Exit → AS → Prop} {id : Nat} {ops : Array Oper} (hm : cx.P.follows .mixedOrders = true) (h : AnyR cx.P ops cx.N (fun s' => Q .normal s') ops.size (Array.replicate ops.size false) s) : AWp cx (.region id ops true) s Q := by
  intro a w hs
  refine wpIn_region_any hm ?_
  obtain ⟨h1, h2, β, h3, h4, h5⟩ := hs
  have hb : Below w.heap.size w w.drew := (Below.refl _ _).drew
  have he : Ev s.M β w s.M β w.drew := Ev.of_below hb
  exact AnyR.sound (fun s a w hq hs => ⟨s, hq, hs⟩) _ _ s a _ h ⟨h1, h2.ev h3 he, β, h3.quiet hb, h4.trans he, fun d => (h5 d).ev he⟩
theorem anyR_one {P : Program} {ops : Array Oper} {N : Nat} {K : AS → Prop} {f i : Nat} {listed : Array Bool} {s : AS} {o : Oper} {M' : List AB} {out : AV} (hr : Region.ready .any ops listed = [i]) (ho : ops[i]? = some o) (hd : dstB o.dst N = true) (hs : StepG P ops o s.M (look s.F) M' out)
    (k : AnyR P ops N K f (listed.setIfInBounds i true) ⟨M', putF s.F o.dst out⟩) : AnyR P ops N K (f + 1) listed s :=
  ⟨fun h => (by rw [hr] at h; cases h), fun j hj => by
    rw [hr, List.mem_singleton] at hj
    subst hj
    exact ⟨o, M', out, ho, hd, hs, k⟩⟩
/-- Two stores to one variable, in either order. -/
theorem a_coin {cx : Cx} {tab : List (Nat × TE)} {M : List AB} {F : List (Nat × AV)} {Q : Exit → AS → Prop} {id T : Nat} {te : TE} {t u : Tmp} {o0 o1 o2 o3 : Oper} {z : Value} (ht : TyTab cx.P tab) (hm : cx.P.follows .mixedOrders = true) (hT : tget tab T = some te) (hz : te.zero = [z]) (hk : te.size = 1)
    (g0 : o0.guard = none) (g1 : o1.guard = none) (g2 : o2.guard = none) (g3 : o3.guard = none) (p0 : o0.op = .alloc T) (p1 : o1.op = .store T (.tmp t) (.const (.bool true))) (p2 : o2.op = .store T (.tmp t) (.const (.bool false))) (p3 : o3.op = .load T (.tmp t))
    (d0 : o0.dst = some t) (d1 : o1.dst = none) (d2 : o2.dst = none) (d3 : o3.dst = some u) (b0 : dstB (some t) cx.N = true) (b3 : dstB (some u) cx.N = true)
    (r0 : Region.ready .any #[o0, o1, o2, o3] #[false, false, false, false] = [0]) (r1 : Region.ready .any #[o0, o1, o2, o3] #[true, false, false, false] = [1, 2]) (r2 : Region.ready .any #[o0, o1, o2, o3] #[true, true, false, false] = [2])
    (r3 : Region.ready .any #[o0, o1, o2, o3] #[true, false, true, false] = [1]) (r4 : Region.ready .any #[o0, o1, o2, o3] #[true, true, true, false] = [3]) (r5 : Region.ready .any #[o0, o1, o2, o3] #[true, true, true, true] = [])
    (hl : ∀ b, loadAV te [.val (.bool b)] = some (.val (.bool b)))
    (k : ∀ b, Q .normal ⟨M ++ [.box T [.val (.bool b)]], (u, .val (.bool b)) :: (t, .ptr M.length 0) :: F⟩) : AWp cx (.region id #[o0, o1, o2, o3] true) ⟨M, F⟩ Q := by
  refine a_any hm ?_
  have hat : ∀ x : AB, (M ++ [x])[M.length]? = some x := fun x => by simp
  have hset : ∀ x y : AB, (M ++ [x]).set M.length y = M ++ [y] := fun x y => by simp
  have hlook : look ((t, AV.ptr M.length 0) :: F) t = .ptr M.length 0 := by simp [look]
  have st : ∀ (o : Oper) (b : Bool) (v : Value), o.guard = none → o.op = .store T (.tmp t) (.const (.bool b)) → StepG cx.P #[o0, o1, o2, o3] o (M ++ [.box T [.val v]]) (look ((t, .ptr M.length 0) :: F)) (M ++ [.box T [.val (.bool b)]]) (.val undef) := fun o b v hg hp => by
    have := astep_store (M := M ++ [.box T [.val v]]) (ρ := aval (look ((t, AV.ptr M.length 0) :: F))) ht hp hT hlook (hat _) (by rfl) (by rw [hk]; rfl) (by rw [hk]; rfl)
    rw [hset] at this
    exact StepG.plain hg this
  have ld : ∀ b : Bool, StepG cx.P #[o0, o1, o2, o3] o3 (M ++ [.box T [.val (.bool b)]]) (look ((t, .ptr M.length 0) :: F)) (M ++ [.box T [.val (.bool b)]]) (.val (.bool b)) := fun b =>
    StepG.plain g3 (astep_load ht p3 hT hlook (hat _) (hl b))
  have fin : ∀ b : Bool, AnyR cx.P #[o0, o1, o2, o3] cx.N (fun s' => Q .normal s') 1 #[true, true, true, false] ⟨M ++ [.box T [.val (.bool b)]], (t, .ptr M.length 0) :: F⟩ := fun b => by
    refine anyR_one (o := o3) r4 rfl (by rw [d3]; exact b3) (ld b) ⟨r5, ?_⟩
    show Q .normal ⟨_, putF _ o3.dst _⟩
    rw [d3]
    exact k b
  have al : StepG cx.P #[o0, o1, o2, o3] o0 M (look F) (M ++ [.box T [.val z]]) (.ptr M.length 0) := by
    have := astep_alloc (M := M) (ρ := aval (look F)) ht p0 hT
    rw [hz] at this
    exact StepG.plain g0 this
  refine anyR_one (f := 3) (o := o0) r0 rfl (by rw [d0]; exact b0) al ?_
  rw [d0]
  refine ⟨fun h => by exact absurd (r1.symm.trans h) (by decide), fun j hj => ?_⟩
  have hj : j ∈ [1, 2] := by rw [← r1]; exact hj
  rw [List.mem_cons, List.mem_singleton] at hj
  rcases hj with rfl | rfl
  · refine ⟨o1, _, _, rfl, by rw [d1]; rfl, st o1 true z g1 p1, ?_⟩
    rw [d1]
    refine anyR_one (f := 1) (o := o2) r2 rfl (by rw [d2]; rfl) (st o2 false _ g2 p2) ?_
    rw [d2]
    exact fin false
  · refine ⟨o2, _, _, rfl, by rw [d2]; rfl, st o2 false z g2 p2, ?_⟩
    rw [d2]
    refine anyR_one (f := 1) (o := o1) r3 rfl (by rw [d1]; rfl) (st o1 true _ g1 p1) ?_
    rw [d1]
    exact fin true
end Go.Proofs.YtiolnmfaeenlmaaGreatDoor

/- The engine: a field of an own row's element (from the texts of law15). -/
namespace Go.Proofs.YtiolnmfaeenlmaaGreatDoor
open Go Go.RowKit

section
variable {P : Program} {o : Oper} {M M' : List AB} {ρ : Operand → AV} {out : AV} {tab : List (Nat × TE)}
theorem astep_field_e (ht : TyTab P tab) {T f off i ver j off0 e k : Nat} {fe : TE} {x : Operand} {es : List D} (ho : o.op = .fieldAddr T x f) (hf : fieldOf tab T f = some (off, fe)) (hx : ρ x = .eptr i ver j off0) (hM : M[i]? = some (.row ver e k es)) : AStep P o M ρ M (.eptr i ver j (off0 + off)) :=
  .value fun S B β a w hm hs => by
    have h1 := hs x (by simp [ho, Op.operands])
    rw [hx] at h1
    obtain ⟨ab, v1, v2⟩ := h1
    rw [hM] at v1; cases v1
    obtain ⟨g, c, h3, h2⟩ := v2.2 rfl
    refine ⟨.pointer (some ⟨g, j * k + off0 + off, none⟩), by simp [execOp, ho, h2, run_fieldAt ht hf], .row ver e k es, hM, Nat.le_refl _, fun _ => ⟨g, c, h3, by simp [Nat.add_assoc]⟩⟩
end
section
variable {P : Program} {ops : Array Oper} {N : Nat} {K : AS → Prop} {o : Oper} {r : List Oper} {fo fo' : Option (List Nat)} {M M' : List AB} {F : List (Nat × AV)} {dt : Tmp} {tab : List (Nat × TE)} {out : AV}
theorem r_fielde (ht : TyTab P tab) {T f off i ver j off0 e k' : Nat} {fe : TE} {x : Operand} {es : List D} (hg : o.guard = none) (ho : o.op = .fieldAddr T x f) (hf : fieldOf tab T f = some (off, fe)) (hx : aval (look F) x = .eptr i ver j off0) (hM : M[i]? = some (.row ver e k' es)) (hdd : o.dst = some dt) (hd : dstB o.dst N = true) (hp : popF fo 1 = some fo')
    (k : RunX P ops N K r fo' M ((dt, .eptr i ver j (off0 + off)) :: F)) : RunX P ops N K (o :: r) fo M F :=
  RunX.mk (fun _ k => Run.quiet hd (StepG.plain hg (astep_field_e ht ho hf hx hM)) (by rw [put_eq hdd]; exact k)) hp k
theorem r_by2n {x : AV} (hs : AStep P o M (aval (look F)) M' x) (hg : o.guard = none) (hdd : o.dst = none) (hp : popF fo 2 = some fo') (k : RunX P ops N K r fo' M' F) : RunX P ops N K (o :: r) fo M F :=
  RunX.mk (fun _ k => Run.eff (by rw [hdd]; rfl) (StepG.plain hg hs) (by rw [hdd]; exact k)) hp k
end
end Go.Proofs.YtiolnmfaeenlmaaGreatDoor

/- The engine: a call that is handed all own memory as it is. -/
namespace Go.Proofs.YtiolnmfaeenlmaaGreatDoor
open Go Go.RowKit

section
variable {P : Program} {o : Oper} {M M' : List AB} {ρ : Operand → AV}
theorem astep_mcall_all {f : FuncId} {xs : Array Operand} {ts : Array TypeId} {M1 : List AB} {cargs : List AV} {res : AV} (ho : o.op = .call { callee := .value (.func f), args := xs, argTypes := ts }) (hcall : Callable P f) (hc : MCalls P f M cargs M1 res)
    (hargs : Subs (xs.toList.map ρ) cargs) : AStep P o M ρ M1 res := by
  intro S B β a w hm hs K Q hK
  unfold Oper.wp
  rw [run_call hcall ho]
  have h1 := map_sat (l := xs.toList) fun x hx => hs x (mem_call ho hx)
  have h2 := hargs.sat h1
  refine (hc S B β w (xs.map a.eval) hm (by simpa using h2)).mono ?_
  rintro e w' ⟨v, β1, rfl, hE, hm1, hv⟩
  exact hK v β1 w' hE hm1 hv
variable {ops : Array Oper} {N : Nat} {K : AS → Prop} {r : List Oper} {fo fo' : Option (List Nat)} {F : List (Nat × AV)} {dt : Tmp} {out : AV}
theorem r_mcall_all {f : FuncId} {xs : Array Operand} {ts : Array TypeId} {M1 : List AB} {cargs : List AV} {res : AV} (hc : MCalls P f M cargs M1 res) (hcall : Callable P f) (hg : o.guard = none) (ho : o.op = .call { callee := .value (.func f), args := xs, argTypes := ts })
    (hargs : Subs (xs.toList.map (aval (look F))) cargs) (hr : nf res = some out) (hdd : o.dst = some dt) (hd : dstB o.dst N = true) (hp : popF fo 2 = some fo') (k : RunX P ops N K r fo' M1 ((dt, out) :: F)) : RunX P ops N K (o :: r) fo M F :=
  RunX.mk (fun _ k => Run.eff hd (StepG.plain hg (astep_mcall_all ho hcall hc hargs)) (by rw [put_eq hdd, nf_eq hr]; exact k)) hp k
end
end Go.Proofs.YtiolnmfaeenlmaaGreatDoor

/- The engine: a cut of a row with open elements, taken as a word first and as the row later. -/
namespace Go.Proofs.YtiolnmfaeenlmaaGreatDoor
open Go Go.RowKit

def cutV (m : Nat) : Nat → Option (Nat × Nat) → Nat → Value → Prop := fun _ b _ v => ∃ g c, b = some (g, c) ∧ v = .slice (some ⟨g, 0, none⟩) m c
section
variable {P : Program} {o : Oper} {M M' : List AB} {ρ : Operand → AV} {out : AV} {tab : List (Nat × TE)}
theorem astep_pfx_o (ht : TyTab P tab) {T e i ver e' mo : Nat} {ee : TE} {pre : List D} {cells : List AV} {x y : Operand} {q : IntKind} {n : Int} (ho : o.op = .slice T x none (some y) none) (hT : elemOf_ tab T = some (e, ee)) (hx : ρ x = .row i ver) (hM : M[i]? = some (.rowo ver e' ee.size pre mo cells))
    (hy : ρ y = .val (.int q n)) {m : Nat} (hn : n = ((pre.length + m : Nat) : Int)) (hb : m ≤ mo) : AStep P o M ρ M (.vw i ver (cutV (pre.length + m))) :=
  .value fun S B β a w hm hs => by
    have h1 := hs x (by simp [ho, Op.operands])
    have h2 := hs y (by simp [ho, Op.operands])
    rw [hx] at h1; rw [hy] at h2
    have h2 : a.eval y = .int q n := h2
    obtain ⟨ab, v1, v2⟩ := h1
    rw [hM] at v1; cases v1
    have v3 := v2.2 rfl
    obtain ⟨hw, hk, g, cap, cs, q1, q2, q3, q4, q5, c1, c2, c3, q6, q7, q8⟩ := hm.ent i _ hM
    rw [q1] at v3
    have v3 : a.eval x = .slice (some ⟨g, 0, none⟩) (pre.length + mo) cap := v3
    obtain ⟨hu', he⟩ := elemOf_spec ht hT
    obtain ⟨hu'', he'⟩ := elem_of hu'
    have hsz := run_sizeOf (P := P) (w := w) he
    rw [← he'] at hsz
    have er := run_slice_h (P := P) w T (some ⟨g, 0, none⟩) (pre.length + mo) cap hu'' q n (by omega) (by omega)
    have hnt : n.toNat = pre.length + m := by omega
    refine ⟨.slice (some ⟨g, 0, none⟩) (pre.length + m) cap, ?_, _, hM, Nat.le_refl _, fun _ => ⟨g, cap, q1, rfl⟩⟩
    simp only [execOp, ho, v3, Sem.run_bind, run_sliceAt_slice _ _ _ _ _ _ hu'']
    simp [h2, er, hsz, sliced, addr_add, hnt]
end
/-- The word becomes the row. -/
theorem fits_cut {cx : Cx} {M : List AB} {F : List (Nat × AV)} {i ver e k mo m d : Nat} {pre : List D} {cells : List AV} (hM : M[i]? = some (.rowo ver e k pre mo cells)) (hd : look F d = .vw i ver (cutV (pre.length + m))) (hb : m ≤ mo) :
    Fits cx ⟨M, F⟩ ⟨M.set i (.rowo (ver + 2) e k pre m (cells.take (m * k))), (d, .row i (ver + 2)) :: F⟩ := by
  rintro a w ⟨h1, h2, β, h3, h4, h5⟩
  have hlt : i < M.length := (List.getElem?_eq_some_iff.1 hM).1
  obtain ⟨hw, hk, g, cap, cs, q1, q2, q3, q4, q5, c1, c2, c3, q6, q7, q8⟩ := h3.ent i _ hM
  have hv := h5 d
  rw [hd] at hv
  obtain ⟨ab, v1, v2⟩ := hv
  rw [hM] at v1; cases v1
  obtain ⟨g', c', v3, v4⟩ := v2.2 rfl
  rw [q1] at v3; cases v3
  have hmm : m * k ≤ mo * k := Nat.mul_le_mul_right _ hb
  have := h3.set_ (w' := w) (ab' := .rowo (ver + 2) e k pre m (cells.take (m * k))) (x := β i) hM rfl rfl rfl rfl (Nat.le_refl _) (fun _ _ _ => rfl) (fun g c hc => .inl ⟨c, hc⟩) ⟨by omega, rfl, fun h => by omega⟩
    (fun hE => ⟨hw, by rw [List.length_take, hk]; omega, g, cap, cs, q1, q2, by omega, q4, q5, c1, c2.take (m * k), c2.drop (m * k) ++ c3, by rw [q6, List.append_assoc c1, List.append_assoc c1, ← List.append_assoc (c2.take _), List.take_append_drop],
      DenCs.mono (fun _ => immOf.ev hE) (fun _ off => immOf.cell hE off) _ _ q7, (q8.ev hE).take_ _⟩)
  rw [setE_id] at this
  refine ⟨h1, h2, β, this.2, h4.trans this.1, fun z => ?_⟩
  cases hb : Nat.beq d z with
  | false =>
    simp only [look, hb, cond_false]
    exact (h5 z).ev this.1
  | true =>
    simp only [look, hb, cond_true]
    have hz := Nat.eq_of_beq_eq_true hb
    subst hz
    exact ⟨.rowo (ver + 2) e k pre m (cells.take (m * k)), by rw [List.getElem?_set_self hlt], Nat.le_refl _, fun _ => by rw [v4, q1]; rfl⟩
end Go.Proofs.YtiolnmfaeenlmaaGreatDoor

/- The engine: operations that turn the first entry alone, and those that read all but the first. -/
namespace Go.Proofs.YtiolnmfaeenlmaaGreatDoor
open Go Go.RowKit

theorem at_drop1 {M M2 : List AB} {x : AB} (i : Nat) (h : M2.drop 1 = M.drop 1) (hM : M[i + 1]? = some x) : M2[i + 1]? = some x := by
  have e : ∀ l : List AB, l[i + 1]? = (l.drop 1)[i]? := fun l => by rw [List.getElem?_drop, Nat.add_comm]
  rw [e] at hM ⊢
  rw [h, hM]
theorem drop1_set (M : List AB) (x : AB) : (M.set 0 x).drop 1 = M.drop 1 := by cases M <;> rfl
section
variable {P : Program} {ops : Array Oper} {N : Nat} {K : AS → Prop} {o : Oper} {r : List Oper} {fo fo' : Option (List Nat)} {M M' : List AB} {F : List (Nat × AV)} {dt : Tmp} {out : AV}
theorem r_by8 {x : AV} (hs : ∀ M2 : List AB, M2.drop 1 = M.drop 1 → AStep P o M2 (aval (look F)) M2 x) (hg : o.guard = none) (hx : nf x = some out) (hdd : o.dst = some dt) (hd : dstB o.dst N = true) (hp : popF fo 8 = some fo') (k : RunX P ops N K r fo' M ((dt, out) :: F)) : RunX P ops N K (o :: r) fo M F :=
  RunX.mk (fun _ k => Run.rest hd (fun M2 h => StepG.plain hg (hs M2 h)) (by rw [put_eq hdd, nf_eq hx]; exact k)) hp k
theorem r_by7n {x : AV} (hs : AStep P o M (aval (look F)) M' x) (hM : M'.drop 1 = M.drop 1) (hg : o.guard = none) (hdd : o.dst = none) (hp : popF fo 7 = some fo') (k : RunX P ops N K r fo' M' F) : RunX P ops N K (o :: r) fo M F :=
  RunX.mk (fun _ k => Run.first (by rw [hdd]; rfl) hM (StepG.plain hg hs) (by rw [hdd]; exact k)) hp k
end
end Go.Proofs.YtiolnmfaeenlmaaGreatDoor

/- The engine: a row of blocks that lie open, each with an own row within it. -/
namespace Go.Proofs.YtiolnmfaeenlmaaGreatDoor
open Go Go.RowKit

theorem fits_tr {cx : Cx} {s s' s'' : AS} (h : Fits cx s s') (k : Fits cx s' s'') : Fits cx s s'' := fun a w hs => k a w (h a w hs)
/-- Plain data cells. -/
def AV.plain : AV → Bool
  | .val _ => true
  | .sl _ _ => true
  | _ => false
/-- A block: what lies ahead of its own row, the row, what lies behind it. -/
structure Bl where
  a : List AV
  kids : List D
  b : List AV
def Bl.ok (na nb : Nat) (f : Bl) : Prop := f.a.length = na ∧ f.b.length = nb ∧ f.a.all AV.plain = true ∧ f.b.all AV.plain = true
def blC (o j v : Nat) (f : Bl) : List AV := f.a ++ .row (o + j) v :: f.b
def blCs (o : Nat) (v : Nat → Nat) : Nat → List Bl → List AV
  | _, [] => []
  | j, f :: r => blC o j (v j) f ++ blCs o v (j + 1) r
def blRs (kt kw : Nat) (v : Nat → Nat) : Nat → List Bl → List AB
  | _, [] => []
  | j, f :: r => .row (v j) kt kw f.kids :: blRs kt kw v (j + 1) r
def v0 : Nat → Nat := fun _ => 0
def v1 (p n : Nat) : Nat → Nat := fun k => if k = p then n else 0
/-- The whole memory: a box, the blocks, their rows. -/
def mB (nb : AB) (E W ver mo kt kw : Nat) (v : Nat → Nat) (gs : List Bl) (c : List AV) (rest : List AB) : List AB := nb :: .rowo ver E W [] mo (blCs 2 v 0 gs ++ c) :: (blRs kt kw v 0 gs ++ rest)
section
variable {nb nb' : AB} {E W ver ver' mo kt kw : Nat} {v v' : Nat → Nat} {gs : List Bl} {c c' : List AV} {rest rest' : List AB}
/-- All rows become data. -/
def blD (kw : Nat) (f : Bl) : List AV := f.a ++ .sl kw f.kids :: f.b
end
end Go.Proofs.YtiolnmfaeenlmaaGreatDoor

/- The engine: a row of blocks within a box: renumbered, made longer, let go as data. -/
namespace Go.Proofs.YtiolnmfaeenlmaaGreatDoor
open Go Go.RowKit

section
variable {P : Program} {N : Nat} {S : Nat → Prop} {w0 : World} {β0 : Env} {L : Option Nat} {F F' : List (Nat × AV)} {T E W kt kw na nb : Nat}
def tBx (T v : Nat) : AB := .box T [.row 1 v]
def allM (T E W kt kw : Nat) (gs : List Bl) : List AB := mB (tBx T 0) E W 0 gs.length kt kw v0 gs [] []
/-- All of it is data. -/
def blN (kw : Nat) (f : Bl) : D → Prop := fun d => d.cells = blD kw f ∧ d.fine
end
end Go.Proofs.YtiolnmfaeenlmaaGreatDoor

/- The engine: a guard that is known to hold is let go. -/
namespace Go.Proofs.YtiolnmfaeenlmaaGreatDoor
open Go Go.RowKit

def unG (o : Oper) : Oper := { o with guard := none }
section
variable {P : Program} {ops : Array Oper} {N : Nat} {K : AS → Prop} {o : Oper} {r : List Oper} {fo : Option (List Nat)} {M M' : List AB} {F : Nat → AV} {out : AV} {j : Nat} {want : Bool} {g : Tmp}
theorem unG_looks {t : Tmp} (h : t ∈ (unG o).looksAt ops) : t ∈ o.looksAt ops := by
  unfold Oper.looksAt at *
  rw [List.mem_append] at *
  rcases h with h | h
  · exact .inl h
  · simp [unG] at h
theorem StepG.unguard (hg : o.guard = some (j, want)) (hj : dstOf ops j = some g) (hF : F g = .val (.bool want)) (h : StepG P ops (unG o) M F M' out) : StepG P ops o M F M' out := by
  intro S B β a w hm hs K Q hK
  have h1 := hs g (guard_mem hg hj)
  rw [hF] at h1
  have hy := yielded_of (a := a) hj h1
  have hw : Region.wanted o (yielded ops a.tmps) = true := by simp [Region.wanted, hg, hy, boolOf]
  rw [if_pos hw]
  have h2 := h S B β a w hm (fun t ht => hs t (unG_looks ht)) K Q hK
  have hw2 : Region.wanted (unG o) (yielded ops a.tmps) = true := by simp [Region.wanted, unG]
  rw [if_pos hw2] at h2
  exact h2
theorem StepK.unguard {k : Nat} (hg : o.guard = some (j, want)) (hj : dstOf ops j = some g) (hF : F g = .val (.bool want)) (h : StepK P ops k (unG o) M F M' out) : StepK P ops k o M F M' out := by
  have hu : ∀ {M M' : List AB}, StepG P ops (unG o) M F M' out → StepG P ops o M F M' out := fun h => StepG.unguard hg hj hF h
  unfold StepK at *
  split at h
  · exact ⟨h.1, fun M => hu (h.2 M)⟩
  · exact ⟨h.1, hu h.2⟩
  · exact ⟨h.1, h.2.1, hu h.2.2⟩
  · exact ⟨h.1, fun M2 h2 => hu (h.2 M2 h2)⟩
  · exact ⟨h.1, hu h.2⟩
  · exact ⟨h.1, fun M2 h2 => hu (h.2 M2 h2)⟩
  · exact ⟨h.1, hu h.2⟩
  · exact ⟨h.1, fun M2 h2 => hu (h.2 M2 h2)⟩
  · unfold StepM at *
    split at h
    · rename_i hk
      rw [if_pos hk]
      exact ⟨h.1, fun M2 h2 => hu (h.2 M2 h2)⟩
    · rename_i hk
      rw [if_neg hk]
      exact ⟨h.1, hu h.2⟩
  · exact hu h
theorem r_g {F : List (Nat × AV)} (hg : o.guard = some (j, want)) (hj : dstOf ops j = some g) (hF : look F g = .val (.bool want)) (k : RunX P ops N K (unG o :: r) fo M F) : RunX P ops N K (o :: r) fo M F := by
  have key : ∀ fl, Run P ops N K (unG o :: r) fl ⟨M, F⟩ → Run P ops N K (o :: r) fl ⟨M, F⟩ := by
    rintro fl ⟨k, fl', M', out, h1, h2, h3, h4⟩
    exact ⟨k, fl', M', out, h1, h2, h3.unguard hg hj hF, h4⟩
  cases fo with
  | none => exact k.imp key
  | some l => exact key _ k
end
end Go.Proofs.YtiolnmfaeenlmaaGreatDoor

/- The engine: own rows lent to calls that take data. -/
namespace Go.Proofs.YtiolnmfaeenlmaaGreatDoor
open Go Go.RowKit

mutual
/-- Known of a value without a word on memory. -/
def AV.bare : AV → Bool
  | .any => true
  | .val _ => true
  | .ub _ _ => true
  | .tup l => AV.bares l
  | .agg l => AV.bares l
  | _ => false
def AV.bares : List AV → Bool
  | [] => true
  | x :: r => x.bare && AV.bares r
end
section
variable {M M' : List AB} {β β' : Env} {w w' : World} {imm imm' : Nat → Prop}
mutual
theorem bare_sat : ∀ (x : AV) (v : Value), x.bare = true → AVsat M β w imm x v → AVsat M' β' w' imm' x v
  | .any, _, _, _ => trivial
  | .val _, _, _, h => h
  | .ub _ _, _, _, h => h
  | .tup l, _, hb, ⟨cs, h1, h2⟩ => ⟨cs, h1, bares_sat l _ hb h2⟩
  | .agg l, _, hb, ⟨cs, h1, h2⟩ => ⟨cs, h1, bares_sat l _ hb h2⟩
  | .sl _ _, _, h, _ => by cases h
  | .ptr _ _, _, h, _ => by cases h
  | .row _ _, _, h, _ => by cases h
  | .eptr _ _ _ _, _, h, _ => by cases h
  | .dptr _, _, h, _ => by cases h
  | .cnd _ _, _, h, _ => by cases h
  | .cl _ _, _, h, _ => by cases h
  | .alt _ _, _, h, _ => by cases h
  | .pr _, _, h, _ => by cases h
  | .vw _ _ _, _, h, _ => by cases h
theorem bares_sat : ∀ (l : List AV) (vs : List Value), AV.bares l = true → AVsats M β w imm l vs → AVsats M' β' w' imm' l vs
  | [], _, _, h => h
  | x :: r, _, hb, ⟨v, s, h1, h2, h3⟩ => by
    rw [AV.bares, Bool.and_eq_true] at hb
    exact ⟨v, s, h1, bare_sat x v hb.1 h2, bares_sat r s hb.2 h3⟩
end
end
/-- What is handed to a call that takes data: data, or an own row as it is. -/
def Lends (M : List AB) : List AV → List AV → Prop
  | [], [] => True
  | x :: xs, y :: ys => ((x = y ∧ x.free = true) ∨ (∃ i ver e k es, x = .row i ver ∧ y = .sl k es ∧ M[i]? = some (.row ver e k es))) ∧ Lends M xs ys
  | _, _ => False
end Go.Proofs.YtiolnmfaeenlmaaGreatDoor
