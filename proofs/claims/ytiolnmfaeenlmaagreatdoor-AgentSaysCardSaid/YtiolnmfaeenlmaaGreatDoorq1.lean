/- The engine: a slice written out of one struct that holds own rows; such a slice appended. -/
import Derived.Test.YtiolnmfaeenlmaaGreatDoorJa
namespace Go.Proofs.YtiolnmfaeenlmaaGreatDoor
open Go Go.RowKit

section
variable {P : Program} {o : Oper} {M M' : List AB} {ρ : Operand → AV} {out : AV} {tab : List (Nat × TE)}
theorem astep_build_o (ht : TyTab P tab) {T e : Nat} {ee : TE} {x : Operand} {cells : List AV} (ho : o.op = .buildSlice T 1 #[(0, x)]) (hT : elemOf_ tab T = some (e, ee))
    (hok : (Nat.blt 0 ee.size && Nat.beq ee.zero.length ee.size && Nat.ble ee.size 16777216) = true) (hx : cellsOf (ρ x) = cells) (hl : cells.length = ee.size) (h1 : oneCsM M cells = true) : AStep P o M ρ (M ++ [.rowo 0 e ee.size [] 1 cells]) (.row M.length 0) := by
  intro S B β a w hm hs K Q hK
  subst hx
  simp only [Bool.and_eq_true, Nat.blt_eq] at hok
  obtain ⟨⟨o1, o2⟩, o4⟩ := hok
  have hsx := hs x (by simp [ho, Op.operands])
  obtain ⟨c1, c2⟩ := cellsOf_satM h1 hsx
  have hcl : (a.eval x).cells.toList.length = ee.size := by rw [c1.len, hl]
  obtain ⟨cs, h1, h2⟩ := run_buildSlice ht hT (Nat.eq_of_beq_eq_true o2) o1 (vs := [a.eval x]) (n := 1) (fun v hv => by rw [List.mem_singleton] at hv; subst hv; rw [← Array.length_toList]; exact hcl) rfl (by have := Nat.le_of_ble_eq_true o4; omega) w
  have hb : Below w.heap.size w (w.alloc (.cells cs e)) := (Below.refl _ _).alloc (Nat.le_refl _) _
  have hrun : (execOp a.eval o).run P w = .ok (.value (.slice (some ⟨w.heap.size, 0, none⟩) 1 1)) (w.alloc (.cells cs e)) := by
    simp only [execOp, ho, Sem.run_bind]
    have e : (#[(0, x)] : Array (Nat × Operand)).map (fun x => (x.1, a.eval x.2)) = ((([a.eval x]).zipIdx 0).map fun x => (x.2, x.1)).toArray := by simp
    rw [e, h1]
    rfl
  have h2 : cs.toList = (a.eval x).cells.toList := by rw [h2]; simp
  obtain ⟨e1, e2⟩ := hm.push (ab := .rowo 0 e ee.size [] 1 (cellsOf (ρ x))) (x := some (w.heap.size, 1)) hb (fun g c h => by cases h; exact Nat.le_refl _)
    (fun hE => ⟨fun d hd => by simp at hd, by rw [hl, Nat.one_mul], w.heap.size, 1, cs, rfl, .of0 (heap_alloc_new w _), by simp, by simp [maxLen], by rw [← Array.length_toList, h2, hcl, Nat.one_mul], [], (a.eval x).cells.toList, [], by rw [h2]; simp, rfl, c1.ev hE⟩)
  unfold Oper.wp
  rw [hrun]
  exact hK _ _ _ e1 e2 ⟨.rowo 0 e ee.size [] 1 (cellsOf (ρ x)), by simp, Nat.le_refl _, fun _ => by simp [rowVal]⟩
theorem oneCsM_all {β : Env} {w : World} {imm : Nat → Prop} : ∀ {l : List AV} {vs : List Value}, oneCsM M l = true → AVsats M β w imm l vs → ∀ u ∈ vs, u.oneCell' = true
  | [], _, _, h, u, hu => by rw [h] at hu; cases hu
  | x :: l, _, h1, ⟨v, r, h4, h2, h3⟩, u, hu => by
    rw [oneCsM, List.all_cons, Bool.and_eq_true] at h1
    rw [h4, List.mem_cons] at hu
    rcases hu with rfl | hu
    · exact oneCM_sat h1.1 h2
    · exact oneCsM_all (l := l) h1.2 h3 u hu
theorem rowo_src {S : Nat → Prop} {B : Nat} {β : Env} {w : World} (hm : MemSat S B M β w) {j ver e k : Nat} {cells : List AV} {v : Value} (hM : M[j]? = some (.rowo ver e k [] 1 cells)) (hv : AVsat M β w (immOf S B M β w) (.row j ver) v) :
    ∃ A c rows, v = .slice A 1 c ∧ rows.length = k ∧ AVsats M β w (immOf S B M β w) cells rows ∧ (0 < 1 → ∃ ad, A = some ad) ∧ ∀ ad, A = some ad → ∀ (j : Nat) (u : Value), rows[j]? = some u → w.cell? (ad.add j) = some u := by
  obtain ⟨ab, v1, v2⟩ := hv
  rw [hM] at v1; cases v1
  have v3 := v2.2 rfl
  obtain ⟨hw, hk, g, cap, cs, q1, q2, q3, q4, q5, c1, c2, c3, q6, q7, q8⟩ := hm.ent j _ hM
  rw [q1] at v3
  have h0 : c1 = [] := q7
  subst h0
  refine ⟨some ⟨g, 0, none⟩, cap, c2, by rw [v3]; rfl, by rw [q8.len, hk, Nat.one_mul], q8, fun _ => ⟨_, rfl⟩, fun ad had j u hj => ?_⟩
  cases had
  rw [addr_add, q2.cell, Nat.zero_add, ← Array.getElem?_toList, q6, List.nil_append, List.getElem?_append_left (List.getElem?_eq_some_iff.1 hj).1]
  exact hj
theorem astep_append_nilo (ht : TyTab P tab) {T e : Nat} {ee : TE} {x y : Operand} {j ver e' : Nat} {cells : List AV} (ho : o.op = .call { callee := .builtin .append, args := #[x, y], argTypes := #[T, T] }) (hT : elemOf_ tab T = some (e, ee))
    (hok : (Nat.blt 0 ee.size && Nat.beq ee.zero.length ee.size && Nat.blt 0 ee.bytes) = true) (hx : ρ x = .val (.slice none 0 0)) (hy : ρ y = .row j ver) (hM : M[j]? = some (.rowo ver e' ee.size [] 1 cells)) (h1c : oneCsM M cells = true) (hb : ee.bytes ≤ 140737488355328) :
    AStep P o M ρ (M ++ [.rowo 0 e ee.size [] 1 cells]) (.row M.length 0) := by
  intro S B β a w hm hs K Q hK
  have h1 := hs x (by simp [ho, Op.operands, Call.operands])
  have h2 := hs y (by simp [ho, Op.operands, Call.operands])
  rw [hx] at h1; rw [hy] at h2
  have h1 : a.eval x = .slice none 0 0 := h1
  obtain ⟨A, c, rows, s1, s3, s4, s6, s7⟩ := rowo_src hm hM h2
  have hone : ∀ u ∈ rows, u.oneCell' = true := oneCsM_all h1c s4
  have hsz : 0 < ee.size := by simp only [Bool.and_eq_true, Nat.blt_eq] at hok; exact hok.1.1
  have w1 : ownsC w e ee.size 0 (.slice none 0 0) 0 [] := ⟨by simp, .inl ⟨rfl, rfl⟩⟩
  obtain ⟨v', w', r1, r2, r3, r4⟩ := run_append_src (P := P) (m := 1) (c := c) ht hT hok o.type w1 (by rw [s3, Nat.one_mul]) s6 s7 hone (by simpa using hb)
  have hrun : (execOp a.eval o).run P w = .ok (.value v') w' := by
    simp [execOp, ho, resolve, invoke, builtin, h1, s1, r1]
  unfold Oper.wp
  rw [hrun]
  have hbel : Below w.heap.size w w' := ⟨r3.os, r3.tape, r3.output, r3.size, fun k hk => r3.block k hk (by simp [Value.ownBlock])⟩
  rw [List.nil_append, Nat.zero_add] at r2
  obtain ⟨f1, f2⟩ := r2
  rcases f2 with ⟨_, f3⟩ | ⟨g', cap', cur, e1, e2, e3, e4, e5, e6⟩
  · omega
  subst e1
  have hg : w.heap.size ≤ g' := by
    rcases r4 with r4 | r4
    · simp [Value.ownBlock] at r4
    · simp [Value.ownBlock] at r4; omega
  have hcat : cur.toList = [] ++ rows ++ cur.toList.drop (1 * ee.size) := by
    have := List.take_append_drop (1 * ee.size) cur.toList
    rw [e6] at this
    rw [List.nil_append]
    exact this.symm
  obtain ⟨fz, z1, z2⟩ := e2
  obtain ⟨k1, k2⟩ := hm.push (ab := .rowo 0 e ee.size [] 1 cells) (x := some (g', cap')) hbel (fun g c h => by cases h; exact hg)
    (fun hE => ⟨fun d hd => by simp at hd, by rw [← s4.len, s3, Nat.one_mul], g', cap', cur, rfl, ⟨fz, z1, (z2.clear rfl).ok rfl⟩, by simpa using e3, e4, e5, [], rows, _, hcat, rfl, s4.ev hE⟩)
  exact hK _ _ w' k1 k2 ⟨.rowo 0 e ee.size [] 1 cells, by simp, Nat.le_refl _, fun _ => by simp [rowVal]⟩
theorem astep_append_oo (ht : TyTab P tab) {T e : Nat} {ee : TE} {x y : Operand} {i ver mo : Nat} {pre : List D} {cells : List AV} {j ver' e' : Nat} {cells' : List AV} (ho : o.op = .call { callee := .builtin .append, args := #[x, y], argTypes := #[T, T] }) (hT : elemOf_ tab T = some (e, ee))
    (hok : (Nat.blt 0 ee.size && Nat.beq ee.zero.length ee.size && Nat.blt 0 ee.bytes) = true) (hx : ρ x = .row i ver) (hM : M[i]? = some (.rowo ver e ee.size pre mo cells)) (hy : ρ y = .row j ver') (hMj : M[j]? = some (.rowo ver' e' ee.size [] 1 cells')) (h1c : oneCsM M cells' = true) (hb : (pre.length + mo + 1) * ee.bytes ≤ 140737488355328) :
    AStep P o M ρ (M.set i (.rowo (ver + 2) e ee.size pre (mo + 1) (cells ++ cells'))) (.row i (ver + 2)) := by
  intro S B β a w hm hs K Q hK
  have hlt : i < M.length := (List.getElem?_eq_some_iff.1 hM).1
  have h1 := hs x (by simp [ho, Op.operands, Call.operands])
  have h2 := hs y (by simp [ho, Op.operands, Call.operands])
  rw [hx] at h1; rw [hy] at h2
  obtain ⟨ab, v1, v2⟩ := h1
  rw [hM] at v1; cases v1
  have v3 := v2.2 rfl
  obtain ⟨hw, hk, g, cap, cs, q1, q2, q3, q4, q5, c1, c2, c3, q6, q7, q8⟩ := hm.ent i _ hM
  rw [q1] at v3
  obtain ⟨A, c, rows, s1, s3, s4, s6, s7⟩ := rowo_src hm hMj h2
  have hone : ∀ u ∈ rows, u.oneCell' = true := oneCsM_all h1c s4
  have hl1 : c1.length = pre.length * ee.size := by rw [q7.len, widths_allW hw]
  have hl2 : c2.length = mo * ee.size := by rw [q8.len, hk]
  have hl12 : (c1 ++ c2).length = (pre.length + mo) * ee.size := by rw [List.length_append, hl1, hl2, Nat.add_mul]
  have w1 : ownsC w e ee.size 0 (a.eval x) (pre.length + mo) (c1 ++ c2) :=
    ⟨hl12, .inr ⟨g, cap, cs, by rw [v3]; rfl, q2.mono rfl (Nat.zero_le _), q3, q4, q5, by rw [q6, List.take_append_of_le_length (by omega), List.take_of_length_le (by omega)]⟩⟩
  have w3 : (a.eval x).ownBlock = some g := by rw [v3]; rfl
  have hsz : 0 < ee.size := by simp only [Bool.and_eq_true, Nat.blt_eq] at hok; exact hok.1.1
  obtain ⟨v', w', r1, r2, r3, r4⟩ := run_append_src (P := P) (m := 1) (c := c) ht hT hok o.type w1 (by rw [s3, Nat.one_mul]) s6 s7 hone hb
  have hrun : (execOp a.eval o).run P w = .ok (.value v') w' := by
    simp [execOp, ho, resolve, invoke, builtin, s1, r1]
  unfold Oper.wp
  rw [hrun]
  obtain ⟨f1, f2⟩ := r2
  rcases f2 with ⟨_, f3⟩ | ⟨g', cap', cur, e1, e2, e3, e4, e5, e6⟩
  · omega
  subst e1
  have hcat : cur.toList = c1 ++ (c2 ++ rows) ++ cur.toList.drop ((pre.length + mo + 1) * ee.size) := by
    have := List.take_append_drop ((pre.length + mo + 1) * ee.size) cur.toList
    rw [e6] at this
    rw [← List.append_assoc c1]
    exact this.symm
  obtain ⟨fz, z1, z2⟩ := e2
  have := hm.set_ (w' := w') (ab' := .rowo (ver + 2) e ee.size pre (mo + 1) (cells ++ cells')) (x := some (g', cap')) hM rfl r3.os r3.tape r3.output r3.size
    (fun b hb hne => r3.block b hb (fun e' => by
      rw [w3] at e'
      cases e'
      exact hne cap q1))
    (fun g0 c0 h => by
      cases h
      rcases r4 with r4 | r4
      · rw [w3] at r4
        cases r4
        exact .inl ⟨cap, q1⟩
      · cases r4
        exact .inr (Nat.le_refl _))
    ⟨by omega, rfl, fun h => by omega⟩
    (fun hE => ⟨hw, by rw [List.length_append, hk, ← s4.len, s3, Nat.add_mul, Nat.one_mul], g', cap', cur, rfl, ⟨fz, z1, (z2.clear rfl).ok rfl⟩, by omega, e4, e5, c1, c2 ++ rows, _, hcat,
      DenCs.mono (fun _ => immOf.ev hE) (fun _ off => immOf.cell hE off) _ _ q7, (q8.ev hE).append (s4.ev hE)⟩)
  refine hK _ _ w' this.1 this.2 ⟨.rowo (ver + 2) e ee.size pre (mo + 1) (cells ++ cells'), by rw [List.getElem?_set_self hlt], Nat.le_refl _, fun _ => ?_⟩
  rw [setE_same]
  rfl
end
section
variable {P : Program} {ops : Array Oper} {N : Nat} {K : AS → Prop} {o : Oper} {r : List Oper} {fo fo' : Option (List Nat)} {M M' : List AB} {F : List (Nat × AV)} {dt : Tmp} {tab : List (Nat × TE)} {out : AV}
theorem r_build_o (ht : TyTab P tab) {T e : Nat} {ee : TE} {x : Operand} {cells : List AV} (hg : o.guard = none) (ho : o.op = .buildSlice T 1 #[(0, x)]) (hT : elemOf_ tab T = some (e, ee))
    (hok : (Nat.blt 0 ee.size && Nat.beq ee.zero.length ee.size && Nat.ble ee.size 16777216) = true) (hx : cellsOf (aval (look F) x) = cells) (hl : cells.length = ee.size) (h1 : oneCsM M cells = true)
    (hdd : o.dst = some dt) (hd : dstB o.dst N = true) (hp : popF fo 2 = some fo') (k : RunX P ops N K r fo' (M ++ [.rowo 0 e ee.size [] 1 cells]) ((dt, .row M.length 0) :: F)) : RunX P ops N K (o :: r) fo M F :=
  RunX.mk (fun _ k => Run.eff hd (StepG.plain hg (astep_build_o ht ho hT hok hx hl h1)) (by rw [put_eq hdd]; exact k)) hp k
theorem r_append_nilo (ht : TyTab P tab) {T e : Nat} {ee : TE} {x y : Operand} {j ver e' : Nat} {cells : List AV} (hg : o.guard = none) (ho : o.op = .call { callee := .builtin .append, args := #[x, y], argTypes := #[T, T] }) (hT : elemOf_ tab T = some (e, ee))
    (hok : (Nat.blt 0 ee.size && Nat.beq ee.zero.length ee.size && Nat.blt 0 ee.bytes) = true) (hx : aval (look F) x = .val (.slice none 0 0)) (hy : aval (look F) y = .row j ver) (hM : M[j]? = some (.rowo ver e' ee.size [] 1 cells)) (h1c : oneCsM M cells = true) (hb : ee.bytes ≤ 140737488355328)
    (hdd : o.dst = some dt) (hd : dstB o.dst N = true) (hp : popF fo 2 = some fo') (k : RunX P ops N K r fo' (M ++ [.rowo 0 e ee.size [] 1 cells]) ((dt, .row M.length 0) :: F)) : RunX P ops N K (o :: r) fo M F :=
  RunX.mk (fun _ k => Run.eff hd (StepG.plain hg (astep_append_nilo ht ho hT hok hx hy hM h1c hb)) (by rw [put_eq hdd]; exact k)) hp k
theorem r_append_oo (ht : TyTab P tab) {T e : Nat} {ee : TE} {x y : Operand} {i ver mo : Nat} {pre : List D} {cells new : List AV} {j ver' e' : Nat} {cells' : List AV} (hg : o.guard = none) (ho : o.op = .call { callee := .builtin .append, args := #[x, y], argTypes := #[T, T] }) (hT : elemOf_ tab T = some (e, ee))
    (hok : (Nat.blt 0 ee.size && Nat.beq ee.zero.length ee.size && Nat.blt 0 ee.bytes) = true) (hx : aval (look F) x = .row i ver) (hM : M[i]? = some (.rowo ver e ee.size pre mo cells)) (hy : aval (look F) y = .row j ver') (hMj : M[j]? = some (.rowo ver' e' ee.size [] 1 cells')) (h1c : oneCsM M cells' = true) (hb : (pre.length + mo + 1) * ee.bytes ≤ 140737488355328) (hnew : nfs (cells ++ cells') = some new)
    (hdd : o.dst = some dt) (hd : dstB o.dst N = true) (hp : popF fo 2 = some fo') (k : RunX P ops N K r fo' (M.set i (.rowo (ver + 2) e ee.size pre (mo + 1) new)) ((dt, .row i (ver + 2)) :: F)) : RunX P ops N K (o :: r) fo M F :=
  RunX.mk (fun _ k => Run.eff hd (StepG.plain hg (astep_append_oo ht ho hT hok hx hM hy hMj h1c hb)) (by rw [put_eq hdd, nfs_eq hnew]; exact k)) hp k
end
end Go.Proofs.YtiolnmfaeenlmaaGreatDoor
