/- The engine: a range over slices.Backward that takes the value alone. -/
import Derived.Test.YtgkcliecgmhmfaaG2
import Derived.Test.YtgkcliecgmhmfaaG3
namespace Go.Proofs.Ytgkcliecgmhmfaa
open Go Go.RowKit

section
variable {P : Program} {ops : Array Oper} {N : Nat} {K : AS → Prop} {o : Oper} {r : List Oper} {fo fo' : Option (List Nat)} {M M' : List AB} {F : List (Nat × AV)} {dt : Tmp} {tab : List (Nat × TE)} {out : AV}
/-- A row's word stored in a box: its number may be any. -/
theorem r_st_row (ht : TyTab P tab) {T i off e iy ver ey k' : Nat} {te : TE} {x y : Operand} {cells l : List AV} {es : List D} (hg : o.guard = none) (ho : o.op = .store T x y) (hx : aval (look F) x = .ptr i off) (hM : M[i]? = some (.box e cells)) (hT : tget tab T = some te) (hsz : te.size = 1) (hoff : Nat.ble (off + 1) cells.length = true)
    (hy : aval (look F) y = .row iy ver) (hMy : M[iy]? = some (.row ver ey k' es)) (hl : nfs (putCells cells off [.row iy ver]) = some l) (hdd : o.dst = none) (hp : popF fo 2 = some fo') (k : RunX P ops N K r fo' (M.set i (.box e l)) F) : RunX P ops N K (o :: r) fo M F := by
  refine r_st ht (out := .val undef) hg ?_ hdd hp k
  have e1 : oneCsM M (cellsOf (aval (look F) y)) = true := by
    rw [hy]
    simp [cellsOf, oneCsM, oneCM, freshRow, hMy]
  have e2 : cellsOf (aval (look F) y) = [.row iy ver] := by rw [hy]; rfl
  rw [ho]
  rw [e2] at e1
  simp only [wrM, hx, hM, hT, e2]
  rw [hsz, hoff, hl, e1]
  rfl
end
theorem okFz.freeze {v m n : Nat} {fz : Nat × Nat} (h : okFz v m fz n) (hv : sealed v = true) : okFz v m (if fz.1 == fz.2 then (0, 0 + m) else (min fz.1 0, max fz.2 (0 + m))) n := by
  unfold okFz at h ⊢
  rw [hv] at h ⊢
  have h : fz.2 ≤ m := h
  show (if fz.1 == fz.2 then (0, 0 + m) else (min fz.1 0, max fz.2 (0 + m))).2 ≤ m
  split
  · simp
  · simp; omega
/-- unsafe.String of a row of odd number: the row stays, its elements frozen. -/
theorem astep_ustrk {P : Program} {o : Oper} {M : List AB} {ρ : Operand → AV} {T U i ver e : Nat} {x y : Operand} {l : List UInt8} (ht : P.underlying T = some (.pointer e)) (hce : P.cellsOf e = 1) (ho : o.op = .call { callee := .builtin .unsafeString, args := #[x, y], argTypes := #[T, U] }) (hx : ρ x = .eptr i ver 0 0) (hy : ρ y = .val (.int .i64 (l.map bD).length))
    (hM : M[i]? = some (.row ver e 1 (l.map bD))) (hne : l ≠ []) (hv : sealed ver = true) : AStep P o M ρ M (.val (.string ⟨l.toArray⟩)) := by
  intro S B β a w hm hs K Q hK
  have h1 := hs x (by simp [ho, Op.operands, Call.operands])
  have h2 := hs y (by simp [ho, Op.operands, Call.operands])
  rw [hx] at h1; rw [hy] at h2
  rw [List.length_map] at h2
  have h2 : a.eval y = .int .i64 l.length := h2
  obtain ⟨ab, k1, k2⟩ := h1
  rw [hM] at k1; cases k1
  obtain ⟨g, c, hb, k3⟩ := k2.2 rfl
  obtain ⟨hw, ⟨h7, _⟩ | ⟨g', c', cs, h7, h8, h9, h10, h11, h12⟩⟩ := hm.ent i _ hM
  · rw [hb] at h7; cases h7
  rw [hb] at h7; cases h7
  have hrows := DenCs_bytes_eq h12
  have h8' := h8
  obtain ⟨fz, g1, g2⟩ := h8'
  have h9' := h9
  rw [List.length_map] at h9
  have hr := Lib.run_unsafeString_row (P := P) w T U o.type e ht hce g cs.size (by simp [World.shape?, g1]) l hne (by omega) (by simp only [maxLen] at h10; omega) (fun j x hj => by
    rw [addr_add, Nat.zero_add, h8.cell]
    have h13 : (cs.toList.take ((l.map bD).length * 1))[j]? = some (.int .u8 x.toNat) := by rw [hrows]; simp [hj]
    rw [List.getElem?_take] at h13
    split at h13
    · simpa using h13
    · cases h13)
  have hrun : (execOp a.eval o).run P w = .ok (.value (.string ⟨l.toArray⟩)) (w.freeze ⟨g, 0, none⟩ l.length) := by
    simp [execOp, ho, h2, k3, resolve, invoke, builtin, hr]
  unfold Oper.wp
  rw [hrun]
  have hl0 : ¬ l.length = 0 := fun h => hne (List.eq_nil_of_length_eq_zero h)
  have hsz : (w.freeze ⟨g, 0, none⟩ l.length).heap.size = w.heap.size ∧ (∀ b, b ≠ g → (w.freeze ⟨g, 0, none⟩ l.length).heap[b]? = w.heap[b]?) ∧ (w.freeze ⟨g, 0, none⟩ l.length).os = w.os ∧ (w.freeze ⟨g, 0, none⟩ l.length).tape = w.tape ∧ (w.freeze ⟨g, 0, none⟩ l.length).output = w.output := by
    unfold World.freeze
    rw [if_neg hl0]
    refine ⟨by simp, fun b hne => ?_, rfl, rfl, rfl⟩
    simp only [Array.getElem?_modify]
    rw [if_neg (fun e => hne e.symm)]
  have hheap : (w.freeze ⟨g, 0, none⟩ l.length).heap[g]? = some (.cells cs e (if fz.1 == fz.2 then (0, 0 + l.length) else (min fz.1 0, max fz.2 (0 + l.length)))) := by
    unfold World.freeze
    rw [if_neg hl0]
    simp only [Array.getElem?_modify, g1]
    simp
  have hs' : setE β i (some (g, c)) = β := by funext j; by_cases hj : j = i <;> simp [setE, hj, hb]
  have hMs : M.set i (.row ver e 1 (l.map bD)) = M := by
    obtain ⟨hlt, hget⟩ := List.getElem?_eq_some_iff.1 hM
    rw [← hget]
    exact List.set_getElem_self hlt
  have := hm.set_ (w' := w.freeze ⟨g, 0, none⟩ l.length) (ab' := .row ver e 1 (l.map bD)) (x := some (g, c)) hM rfl hsz.2.2.1 hsz.2.2.2.1 hsz.2.2.2.2 (by rw [hsz.1]; exact Nat.le_refl _)
    (fun b _ hne => hsz.2.1 b (fun e => hne c (by rw [hb, e]))) (fun g' c' h => by cases h; exact .inl ⟨c, hb⟩) ⟨Nat.le_refl _, rfl, fun _ => ⟨hb.symm, rfl⟩⟩
    (fun hE => ⟨hw, .inr ⟨g, c, cs, rfl, ⟨_, hheap, by have := g2.freeze hv; simpa using this⟩, h9', h10, h11, DenCs.mono (fun _ => immOf.ev hE) (fun _ off => immOf.cell hE off) _ _ h12⟩⟩)
  rw [hs', hMs] at this
  exact hK _ _ _ this.1 this.2 rfl
section
variable {P : Program} {ops : Array Oper} {N : Nat} {K : AS → Prop} {o : Oper} {r : List Oper} {fo fo' : Option (List Nat)} {M M' : List AB} {F : List (Nat × AV)} {dt : Tmp} {tab : List (Nat × TE)} {out : AV}
theorem r_ustrk {T U i ver e : Nat} {x y : Operand} {l : List UInt8} (hne : l ≠ []) (ht : P.underlying T = some (.pointer e)) (hce : P.cellsOf e = 1) (hg : o.guard = none) (ho : o.op = .call { callee := .builtin .unsafeString, args := #[x, y], argTypes := #[T, U] }) (hx : aval (look F) x = .eptr i ver 0 0) (hy : aval (look F) y = .val (.int .i64 (l.map bD).length))
    (hM : M[i]? = some (.row ver e 1 (l.map bD))) (hdd : o.dst = some dt) (hd : dstB o.dst N = true) (hp : popF fo 2 = some fo') (hv : sealed ver = true) (k : RunX P ops N K r fo' M ((dt, .val (.string ⟨l.toArray⟩)) :: F)) : RunX P ops N K (o :: r) fo M F :=
  RunX.mk (fun _ k => Run.eff hd (StepG.plain hg (astep_ustrk ht hce ho hx hy hM hne hv)) (by rw [put_eq hdd]; exact k)) hp k
end
theorem assign1_wp {P : Program} {l id : Nat} {d q : Tmp} {ty : TypeId} {pos : String} {af : Array _} {K : Act → World → Prop} {a : Act} {W : World} (h : K (a.put (some d) (a.eval (.tmp q))) W) :
    (Code.region id #[{ dst := some d, op := .assign (.tmp q), type := ty, pos := pos, after := af, guard := none }] false).wpIn (Fen (some l)) 0 P (Exit.then K fun _ _ _ => False) a W := by
  refine wpIn_region_lit ?_
  have hw : ∀ y, Region.wanted { dst := some d, op := .assign (.tmp q), type := ty, pos := pos, after := af, guard := none } y = true := fun y => rfl
  unfold wpListIn
  rw [if_pos (hw _)]
  refine ⟨?_, ?_⟩
  · intro f hf
    simp [Oper.about, Target.leads] at hf
  · simp only [Oper.semAt]
    exact h
theorem act_val {N p q d : Nat} {v1 v2 : Value} {a : Act} {F : List (Nat × AV)} (hb : (Nat.blt p N && Nat.blt q N && Nat.blt d N) = true) (hp : look F p = .any) (hq : look F q = .any) (h1 : a.tmps.size = N) :
    (({ tmps := (a.tmps.setIfInBounds p v1).setIfInBounds q v2, defers := [] } : Act).put (some d) (({ tmps := (a.tmps.setIfInBounds p v1).setIfInBounds q v2, defers := [] } : Act).eval (.tmp q))).tmps.size = N ∧
    (({ tmps := (a.tmps.setIfInBounds p v1).setIfInBounds q v2, defers := [] } : Act).put (some d) (({ tmps := (a.tmps.setIfInBounds p v1).setIfInBounds q v2, defers := [] } : Act).eval (.tmp q))).defers = [] ∧
    ∀ (M : List AB) (β : Env) (w : World) (imm : Nat → Prop), (∀ t, AVsat M β w imm (look F t) (a.tmps.getD t undef)) → ∀ t, AVsat M β w imm (look ((d, .val v2) :: F) t) ((({ tmps := (a.tmps.setIfInBounds p v1).setIfInBounds q v2, defers := [] } : Act).put (some d) (({ tmps := (a.tmps.setIfInBounds p v1).setIfInBounds q v2, defers := [] } : Act).eval (.tmp q))).tmps.getD t undef) := by
  simp only [Bool.and_eq_true, Nat.blt_eq] at hb
  obtain ⟨⟨hb1, hb2⟩, hb3⟩ := hb
  have he : ({ tmps := (a.tmps.setIfInBounds p v1).setIfInBounds q v2, defers := [] } : Act).eval (.tmp q) = v2 := by
    simp [Act.eval, h1, hb2]
  rw [he]
  refine ⟨by simp [Act.put, h1], rfl, fun M β w imm hs t => ?_⟩
  simp only [Act.put]
  cases hc : Nat.beq d t with
  | true =>
    have := Nat.eq_of_beq_eq_true hc
    subst this
    simp only [look, hc, cond_true]
    simp [AVsat, h1, hb3]
  | false =>
    have hne : d ≠ t := Nat.ne_of_beq_eq_false hc
    simp only [look, hc, cond_false]
    by_cases e1 : t = q
    · subst e1; rw [hq]; trivial
    · by_cases e2 : t = p
      · subst e2; rw [hp]; trivial
      · have := hs t
        simp only [Array.getD_eq_getD_getElem?, Array.getElem?_setIfInBounds] at this ⊢
        rw [if_neg hne, if_neg (Ne.symm e1), if_neg (Ne.symm e2)]
        exact this
theorem a_back1 {P : Program} {N : Nat} {S : Nat → Prop} {w0 : World} {M0 M : List AB} {β0 : Env} {F : List (Nat × AV)} {Q : Exit → AS → Prop} {f : FuncId} {k n : Nat} {es : List D} {val : Fin n → Value} (hseq : BackSeq P f k es n val) (hcall : Callable P f)
    {g : Operand} {p q d : Tmp} {id : Nat} {ty : TypeId} {pos : String} {af : Array _} {body : Code} (hg : aval (look F) g = .cl f [.dptr [.sl k es]]) (hb : (Nat.blt p N && Nat.blt q N && Nat.blt d N) = true) (hp : look F p = .any) (hq : look F q = .any)
    (Mf Mx : List (Fin n) → List AB) (Good GoodX : List (Fin n) → Prop) (hM : Mf [] = M) (hn : ∀ pre, NoIter (Mf pre)) (hnx : ∀ pre, NoIter (Mx pre)) (h0 : Good [])
    (hbody : ∀ (l : Nat) (S : Nat → Prop) (w1 : World) (β1 : Env) (pre : List (Fin n)) (x : Fin n), Good pre → pre.length < n → AWp ⟨P, N, S, w1, Mf pre, β1, some l⟩ body ⟨Mf pre, (d, .val (val x)) :: F⟩
      (fun e s' => (e = .normal ∧ Good (pre ++ [x]) ∧ ∃ F', Fits ⟨P, N, S, w1, Mf pre, β1, some l⟩ s' ⟨Mf (pre ++ [x]), F'⟩) ∨ (e = .ret ∧ GoodX (pre ++ [x]) ∧ ∃ F', Fits ⟨P, N, S, w1, Mf pre, β1, some l⟩ s' ⟨Mx (pre ++ [x]), F'⟩)))
    (hdone : Good (revs n) → Q .normal ⟨Mf (revs n), F⟩) (hstop : ∀ k, k ≤ n → GoodX ((revs n).take k) → Q .ret ⟨Mx ((revs n).take k), F⟩) :
    AWp ⟨P, N, S, w0, M0, β0, none⟩ (.rangeFunc g #[p, q] (.region id #[{ dst := some d, op := .assign (.tmp q), type := ty, pos := pos, after := af, guard := none }] false) body) ⟨M, F⟩ Q := by
  refine a_back (dd := 0) hseq hcall hg ?_ (fun x => (d, .val (val x)) :: F) (fun a x => ({ tmps := (a.tmps.setIfInBounds p (.int .i64 (x.1 : Int))).setIfInBounds q (val x), defers := [] } : Act).put (some d) (({ tmps := (a.tmps.setIfInBounds p (.int .i64 (x.1 : Int))).setIfInBounds q (val x), defers := [] } : Act).eval (.tmp q)))
    (fun l a x W K hK => assign1_wp hK) (fun a x h => act_val hb hp hq h) Mf Mx Good GoodX hM hn hnx h0 hbody hdone hstop
  rw [Bool.and_eq_true] at hb
  exact hb.1
end Go.Proofs.Ytgkcliecgmhmfaa
