/- The engine, part 7: operations on memory. -/
import Derived.Test.YtajbbcnfohbieaaEf
namespace Go.Proofs.Ytajbbcnfohbieaa
open Go Go.RowKit

def fieldOf (tab : List (Nat × TE)) (T i : Nat) : Option (Nat × TE) :=
  match tget tab T with
  | some te => match te.kind with
    | .struct fs => match fs[i]? with
      | some (off, ft) => match tget tab ft with
        | some fe => bif Nat.blt 0 fe.size then some (off, fe) else none
        | none => none
      | none => none
    | _ => none
  | none => none
theorem fieldOf_spec {P : Program} {tab : List (Nat × TE)} (ht : TyTab P tab) {T i off : Nat} {fe : TE} (h : fieldOf tab T i = some (off, fe)) :
    ∃ (fields : Array Field) (f : Field), P.underlying T = some (.struct fields) ∧ fields[i]? = some f ∧ f.offset = off ∧ teOf P f.type = some fe ∧ fe.size ≠ 0 := by
  unfold fieldOf at h
  split at h
  · rename_i te hte
    split at h
    · rename_i fs hk
      split at h
      · rename_i o ft hfs
        split at h
        · rename_i fe' hfe
          cases hb : Nat.blt 0 fe'.size with
          | false => rw [hb] at h; cases h
          | true =>
            rw [hb] at h
            cases h
            obtain ⟨d, i', z, hd, hkd, _⟩ := teOf_spec (ht.get hte)
            cases d <;> simp [kindOf, hk] at hkd
            rename_i fields
            subst hkd
            rw [List.getElem?_map] at hfs
            obtain ⟨f, hf, hp⟩ := Option.map_eq_some_iff.1 hfs
            simp only [Prod.mk.injEq] at hp
            refine ⟨fields, f, hd, by simpa using hf, hp.1, by rw [hp.2]; exact ht.get hfe, ?_⟩
            have hb' := hb
            rw [Nat.blt_eq] at hb'
            omega
        · cases h
      · cases h
    · cases h
  · cases h

def shiftP (n : Nat) : AV → Option AV
  | .ptr i o => some (.ptr i (o + n))
  | .eptr i v j o => some (.eptr i v j (o + n))
  | .dptr l => some (.dptr (l.drop n))
  | _ => none
theorem addr_add (g off n : Nat) : (⟨g, off, none⟩ : Addr).add n = ⟨g, off + n, none⟩ := by unfold Addr.add; split <;> simp_all
section
variable {M : List AB} {β : Env} {w : World} {imm : Nat → Prop}
theorem shiftP_sat {n : Nat} {x y : AV} {v : Value} (h : shiftP n x = some y) (hx : AVsat M β w imm x v) : ∃ g off, v = .pointer (some ⟨g, off, none⟩) ∧ AVsat M β w imm y (.pointer (some ⟨g, off + n, none⟩)) ∨ (∃ i ver j o, x = .eptr i ver j o) := by
  cases x with
  | ptr i o =>
    cases h
    obtain ⟨g, c, h1, h2, h3⟩ := hx
    exact ⟨g, o, .inl ⟨h2, g, c, h1, rfl, h3⟩⟩
  | eptr i ver j o => exact ⟨0, 0, .inr ⟨i, ver, j, o, rfl⟩⟩
  | dptr l =>
    cases h
    obtain ⟨g, off, cs, h1, h2, h3, h4⟩ := hx
    refine ⟨g, off, .inl ⟨h1, g, off + n, cs.drop n, rfl, h2, h3.drop_ n, fun j u hj => ?_⟩⟩
    rw [List.getElem?_drop] at hj
    rw [Nat.add_assoc]
    exact h4 _ _ hj
  | _ => cases h
end

section
variable {P : Program} {o : Oper} {M M' : List AB} {ρ : Operand → AV} {out : AV} {tab : List (Nat × TE)}

theorem run_fieldAt (ht : TyTab P tab) {T i off : Nat} {fe : TE} (h : fieldOf tab T i = some (off, fe)) (g o : Nat) (w : World) :
    (Instr.fieldAt T (.pointer (some ⟨g, o, none⟩)) i).run P w = .ok (.pointer (some ⟨g, o + off, none⟩)) w := by
  obtain ⟨fields, f, h1, h2, h3, h4, h5⟩ := fieldOf_spec ht h
  simp [Instr.fieldAt, run_underlying h1, h2, Instr.sureAddr, fieldPlace, run_sizeOf h4, h5, addr_add, h3]
theorem astep_fieldAddr (ht : TyTab P tab) {T i off : Nat} {fe : TE} {x : Operand} (ho : o.op = .fieldAddr T x i) (hf : fieldOf tab T i = some (off, fe)) (hx : shiftP off (ρ x) = some out) (hne : ∀ i ver j o, ρ x ≠ .eptr i ver j o) : AStep P o M ρ M out :=
  .value fun S B β a w _ hs => by
    have h1 := hs x (by simp [ho, Op.operands])
    obtain ⟨g, o', h2 | ⟨i, ver, j, o', h2⟩⟩ := shiftP_sat hx h1
    · exact ⟨_, by simp [execOp, ho, h2.1, run_fieldAt ht hf], h2.2⟩
    · exact absurd h2 (hne _ _ _ _)
/-- A struct's field, out of a value. -/
theorem astep_field (ht : TyTab P tab) {T i off : Nat} {fe : TE} {x : Operand} {l : List AV} (ho : o.op = .field T x i) (hf : fieldOf tab T i = some (off, fe)) (hx : ρ x = .agg l) (hl : loadAV fe (l.drop off) = some out) : AStep P o M ρ M out :=
  .value fun S B β a w _ hs => by
    have h1 := hs x (by simp [ho, Op.operands])
    rw [hx] at h1
    obtain ⟨cs, h2, h3⟩ := h1
    obtain ⟨fields, f, h4, h5, h6, h7, h8⟩ := fieldOf_spec ht hf
    have h9 := h3.drop_ off
    unfold loadAV at hl
    cases hagg : fe.kind.agg with
    | true =>
      rw [hagg] at hl
      simp only [cond_true] at hl
      cases hle : Nat.ble fe.size (l.drop off).length with
      | false => rw [hle] at hl; cases hl
      | true =>
        rw [hle] at hl
        cases hl
        refine ⟨.agg (cs.extract off (off + fe.size)), by simp [execOp, ho, h2, Instr.field, run_underlying h4, h5, part, asAgg, run_isAgg h7, hagg, run_sizeOf h7, h6], _, rfl, ?_⟩
        have := h9.take_ fe.size
        simpa [Array.toList_extract, List.extract_eq_take_drop] using this
    | false =>
      rw [hagg] at hl
      simp only [cond_false] at hl
      obtain ⟨v, h10, h11⟩ := h9.get hl
      rw [List.getElem?_drop] at h10
      have h12 : cs[off]? = some v := by simpa using h10
      exact ⟨v, by simp [execOp, ho, h2, Instr.field, run_underlying h4, h5, part, asAgg, run_isAgg h7, hagg, h6, h12], h11⟩

theorem astep_load (ht : TyTab P tab) {T i off e : Nat} {te : TE} {x : Operand} {cells : List AV} (ho : o.op = .load T x) (hT : tget tab T = some te) (hx : ρ x = .ptr i off) (hM : M[i]? = some (.box e cells))
    (hl : loadAV te (cells.drop off) = some out) : AStep P o M ρ M out :=
  .value fun S B β a w hm hs => by
    have h1 := hs x (by simp [ho, Op.operands])
    rw [hx] at h1
    obtain ⟨g, c, h2, h3, _⟩ := h1
    obtain ⟨g', c', cs, h4, h5, h6⟩ := box_cells hm hM
    rw [h2] at h4; cases h4
    obtain ⟨v, h7, h8⟩ := run_loadVar (ht.get hT) (h6.drop_ off) (fun j u hj => cell_at h5 off j u hj) hl
    exact ⟨v, by simp [execOp, ho, h3, Instr.loadAt, Instr.sureAddr, h7], h8⟩
/-- Out of memory that is data: no own memory is looked at. -/
theorem astep_load_d (ht : TyTab P tab) {T : Nat} {te : TE} {x : Operand} {l : List AV} (ho : o.op = .load T x) (hT : tget tab T = some te) (hx : ρ x = .dptr l) (hl : loadAV te l = some out) : AStep P o M ρ M out :=
  .value fun S B β a w _ hs => by
    have h1 := hs x (by simp [ho, Op.operands])
    rw [hx] at h1
    obtain ⟨g, off, cs, h2, _, h3, h4⟩ := h1
    obtain ⟨v, h7, h8⟩ := run_loadVar (ht.get hT) h3 h4 hl
    exact ⟨v, by simp [execOp, ho, h2, Instr.loadAt, Instr.sureAddr, h7], h8⟩

/-- The cells of a value that is put into memory. -/
def cellsOf : AV → List AV
  | .agg l => l
  | x => [x]
def AV.oneC : AV → Bool
  | .val v => v.oneCell'
  | .sl _ _ => true
  | .ptr _ _ => true
  | .cl _ _ => true
  | .dptr _ => true
  | _ => false
theorem oneC_sat {β : Env} {w : World} {imm : Nat → Prop} {x : AV} {v : Value} (h : x.oneC = true) (hx : AVsat M β w imm x v) : v.oneCell' = true := by
  cases x with
  | val u => cases hx; exact h
  | sl k es => obtain ⟨A, n, c, h1, _⟩ := hx; simp at h1; rw [h1]; rfl
  | ptr i off => obtain ⟨g, c, _, h2, _⟩ := hx; rw [h2]; rfl
  | cl f caps => obtain ⟨cs, h1, _⟩ := hx; rw [h1]; rfl
  | dptr l => obtain ⟨g, off, cs, h1, _⟩ := hx; rw [h1]; rfl
  | _ => cases h
def oneCs (l : List AV) : Bool := l.all AV.oneC
/-- Is a word on a row the last word? -/
def freshRow (M : List AB) (i ver : Nat) : Bool := match M[i]? with
  | some (.row ver' _ _ _) => Nat.beq ver' ver
  | _ => false
def oneCM (M : List AB) : AV → Bool
  | .row i ver => freshRow M i ver
  | x => x.oneC
def oneCsM (M : List AB) (l : List AV) : Bool := l.all (oneCM M)
theorem oneCM_sat {M : List AB} {β : Env} {w : World} {imm : Nat → Prop} {x : AV} {v : Value} (h : oneCM M x = true) (hx : AVsat M β w imm x v) : v.oneCell' = true := by
  cases x with
  | row i ver =>
    obtain ⟨ab, h1, h2⟩ := hx
    simp only [oneCM, freshRow, h1] at h
    cases ab with
    | row ver' e k es =>
      have := h2.2 (Nat.eq_of_beq_eq_true h)
      rw [this]
      cases β i <;> rfl
    | gone => cases h
    | box _ _ => cases h
    | iter _ _ => cases h
    | rowo _ _ _ _ _ => cases h
  | val u => exact oneC_sat (x := .val u) h hx
  | sl k es => exact oneC_sat (x := .sl k es) h hx
  | ptr i off => exact oneC_sat (x := .ptr i off) h hx
  | cl f caps => exact oneC_sat (x := .cl f caps) h hx
  | dptr l => exact oneC_sat (x := .dptr l) h hx
  | _ => cases h
theorem cellsOf_satM {M : List AB} {β : Env} {w : World} {imm : Nat → Prop} {x : AV} {v : Value} (h : oneCsM M (cellsOf x) = true) (hx : AVsat M β w imm x v) : AVsats M β w imm (cellsOf x) v.cells.toList ∧ ∀ u ∈ v.cells.toList, u.oneCell' = true := by
  have one : ∀ (x : AV) (v : Value), oneCM M x = true → AVsat M β w imm x v → AVsats M β w imm [x] v.cells.toList ∧ ∀ u ∈ v.cells.toList, u.oneCell' = true := by
    intro x v h1 h2
    have h3 := oneCM_sat h1 h2
    have h4 : v.cells = #[v] := by cases v <;> first | rfl | cases h3
    rw [h4]
    exact ⟨⟨v, [], rfl, h2, rfl⟩, fun u hu => by simp at hu; subst hu; exact h3⟩
  have many : ∀ (l : List AV) (vs : List Value), l.all (oneCM M) = true → AVsats M β w imm l vs → ∀ u ∈ vs, u.oneCell' = true := by
    intro l
    induction l with
    | nil => intro vs _ h u hu; rw [h] at hu; cases hu
    | cons a as ih =>
      rintro vs h1 ⟨v, r, rfl, h2, h3⟩ u hu
      rw [List.all_cons, Bool.and_eq_true] at h1
      rcases List.mem_cons.1 hu with h4 | h4
      · subst h4; exact oneCM_sat h1.1 h2
      · exact ih r h1.2 h3 u h4
  have other : (∀ l, x ≠ .agg l) → AVsats M β w imm (cellsOf x) v.cells.toList ∧ ∀ u ∈ v.cells.toList, u.oneCell' = true := by
    intro hne
    have e : cellsOf x = [x] := by cases x <;> first | rfl | exact absurd rfl (hne _)
    rw [e] at h ⊢
    simp only [oneCsM, List.all_cons, List.all_nil, Bool.and_true] at h
    exact one x v h hx
  cases x with
  | agg l =>
    obtain ⟨cs, h1, h2⟩ := hx
    subst h1
    exact ⟨h2, many l _ h h2⟩
  | _ => exact other (by intro l; simp)
theorem cellsOf_sat {β : Env} {w : World} {imm : Nat → Prop} {x : AV} {v : Value} (h : oneCs (cellsOf x) = true) (hx : AVsat M β w imm x v) : AVsats M β w imm (cellsOf x) v.cells.toList ∧ ∀ u ∈ v.cells.toList, u.oneCell' = true := by
  have one : ∀ (x : AV) (v : Value), x.oneC = true → AVsat M β w imm x v → AVsats M β w imm [x] v.cells.toList ∧ ∀ u ∈ v.cells.toList, u.oneCell' = true := by
    intro x v h1 h2
    have h3 := oneC_sat h1 h2
    have h4 : v.cells = #[v] := by cases v <;> first | rfl | cases h3
    rw [h4]
    exact ⟨⟨v, [], rfl, h2, rfl⟩, fun u hu => by simp at hu; subst hu; exact h3⟩
  have many : ∀ (l : List AV) (vs : List Value), l.all AV.oneC = true → AVsats M β w imm l vs → ∀ u ∈ vs, u.oneCell' = true := by
    intro l
    induction l with
    | nil => intro vs _ h u hu; rw [h] at hu; cases hu
    | cons a as ih =>
      rintro vs h1 ⟨v, r, rfl, h2, h3⟩ u hu
      rw [List.all_cons, Bool.and_eq_true] at h1
      rcases List.mem_cons.1 hu with h4 | h4
      · subst h4; exact oneC_sat h1.1 h2
      · exact ih r h1.2 h3 u h4
  cases x with
  | agg l =>
    obtain ⟨cs, h1, h2⟩ := hx
    subst h1
    exact ⟨h2, many l _ h h2⟩
  | any => simp [cellsOf, oneCs, AV.oneC] at h
  | row _ _ => simp [cellsOf, oneCs, AV.oneC] at h
  | eptr _ _ _ _ => simp [cellsOf, oneCs, AV.oneC] at h
  | tup _ => simp [cellsOf, oneCs, AV.oneC] at h
  | ub _ _ => simp [cellsOf, oneCs, AV.oneC] at h
  | alt _ _ => simp [cellsOf, oneCs, AV.oneC] at h
  | pr _ => simp [cellsOf, oneCs, AV.oneC] at h
  | vw _ _ _ => simp [cellsOf, oneCs, AV.oneC] at h
  | cnd _ _ => simp [cellsOf, oneCs, AV.oneC] at h
  | val u => exact one _ _ (by simpa [cellsOf, oneCs] using h) hx
  | sl k es => exact one _ _ rfl hx
  | ptr i off => exact one _ _ rfl hx
  | cl f caps => exact one _ _ rfl hx
  | dptr l => exact one _ _ rfl hx

/-- An operation that makes one new own block. -/
theorem AStep.newBox {e : TypeId} {cells : List AV} (h : ∀ (S : Nat → Prop) (B : Nat) (β : Env) (a : Act) (w : World), MemSat S B M β w → (∀ x ∈ o.op.operands, AVsat M β w (immOf S B M β w) (ρ x) (a.eval x)) →
    ∃ cs, (execOp a.eval o).run P w = .ok (.value (.pointer (some ⟨w.heap.size, 0, none⟩))) (w.alloc (.cells cs e)) ∧ AVsats M β w (immOf S B M β w) cells cs.toList) : AStep P o M ρ (M ++ [.box e cells]) (.ptr M.length 0) := by
  intro S B β a w hm hs K Q hK
  obtain ⟨cs, h1, h2⟩ := h S B β a w hm hs
  unfold Oper.wp
  rw [h1]
  have hb : Below w.heap.size w (w.alloc (.cells cs e)) := (Below.refl _ _).alloc (Nat.le_refl _) _
  obtain ⟨e1, e2⟩ := hm.push (ab := .box e cells) (x := some (w.heap.size, 0)) hb (fun g c h => by cases h; exact Nat.le_refl _)
    (fun hE => ⟨w.heap.size, 0, cs, rfl, heap_alloc_new w _, h2.ev hE⟩)
  exact hK _ _ _ e1 e2 ⟨w.heap.size, 0, by simp, rfl, .box e cells, by simp, rfl⟩
theorem astep_box {T : Nat} {x : Operand} (ho : o.op = .box T x) (hx : oneCsM M (cellsOf (ρ x)) = true) : AStep P o M ρ (M ++ [.box T (cellsOf (ρ x))]) (.ptr M.length 0) :=
  .newBox fun S B β a w _ hs => by
    have h1 := hs x (by simp [ho, Op.operands])
    refine ⟨(a.eval x).cells, ?_, (cellsOf_satM hx h1).1⟩
    simp [execOp, ho, Instr.box, newVar, newRow]
theorem astep_alloc (ht : TyTab P tab) {T : Nat} {te : TE} (ho : o.op = .alloc T) (hT : tget tab T = some te) : AStep P o M ρ (M ++ [.box T (te.zero.map .val)]) (.ptr M.length 0) :=
  .newBox fun S B β a w _ _ => by
    obtain ⟨z, h1, h2⟩ := run_zeroCells (P := P) (w := w) (ht.get hT)
    refine ⟨z.cells, by simp [execOp, ho, Instr.alloc, newVar, newRow, h1], ?_⟩
    rw [h2]
    have : ∀ (l : List Value), AVsats M β w (immOf S B M β w) (l.map .val) l := by
      intro l
      induction l with
      | nil => rfl
      | cons a as ih => exact ⟨a, as, rfl, rfl, ih⟩
    exact this _

/-- Cells written over cells, from a place on. -/
def putCells (cells : List AV) (off : Nat) (new : List AV) : List AV := cells.take off ++ new ++ cells.drop (off + new.length)
theorem run_storeVar (ht : TyTab P tab) {T : Nat} {te : TE} (hT : tget tab T = some te) {w : World} {g off : Nat} {cs : Array Value} {e : TypeId} {v : Value} (hg : w.heap[g]? = some (.cells cs e (0, 0)))
    (hsz : v.cells.size = te.size) (h1 : ∀ u ∈ v.cells.toList, u.oneCell' = true) (hfit : off + te.size ≤ cs.size) :
    (storeVar T ⟨g, off, none⟩ v).run P w = .ok () (w.setRow g (cs.toList.take off ++ v.cells.toList ++ cs.toList.drop (off + v.cells.toList.length)).toArray) := by
  have h := run_storeCells_at P g off e v.cells.toList 0 cs w hg (by simp; omega) h1
  simp only [Nat.add_zero] at h
  simp [storeVar, run_sizeOf (ht.get hT), hsz, h]
theorem putCells_sat {β : Env} {w : World} {imm : Nat → Prop} {cells new : List AV} {cs ns : List Value} {off : Nat} (h : AVsats M β w imm cells cs) (hn : AVsats M β w imm new ns) :
    AVsats M β w imm (putCells cells off new) (cs.take off ++ ns ++ cs.drop (off + ns.length)) := by
  unfold putCells
  rw [hn.len]
  exact ((h.take_ off).append hn).append (h.drop_ _)

theorem astep_store (ht : TyTab P tab) {T i off e : Nat} {te : TE} {x y : Operand} {cells : List AV} (ho : o.op = .store T x y) (hT : tget tab T = some te) (hx : ρ x = .ptr i off) (hM : M[i]? = some (.box e cells))
    (hy : oneCsM M (cellsOf (ρ y)) = true) (hsz : (cellsOf (ρ y)).length = te.size) (hfit : Nat.ble (off + te.size) cells.length = true) : AStep P o M ρ (M.set i (.box e (putCells cells off (cellsOf (ρ y))))) (.val undef) := by
  intro S B β a w hm hs K Q hK
  have h1 := hs x (by simp [ho, Op.operands])
  have h2 := hs y (by simp [ho, Op.operands])
  rw [hx] at h1
  obtain ⟨g, c, h3, h4, _⟩ := h1
  obtain ⟨g', c', cs, h5, h6, h7⟩ := box_cells hm hM
  rw [h3] at h5; cases h5
  obtain ⟨h8, h9⟩ := cellsOf_satM hy h2
  have hl8 := h8.len
  have hl7 := h7.len
  have hfit' := Nat.le_of_ble_eq_true hfit
  have hr := run_storeVar ht hT h6 (v := a.eval y) (off := off) (by simp at hl8; omega) h9 (by simp at hl7; omega)
  unfold Oper.wp
  have hrun : (execOp a.eval o).run P w = .ok .skip (w.setRow g (cs.toList.take off ++ (a.eval y).cells.toList ++ cs.toList.drop (off + (a.eval y).cells.toList.length)).toArray) := by
    simp only [execOp, ho, h4, Instr.storeAt, Instr.sureAddr]
    simp only [Sem.run_bind, Sem.run_pure, Result.andThen_ok, hr]
  rw [hrun]
  have hs : setE β i (some (g, c)) = β := by funext j; by_cases hj : j = i <;> simp [setE, hj, h3]
  have := hm.set_ (w' := w.setRow g (cs.toList.take off ++ (a.eval y).cells.toList ++ cs.toList.drop (off + (a.eval y).cells.toList.length)).toArray)
    (ab' := .box e (putCells cells off (cellsOf (ρ y)))) (x := some (g, c)) hM rfl rfl rfl rfl (by simp)
    (fun b _ hne => setRow_other w g b _ (fun e => hne c (by rw [h3, e]))) (fun g' c' h => by cases h; exact .inl ⟨c, h3⟩) ⟨rfl, h3.symm⟩
    (fun hE => ⟨g, c, _, rfl, setRow_heap w g cs _ e _ h6, by
      have := putCells_sat (off := off) (h7.ev hE) (h8.ev hE)
      simpa using this⟩)
  rw [hs] at this
  exact hK _ _ _ this.1 this.2 rfl
end

end Go.Proofs.Ytajbbcnfohbieaa
