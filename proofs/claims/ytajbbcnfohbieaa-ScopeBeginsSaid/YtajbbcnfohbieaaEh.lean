/- The engine, part 8: slices, strings, calls. -/
import Derived.Test.YtajbbcnfohbieaaEg
namespace Go.Proofs.Ytajbbcnfohbieaa
open Go Go.RowKit

/-- The element type of a slice type, and its size and bytes. -/
def elemOf_ (tab : List (Nat × TE)) (T : Nat) : Option (Nat × TE) :=
  match tget tab T with
  | some te => match te.kind with
    | .slice e => match tget tab e with
      | some ee => some (e, ee)
      | none => none
    | _ => none
  | none => none
theorem elemOf_spec {P : Program} {tab : List (Nat × TE)} (ht : TyTab P tab) {T e : Nat} {ee : TE} (h : elemOf_ tab T = some (e, ee)) : P.underlying T = some (.slice e) ∧ teOf P e = some ee := by
  unfold elemOf_ at h
  split at h
  · rename_i te hte
    split at h
    · rename_i e' hk
      split at h
      · rename_i ee' hee
        cases h
        obtain ⟨d, i', z, hd, hkd, _⟩ := teOf_spec (ht.get hte)
        cases d <;> simp [kindOf, hk] at hkd
        subst hkd
        exact ⟨hd, ht.get hee⟩
      · cases h
    · cases h
  · cases h
def kindAt (tab : List (Nat × TE)) (T : Nat) : Option TK := (tget tab T).map (·.kind)
theorem kindAt_spec {P : Program} {tab : List (Nat × TE)} (ht : TyTab P tab) {T : Nat} {k : TK} (h : kindAt tab T = some k) : ∃ d, P.underlying T = some d ∧ kindOf d = k := by
  unfold kindAt at h
  obtain ⟨te, h1, h2⟩ := Option.map_eq_some_iff.1 h
  obtain ⟨d, i, z, h3, h4, _⟩ := teOf_spec (ht.get h1)
  exact ⟨d, h3, h4.trans h2⟩
theorem kindAt_str {P : Program} {tab : List (Nat × TE)} (ht : TyTab P tab) {T : Nat} (h : kindAt tab T = some .str) : P.underlying T = some .string := by
  obtain ⟨d, h1, h2⟩ := kindAt_spec ht h
  cases d <;> simp [kindOf] at h2
  exact h1
theorem kindAt_int {P : Program} {tab : List (Nat × TE)} (ht : TyTab P tab) {T : Nat} {k : IntKind} (h : kindAt tab T = some (.int k)) : P.underlying T = some (.int k) := by
  obtain ⟨d, h1, h2⟩ := kindAt_spec ht h
  cases d <;> simp [kindOf] at h2
  subst h2; exact h1
theorem kindAt_bool {P : Program} {tab : List (Nat × TE)} (ht : TyTab P tab) {T : Nat} (h : kindAt tab T = some .bool) : P.underlying T = some .bool := by
  obtain ⟨d, h1, h2⟩ := kindAt_spec ht h
  cases d <;> simp [kindOf] at h2
  exact h1
theorem kindAt_arr {P : Program} {tab : List (Nat × TE)} (ht : TyTab P tab) {T n e : Nat} (h : kindAt tab T = some (.array n e)) : P.underlying T = some (.array n e) := by
  obtain ⟨d, h1, h2⟩ := kindAt_spec ht h
  cases d <;> simp [kindOf] at h2
  obtain ⟨rfl, rfl⟩ := h2; exact h1
theorem P_elem {P : Program} {T e : Nat} (h : P.underlying T = some (.slice e)) : P.elem T = e := by simp [Program.elem, h]

section
variable {P : Program} {o : Oper} {M M' : List AB} {ρ : Operand → AV} {out : AV} {tab : List (Nat × TE)}

/-- len -/
theorem astep_len_s (ht : TyTab P tab) {T : Nat} {x : Operand} {s : ByteArray} (ho : o.op = .call { callee := .builtin .len, args := #[x], argTypes := #[T] }) (hT : kindAt tab T = some .str) (hx : ρ x = .val (.string s)) :
    AStep P o M ρ M (.val (.int .i64 s.size)) :=
  .value fun S B β a w _ hs => by
    have h1 := hs x (by simp [ho, Op.operands, Call.operands])
    rw [hx] at h1
    have h1 : a.eval x = .string s := h1
    exact ⟨_, by simp [execOp, ho, h1, resolve, invoke, builtin, Builtin.len_, run_underlying (kindAt_str ht hT), goInt], rfl⟩
theorem run_len_sl {T e : Nat} (hu : P.underlying T = some (.slice e)) (ty : TypeId) (A : Option Addr) (n c : Nat) (w : World) : (Builtin.len_ #[T] ty #[.slice A n c]).run P w = .ok (.int .i64 n) w := by
  simp [Builtin.len_, run_underlying hu, goInt]
theorem astep_len (ht : TyTab P tab) {T e : Nat} {ee : TE} {x : Operand} {k : Nat} {es : List D} (ho : o.op = .call { callee := .builtin .len, args := #[x], argTypes := #[T] }) (hT : elemOf_ tab T = some (e, ee)) (hx : ρ x = .sl k es) :
    AStep P o M ρ M (.val (.int .i64 es.length)) :=
  .value fun S B β a w _ hs => by
    have h1 := hs x (by simp [ho, Op.operands, Call.operands])
    rw [hx] at h1
    obtain ⟨A, n, c, h2, h3, _⟩ := h1
    simp at h2
    exact ⟨_, by simp [execOp, ho, h2, resolve, invoke, builtin, run_len_sl (elemOf_spec ht hT).1]; rfl, by rw [h3]; rfl⟩
theorem astep_len_nil (ht : TyTab P tab) {T e : Nat} {ee : TE} {x : Operand} (ho : o.op = .call { callee := .builtin .len, args := #[x], argTypes := #[T] }) (hT : elemOf_ tab T = some (e, ee)) (hx : ρ x = .val (.slice none 0 0)) :
    AStep P o M ρ M (.val (.int .i64 0)) :=
  .value fun S B β a w _ hs => by
    have h1 := hs x (by simp [ho, Op.operands, Call.operands])
    rw [hx] at h1
    have h1 : a.eval x = .slice none 0 0 := h1
    exact ⟨_, by simp [execOp, ho, h1, resolve, invoke, builtin, run_len_sl (elemOf_spec ht hT).1], rfl⟩
theorem rowVal_form (b : Option (Nat × Nat)) (n : Nat) (h : b = none → n = 0) : ∃ A c, rowVal b n = .slice A n c := by
  cases b with
  | none => rw [h rfl]; exact ⟨none, 0, rfl⟩
  | some gc => exact ⟨some ⟨gc.1, 0, none⟩, gc.2, rfl⟩
theorem row_val {S : Nat → Prop} {B : Nat} {β : Env} {w : World} (hm : MemSat S B M β w) {i ver e k : Nat} {es : List D} (hM : M[i]? = some (.row ver e k es)) {v : Value} (h : AVsat M β w (immOf S B M β w) (.row i ver) v) :
    v = rowVal (β i) es.length ∧ (β i = none → es = []) := by
  obtain ⟨ab, h1, h2⟩ := h
  rw [hM] at h1; cases h1
  refine ⟨h2.2 rfl, fun hn => ?_⟩
  rcases (hm.ent i _ hM).2 with ⟨_, h3⟩ | ⟨g, c, cs, h3, _⟩
  · exact h3
  · rw [hn] at h3; cases h3
theorem astep_len_row (ht : TyTab P tab) {T e : Nat} {ee : TE} {x : Operand} {i ver e' k : Nat} {es : List D} (ho : o.op = .call { callee := .builtin .len, args := #[x], argTypes := #[T] }) (hT : elemOf_ tab T = some (e, ee)) (hx : ρ x = .row i ver) (hM : M[i]? = some (.row ver e' k es)) :
    AStep P o M ρ M (.val (.int .i64 es.length)) :=
  .value fun S B β a w hm hs => by
    have h1 := hs x (by simp [ho, Op.operands, Call.operands])
    rw [hx] at h1
    obtain ⟨h2, h3⟩ := row_val hm hM h1
    obtain ⟨A, c, h4⟩ := rowVal_form (β i) es.length (fun h => by rw [h3 h]; rfl)
    rw [h4] at h2
    exact ⟨_, by simp [execOp, ho, h2, resolve, invoke, builtin, run_len_sl (elemOf_spec ht hT).1], rfl⟩

/-- min, max -/
theorem astep_min {x y : Operand} {ts : Array TypeId} {k k' : IntKind} {a b : Int} (ho : o.op = .call { callee := .builtin .min, args := #[x, y], argTypes := ts }) (hx : ρ x = .val (.int k a)) (hy : ρ y = .val (.int k' b)) : AStep P o M ρ M (.val (.int k (min a b))) :=
  .value fun S B β A w _ hs => by
    have h1 := hs x (by simp [ho, Op.operands, Call.operands])
    have h2 := hs y (by simp [ho, Op.operands, Call.operands])
    rw [hx] at h1; rw [hy] at h2
    have h1 : A.eval x = .int k a := h1
    have h2 : A.eval y = .int k' b := h2
    refine ⟨.int k (min a b), ?_, rfl⟩
    have := run_min_int2 (P := P) w ts o.type k k' a b
    simp only [execOp, ho, resolve, invoke, builtin]
    simp [h1, h2, this]
    omega
theorem astep_max {x y : Operand} {ts : Array TypeId} {k k' : IntKind} {a b : Int} (ho : o.op = .call { callee := .builtin .max, args := #[x, y], argTypes := ts }) (hx : ρ x = .val (.int k a)) (hy : ρ y = .val (.int k' b)) : AStep P o M ρ M (.val (.int k (max a b))) :=
  .value fun S B β A w _ hs => by
    have h1 := hs x (by simp [ho, Op.operands, Call.operands])
    have h2 := hs y (by simp [ho, Op.operands, Call.operands])
    rw [hx] at h1; rw [hy] at h2
    have h1 : A.eval x = .int k a := h1
    have h2 : A.eval y = .int k' b := h2
    refine ⟨.int k (max a b), ?_, rfl⟩
    have := run_max_int2 (P := P) w ts o.type k k' a b
    simp only [execOp, ho, resolve, invoke, builtin]
    simp [h1, h2, this]
    omega

/-- An element's place, in a slice that is data. -/
theorem astep_idx (ht : TyTab P tab) {T e : Nat} {ee : TE} {x y : Operand} {es : List D} {q : IntKind} {n : Int} {d : D} (ho : o.op = .indexAddr T x y) (hT : elemOf_ tab T = some (e, ee)) (hx : ρ x = .sl ee.size es) (hy : ρ y = .val (.int q n))
    (h0 : 0 ≤ n) (hd : es[n.toNat]? = some d) : AStep P o M ρ M (.dptr d.cells) :=
  .value fun S B β a w _ hs => by
    have h1 := hs x (by simp [ho, Op.operands])
    have h2 := hs y (by simp [ho, Op.operands])
    rw [hx] at h1; rw [hy] at h2
    have h2 : a.eval y = .int q n := h2
    obtain ⟨A, l, c, h3, h4, h5, h6, h7, h8⟩ := h1
    simp at h3
    obtain ⟨hu, he⟩ := elemOf_spec ht hT
    have hlt : n.toNat < es.length := (List.getElem?_eq_some_iff.1 hd).1
    obtain ⟨g, off, rows, h9, h10, h11, h12⟩ := h8 (by omega)
    subst h9
    have hcond : 0 ≤ n ∧ n < (l : Int) := by omega
    refine ⟨.pointer (some ⟨g, off + n.toNat * ee.size, none⟩), ?_, g, off + n.toNat * ee.size, _, rfl, h10, (h11.at_ h7 hd).cells_, fun j u hj => ?_⟩
    · simp [execOp, ho, h2, h3, Instr.indexAt, asIntOf, run_underlying hu, hcond, run_sizeOf he, addr_add]
    · rw [List.getElem?_take] at hj
      split at hj
      · rw [List.getElem?_drop] at hj
        rw [Nat.add_assoc]
        exact h12 _ _ hj
      · cases hj
/-- An element's place, in an own row. -/
theorem astep_idx_row (ht : TyTab P tab) {T e : Nat} {ee : TE} {x y : Operand} {i ver e' : Nat} {es : List D} {q : IntKind} {n : Int} (ho : o.op = .indexAddr T x y) (hT : elemOf_ tab T = some (e, ee)) (hx : ρ x = .row i ver) (hM : M[i]? = some (.row ver e' ee.size es)) (hy : ρ y = .val (.int q n))
    (h0 : 0 ≤ n) (hd : n.toNat < es.length) : AStep P o M ρ M (.eptr i ver n.toNat 0) :=
  .value fun S B β a w hm hs => by
    have h1 := hs x (by simp [ho, Op.operands])
    have h2 := hs y (by simp [ho, Op.operands])
    rw [hx] at h1; rw [hy] at h2
    have h2 : a.eval y = .int q n := h2
    obtain ⟨h3, h4⟩ := row_val hm hM h1
    obtain ⟨hu, he⟩ := elemOf_spec ht hT
    cases hb : β i with
    | none => rw [h4 hb] at hd; simp at hd
    | some gc =>
      obtain ⟨g, c⟩ := gc
      rw [hb] at h3
      have hcond : 0 ≤ n ∧ n < (es.length : Int) := by omega
      refine ⟨.pointer (some ⟨g, n.toNat * ee.size, none⟩), ?_, .row ver e' ee.size es, hM, Nat.le_refl _, fun _ => ⟨g, c, hb, by simp⟩⟩
      simp [execOp, ho, h2, h3, rowVal, Instr.indexAt, asIntOf, run_underlying hu, hcond, run_sizeOf he, addr_add]
theorem D_cells_len {w : World} {imm : Nat → Prop} {d : D} {cs : List Value} (h : DenC w imm d cs) : d.cells.length = d.width := by
  have := DenC.cells_ (M := []) (β := fun _ => none) d cs h
  rw [← this.len, h.len]
/-- A read of an own row's element. -/
theorem astep_load_e (ht : TyTab P tab) {T : Nat} {te : TE} {x : Operand} {i ver j off e k : Nat} {es : List D} {d : D} (ho : o.op = .load T x) (hT : tget tab T = some te) (hx : ρ x = .eptr i ver j off) (hM : M[i]? = some (.row ver e k es))
    (hd : es[j]? = some d) (hl : loadAV te (d.cells.drop off) = some out) : AStep P o M ρ M out :=
  .value fun S B β a w hm hs => by
    have h1 := hs x (by simp [ho, Op.operands])
    rw [hx] at h1
    obtain ⟨ab, h2, h3⟩ := h1
    rw [hM] at h2; cases h2
    obtain ⟨g, c, h4, h5⟩ := h3.2 rfl
    obtain ⟨hw, h6 | ⟨g', c', cs, h6, h7, h8, h9, h10, h11⟩⟩ := hm.ent i _ hM
    · rw [h4] at h6; cases h6.1
    · rw [h4] at h6; cases h6
      have h12 := (h11.at_ hw hd).cells_ (M := M) (β := β)
      obtain ⟨v, h13, h14⟩ := run_loadVar (P := P) (ht.get hT) (g := g) (off := j * k + off) (h12.drop_ off) (fun q u hq => by
        rw [List.getElem?_drop, List.getElem?_take] at hq
        split at hq
        · rw [List.getElem?_drop, List.getElem?_take] at hq
          split at hq
          · rw [Nat.add_assoc]
            rw [h7.cell]
            simpa using hq
          · cases hq
        · cases hq) hl
      exact ⟨v, by simp [execOp, ho, h5, Instr.loadAt, Instr.sureAddr, h13], h14⟩
/-- A datum out of cells. -/
def toD1 : AV → Option D
  | .val v => some (.val v)
  | .sl k es => some (.sl k es)
  | _ => none
def toDs : List AV → Option (List D)
  | [] => some []
  | x :: r => match toD1 x, toDs r with
    | some d, some ds => some (d :: ds)
    | _, _ => none
def toD : AV → Option D
  | .agg l => (toDs l).map .ag
  | x => toD1 x
def fine1 : AV → Bool
  | .val v => v.oneCell'
  | _ => true
theorem toDs_sat {β : Env} {w : World} {imm : Nat → Prop} : ∀ {l : List AV} {ds : List D} {cs : List Value}, toDs l = some ds → oneCs l = true → AVsats M β w imm l cs → DenCs w imm ds cs
  | [], _, _, h, _, hs => by cases h; exact hs
  | x :: r, ds, cs, h, h1, ⟨v, vs, h2, h3, h4⟩ => by
    simp only [toDs] at h
    split at h
    · rename_i d ds' hd hds
      cases h
      rw [oneCs, List.all_cons, Bool.and_eq_true] at h1
      refine ⟨[v], vs, h2, ?_, toDs_sat hds h1.2 h4⟩
      cases x with
      | val u => cases hd; cases h3; exact ⟨rfl, h1.1⟩
      | sl k es => cases hd; exact h3
      | _ => cases hd
    · cases h
theorem toD_sat {β : Env} {w : World} {imm : Nat → Prop} {x : AV} {d : D} {v : Value} (h : toD x = some d) (h1 : oneCs (cellsOf x) = true) (hs : AVsat M β w imm x v) : DenC w imm d v.cells.toList := by
  obtain ⟨h2, _⟩ := cellsOf_sat h1 hs
  cases x with
  | agg l =>
    obtain ⟨ds, h3, h4⟩ := Option.map_eq_some_iff.1 h
    subst h4
    exact toDs_sat h3 h1 h2
  | val u =>
    cases h
    cases hs
    have h3 : v.oneCell' = true := by simpa [oneCs, cellsOf, AV.oneC] using h1
    have h4 : v.cells = #[v] := by cases v <;> first | rfl | cases h3
    rw [h4]
    exact ⟨rfl, h3⟩
  | sl k es =>
    cases h
    obtain ⟨A, n, c, h3, h6⟩ := hs
    simp at h3
    rw [h3]
    exact ⟨A, n, c, rfl, h6⟩
  | _ => cases h
end

end Go.Proofs.Ytajbbcnfohbieaa
