/- Views of own rows; slices.Delete. -/
import Derived.Test.YtajbbcnfohbieaaS3
namespace Go.Proofs.Ytajbbcnfohbieaa
open Go Go.RowKit

/-- A row's first part, as a slice; its last part; the whole, with room behind it. -/
def pfxV (a : Nat) : Nat → Option (Nat × Nat) → Nat → Value → Prop := fun _ b _ v => ∃ g c, b = some (g, c) ∧ v = .slice (some ⟨g, 0, none⟩) a c
def sfxV (j : Nat) : Nat → Option (Nat × Nat) → Nat → Value → Prop := fun k b n v => ∃ g c A, b = some (g, c) ∧ v = .slice A (n - j) (c - j) ∧ (j < n → A = some ⟨g, j * k, none⟩)
def gapV (d : Nat) : Nat → Option (Nat × Nat) → Nat → Value → Prop := fun _ b n v => ∃ g c, b = some (g, c) ∧ v = .slice (some ⟨g, 0, none⟩) n c ∧ n + d ≤ c
def restV (d : Nat) : Nat → Option (Nat × Nat) → Nat → Value → Prop := fun k b n v => ∃ g c A c', b = some (g, c) ∧ v = .slice A d c' ∧ n + d ≤ c ∧ (0 < d → A = some ⟨g, n * k, none⟩)
section
variable {P : Program} {o : Oper} {M M' : List AB} {ρ : Operand → AV} {out : AV} {tab : List (Nat × TE)}
/-- What a row that holds something looks like. -/
theorem row_some {S : Nat → Prop} {B : Nat} {β : Env} {w : World} (hm : MemSat S B M β w) {i ver e k : Nat} {es : List D} (hM : M[i]? = some (.row ver e k es)) (hne : es ≠ []) :
    ∃ g c cs, β i = some (g, c) ∧ rowAt w g cs e ver (es.length * k) ∧ es.length ≤ c ∧ c ≤ maxLen ∧ cs.size = c * k ∧ DenCs w (immOf S B M β w) es (cs.toList.take (es.length * k)) := by
  obtain ⟨_, h | h⟩ := hm.ent i _ hM
  · exact absurd h.2 hne
  · exact h
theorem astep_slice3 (ht : TyTab P tab) {T e i ver e' : Nat} {ee : TE} {x y z u : Operand} {q1 q2 q3 : IntKind} {a b m : Int} {es : List D} (ho : o.op = .slice T x (some y) (some z) (some u)) (hT : elemOf_ tab T = some (e, ee)) (hx : ρ x = .row i ver) (hM : M[i]? = some (.row ver e' ee.size es))
    (hy : ρ y = .val (.int q1 a)) (hz : ρ z = .val (.int q2 b)) (hu : ρ u = .val (.int q3 m)) (hb : 0 ≤ a ∧ a ≤ b ∧ b ≤ m ∧ m ≤ (es.length : Int)) : AStep P o M ρ M .any :=
  .value fun S B β w0 w hm hs => by
    have h1 := hs x (by simp [ho, Op.operands])
    have h2 := hs y (by simp [ho, Op.operands])
    have h3 := hs z (by simp [ho, Op.operands])
    have h4 := hs u (by simp [ho, Op.operands])
    rw [hx] at h1; rw [hy] at h2; rw [hz] at h3; rw [hu] at h4
    have h2 : w0.eval y = .int q1 a := h2
    have h3 : w0.eval z = .int q2 b := h3
    have h4 : w0.eval u = .int q3 m := h4
    obtain ⟨k1, k2⟩ := row_val hm hM h1
    obtain ⟨A, c, k3⟩ := rowVal_form (β i) es.length (fun h => by rw [k2 h]; rfl)
    obtain ⟨hu', he⟩ := elemOf_spec ht hT
    obtain ⟨hu'', he'⟩ := elem_of hu'
    have hsz := run_sizeOf (P := P) (w := w) he
    rw [← he'] at hsz
    have hcap : es.length ≤ c := by
      rcases (hm.ent i _ hM).2 with ⟨_, h⟩ | ⟨g, c', cs, q1, _, q3, _⟩
      · rw [h]; exact Nat.zero_le _
      · rw [q1] at k3
        simp [rowVal] at k3
        omega
    have e := run_slice_lhm (P := P) w T A es.length c hu'' q1 q2 q3 a b m hb.1 hb.2.1 hb.2.2.1 (by omega)
    refine ⟨sliced A a.toNat b.toNat m.toNat ee.size, ?_, trivial⟩
    · simp only [execOp, ho, k1, k3, h2, h3, h4, Sem.run_bind, run_sliceAt_slice _ _ _ _ _ _ hu'']
      simp [h2, h3, h4, e, hsz]
theorem astep_pfx (ht : TyTab P tab) {T e i ver e' : Nat} {ee : TE} {x y : Operand} {q : IntKind} {a : Int} {es : List D} (ho : o.op = .slice T x none (some y) none) (hT : elemOf_ tab T = some (e, ee)) (hx : ρ x = .row i ver) (hM : M[i]? = some (.row ver e' ee.size es)) (hne : es ≠ [])
    (hy : ρ y = .val (.int q a)) (hb : 0 ≤ a ∧ a ≤ (es.length : Int)) : AStep P o M ρ M (.vw i ver (pfxV a.toNat)) :=
  .value fun S B β w0 w hm hs => by
    have h1 := hs x (by simp [ho, Op.operands])
    have h2 := hs y (by simp [ho, Op.operands])
    rw [hx] at h1; rw [hy] at h2
    have h2 : w0.eval y = .int q a := h2
    obtain ⟨k1, _⟩ := row_val hm hM h1
    obtain ⟨g, c, cs, b1, b2, b3, b4, b5, b6⟩ := row_some hm hM hne
    obtain ⟨hu', he⟩ := elemOf_spec ht hT
    obtain ⟨hu'', he'⟩ := elem_of hu'
    have hsz := run_sizeOf (P := P) (w := w) he
    rw [← he'] at hsz
    rw [b1] at k1
    have e := run_slice_h (P := P) w T (some ⟨g, 0, none⟩) es.length c hu'' q a hb.1 (by omega)
    refine ⟨.slice (some ⟨g, 0, none⟩) a.toNat c, ?_, _, hM, Nat.le_refl _, fun _ => ⟨g, c, b1, rfl⟩⟩
    simp only [execOp, ho, k1, rowVal, h2, Sem.run_bind, run_sliceAt_slice _ _ _ _ _ _ hu'']
    simp [h2, e, hsz, sliced, addr_add]
theorem astep_sfx (ht : TyTab P tab) {T e i ver e' : Nat} {ee : TE} {x y : Operand} {q : IntKind} {a : Int} {es : List D} (ho : o.op = .slice T x (some y) none none) (hT : elemOf_ tab T = some (e, ee)) (hx : ρ x = .row i ver) (hM : M[i]? = some (.row ver e' ee.size es)) (hne : es ≠ [])
    (hy : ρ y = .val (.int q a)) (hb : 0 ≤ a ∧ a ≤ (es.length : Int)) : AStep P o M ρ M (.vw i ver (sfxV a.toNat)) :=
  .value fun S B β w0 w hm hs => by
    have h1 := hs x (by simp [ho, Op.operands])
    have h2 := hs y (by simp [ho, Op.operands])
    rw [hx] at h1; rw [hy] at h2
    have h2 : w0.eval y = .int q a := h2
    obtain ⟨k1, _⟩ := row_val hm hM h1
    obtain ⟨g, c, cs, b1, b2, b3, b4, b5, b6⟩ := row_some hm hM hne
    obtain ⟨hu', he⟩ := elemOf_spec ht hT
    obtain ⟨hu'', he'⟩ := elem_of hu'
    have hsz := run_sizeOf (P := P) (w := w) he
    rw [← he'] at hsz
    rw [b1] at k1
    have e := run_slice_l (P := P) w T (some ⟨g, 0, none⟩) es.length c hu'' q a hb.1 (by omega)
    refine ⟨sliced (some ⟨g, 0, none⟩) a.toNat es.length c ee.size, ?_, _, hM, Nat.le_refl _, fun _ => ⟨g, c, _, b1, rfl, fun hlt => ?_⟩⟩
    · simp only [execOp, ho, k1, rowVal, h2, Sem.run_bind, run_sliceAt_slice _ _ _ _ _ _ hu'']
      simp [h2, e, hsz]
    · rw [if_neg (by omega)]
      simp [addr_add]
/-- append(s[:a], s[b:]...): in place. -/
theorem astep_delapp (ht : TyTab P tab) {T e i ver a b : Nat} {ee : TE} {x y : Operand} {es : List D} (ho : o.op = .call { callee := .builtin .append, args := #[x, y], argTypes := #[T, T] }) (hT : elemOf_ tab T = some (e, ee)) (hk : Nat.blt 0 ee.size = true)
    (hx : ρ x = .vw i ver (pfxV a)) (hy : ρ y = .vw i ver (sfxV b)) (hM : M[i]? = some (.row ver e ee.size es)) (hab : a ≤ b) (hb : b ≤ es.length) (hne : es ≠ []) (hv : sealed ver = false) :
    AStep P o M ρ (M.set i (.row (ver + 2) e ee.size (es.take a ++ es.drop b))) (.vw i (ver + 2) (gapV (b - a))) := by
  intro S B β w0 w hm hs K Q hK
  have hlt : i < M.length := (List.getElem?_eq_some_iff.1 hM).1
  have h1 := hs x (by simp [ho, Op.operands, Call.operands])
  have h2 := hs y (by simp [ho, Op.operands, Call.operands])
  rw [hx] at h1; rw [hy] at h2
  obtain ⟨g, c, cs, b1, ⟨fz, b2, b2'⟩, b3, b4, b5, b6⟩ := row_some hm hM hne
  obtain ⟨ab1, e1, r1⟩ := h1
  rw [hM] at e1; cases e1
  obtain ⟨g1, c1, q1, q2⟩ := r1.2 rfl
  rw [b1] at q1; cases q1
  obtain ⟨ab2, e2, r2⟩ := h2
  rw [hM] at e2; cases e2
  obtain ⟨g2, c2, A, q3, q4, q5⟩ := r2.2 rfl
  rw [b1] at q3; cases q3
  have hk : 0 < ee.size := by simpa using hk
  obtain ⟨hu, he⟩ := elemOf_spec ht hT
  obtain ⟨d, ti, z, _, _, hi, hs', hby, hz, hzc⟩ := teOf_spec he
  have hW := (hm.ent i _ hM).1
  have hct : cs.toList.length = cs.size := Array.length_toList
  have hcl : es.length * ee.size ≤ cs.size := by rw [b5]; exact Nat.mul_le_mul_right _ b3
  -- the cells that are moved
  obtain ⟨news, hnews⟩ : ∃ news, news = (cs.toList.take (es.length * ee.size)).drop (b * ee.size) := ⟨_, rfl⟩
  have hnl : news.length = (es.length - b) * ee.size := by
    rw [hnews, List.length_drop, List.length_take, hct, Nat.min_eq_left hcl, Nat.sub_mul]
  have hcells : ∀ j u, news[j]? = some u → w.cell? ((⟨g, b * ee.size, none⟩ : Addr).add j) = some u := by
    intro j u hu
    have hj : j < news.length := (List.getElem?_eq_some_iff.1 hu).1
    rw [hnews, List.getElem?_drop, List.getElem?_take] at hu
    rw [addr_add]
    split at hu
    · simp [World.cell?, b2, ← Array.getElem?_toList, hu]
    · cases hu
  have hfull := b6
  have hnD : DenCs w (immOf S B M β w) (es.drop b) news := by rw [hnews]; exact hfull.drop_ hW
  have hpD : DenCs w (immOf S B M β w) (es.take a) (cs.toList.take (a * ee.size)) := by
    have := hfull.take_ (i := a) hW
    rwa [List.take_take, Nat.min_eq_left (Nat.mul_le_mul_right _ (by omega))] at this
  have hone : ∀ u ∈ news, u.oneCell' = true := hnD.one
  have hroom : a + (es.length - b) ≤ c := by omega
  have hfit : a * ee.size + news.length ≤ cs.size := by rw [hnl, b5, ← Nat.add_mul]; exact Nat.mul_le_mul_right _ hroom
  have hfz : ∀ j, j < cs.size → (decide (fz.1 ≤ j) && decide (j < fz.2)) = false := b2'.clear hv
  have hst := run_storeCells_c P g (a * ee.size) e fz news 0 cs w b2 (fun j _ h => hfz j h) (by simpa using hfit) hone
  simp only [Nat.add_zero] at hst
  obtain ⟨ns, hns⟩ : ∃ ns : List Value, ns = cs.toList.take (a * ee.size) ++ news ++ cs.toList.drop (a * ee.size + news.length) := ⟨_, rfl⟩
  rw [← hns] at hst
  have hnsl : ns.length = cs.size := by
    rw [hns]; simp only [List.length_append, List.length_take, List.length_drop, hct]; omega
  have hrun : (execOp w0.eval o).run P w = .ok (.value (.slice (some ⟨g, 0, none⟩) (a + (es.length - b)) c)) (w.setRow g ns.toArray) := by
    rcases Nat.lt_or_ge b es.length with hlt' | hge
    · have hA := q5 hlt'
      subst hA
      have hf := run_firstCells_some (P := P) w ee.size (es.length - b) ⟨g, b * ee.size, none⟩ (es.length - b) (c - b) news hnl hcells
      simp only [execOp, ho, resolve, invoke, builtin]
      simp [q2, q4, Builtin.append_, run_underlying hu, sizeOf, typeInfo, hi, hs', Builtin.lenOf, hroom, hf, addr_add, hst]
    · have hb0 : es.length - b = 0 := by omega
      have hn0 : news = [] := List.eq_nil_of_length_eq_zero (by rw [hnl, hb0, Nat.zero_mul])
      have hself : w.setRow g ns.toArray = w := by
        rw [hns, hn0]; simp only [List.append_nil, List.length_nil, Nat.add_zero, List.take_append_drop]
        exact setRow_self w g cs e fz b2
      rw [hself]
      have hf : (Builtin.firstCells ee.size 0 (.slice A (es.length - b) (c - b))).run P w = .ok #[] w := by
        cases A with
        | none => simp [Builtin.firstCells]
        | some ad => simp [Builtin.firstCells, loadCells, loadCellsFrom]
      have ha : a ≤ c := by omega
      simp only [execOp, ho, resolve, invoke, builtin]
      simp [q2, q4, Builtin.append_, run_underlying hu, sizeOf, typeInfo, hi, hs', Builtin.lenOf, hb0, hf, ha, storeCells]
      rw [hb0] at hf
      simp [hf, storeCells]
  unfold Oper.wp
  rw [hrun]
  have hlen' : (es.take a ++ es.drop b).length = a + (es.length - b) := by
    rw [List.length_append, List.length_take, List.length_drop, Nat.min_eq_left (by omega)]
  have hWall : AllW ee.size (es.take a ++ es.drop b) := fun d hd => by
    rcases List.mem_append.1 hd with h | h
    · exact hW d (List.mem_of_mem_take h)
    · exact hW d (List.mem_of_mem_drop h)
  have hse : setE β i (some (g, c)) = β := by funext j; by_cases hj : j = i <;> simp [setE, hj, b1]
  have := hm.set_ (w' := w.setRow g ns.toArray) (ab' := .row (ver + 2) e ee.size (es.take a ++ es.drop b)) (x := some (g, c)) hM rfl rfl rfl rfl (by simp)
    (fun b' _ hne' => setRow_other w g b' _ (fun e => hne' c (by rw [b1, e]))) (fun g' c' h => by cases h; exact .inl ⟨c, b1⟩) ⟨by omega, rfl, fun h => by omega⟩
    (fun hE => ⟨hWall, .inr ⟨g, c, _, rfl, ⟨fz, setRow_heap w g cs _ e _ b2, by
      rw [List.size_toArray, hnsl]
      exact (b2'.clear hv).ok (by exact hv)⟩, by rw [hlen']; exact hroom, b4, by rw [List.size_toArray, hnsl, b5], by
      have hd := DenCs.append hpD hnD
      have e2 : ns.take ((es.take a ++ es.drop b).length * ee.size) = cs.toList.take (a * ee.size) ++ news := by
        rw [hns, hlen', Nat.add_mul, ← hnl]
        have hl : (cs.toList.take (a * ee.size) ++ news).length = a * ee.size + news.length := by
          rw [List.length_append, List.length_take, hct, Nat.min_eq_left (by omega)]
        rw [← hl]
        exact List.take_left
      show DenCs _ _ _ (ns.take _)
      rw [e2]
      exact DenCs.mono (fun _ => immOf.ev hE) (fun _ off => immOf.cell hE off) _ _ hd⟩⟩)
  rw [hse] at this
  refine hK _ _ _ this.1 this.2 ⟨.row (ver + 2) e ee.size (es.take a ++ es.drop b), by simp [hlt], Nat.le_refl _, fun _ => ⟨g, c, b1, by rw [hlen'], by rw [hlen']; omega⟩⟩
theorem astep_len_gap (ht : TyTab P tab) {T e i ver d e' : Nat} {ee : TE} {x : Operand} {es : List D} (ho : o.op = .call { callee := .builtin .len, args := #[x], argTypes := #[T] }) (hT : elemOf_ tab T = some (e, ee)) (hx : ρ x = .vw i ver (gapV d)) (hM : M[i]? = some (.row ver e' ee.size es)) : AStep P o M ρ M (.val (.int .i64 es.length)) :=
  .value fun S B β w0 w hm hs => by
    have h1 := hs x (by simp [ho, Op.operands, Call.operands])
    rw [hx] at h1
    obtain ⟨ab1, e1, r1⟩ := h1
    rw [hM] at e1; cases e1
    obtain ⟨g1, c1, q1, q2, q3⟩ := r1.2 rfl
    obtain ⟨hu, he⟩ := elemOf_spec ht hT
    refine ⟨_, ?_, rfl⟩
    simp [execOp, ho, resolve, invoke, builtin, q2, run_len_sl hu]
theorem astep_rest (ht : TyTab P tab) {T e i ver d e' : Nat} {ee : TE} {x y z : Operand} {q1 q2 : IntKind} {a b : Int} {es : List D} (ho : o.op = .slice T x (some y) (some z) none) (hT : elemOf_ tab T = some (e, ee)) (hx : ρ x = .vw i ver (gapV d)) (hM : M[i]? = some (.row ver e' ee.size es))
    (hy : ρ y = .val (.int q1 a)) (hz : ρ z = .val (.int q2 b)) (hb : a = es.length ∧ b = es.length + d) : AStep P o M ρ M (.vw i ver (restV d)) :=
  .value fun S B β w0 w hm hs => by
    have h1 := hs x (by simp [ho, Op.operands])
    have h2 := hs y (by simp [ho, Op.operands])
    have h3 := hs z (by simp [ho, Op.operands])
    rw [hx] at h1; rw [hy] at h2; rw [hz] at h3
    have h2 : w0.eval y = .int q1 a := h2
    have h3 : w0.eval z = .int q2 b := h3
    obtain ⟨ab1, e1, r1⟩ := h1
    rw [hM] at e1; cases e1
    obtain ⟨g, c, p1, p2, p3⟩ := r1.2 rfl
    obtain ⟨hu', he⟩ := elemOf_spec ht hT
    obtain ⟨hu'', he'⟩ := elem_of hu'
    have hsz := run_sizeOf (P := P) (w := w) he
    rw [← he'] at hsz
    obtain ⟨rfl, rfl⟩ := hb
    have e := run_slice_lh (P := P) w T (some ⟨g, 0, none⟩) es.length c hu'' q1 q2 es.length (es.length + d) (by omega) (by omega) (by omega)
    refine ⟨sliced (some ⟨g, 0, none⟩) es.length (es.length + d) c ee.size, ?_, _, hM, Nat.le_refl _, fun _ => ⟨g, c, _, _, p1, by rw [sliced, Nat.add_sub_cancel_left], p3, fun hlt => ?_⟩⟩
    · simp only [execOp, ho, p2, h2, h3, Sem.run_bind, run_sliceAt_slice _ _ _ _ _ _ hu'']
      simp only [Option.map, h2, h3, e, hsz, Result.andThen_ok]
      simp
      rfl
    · rw [if_neg (by omega)]
      simp [addr_add]
/-- A field of an own row's element. -/
theorem astep_field_e (ht : TyTab P tab) {T f off i ver j off0 e k : Nat} {fe : TE} {x : Operand} {es : List D} (ho : o.op = .fieldAddr T x f) (hf : fieldOf tab T f = some (off, fe)) (hx : ρ x = .eptr i ver j off0) (hM : M[i]? = some (.row ver e k es)) : AStep P o M ρ M (.eptr i ver j (off0 + off)) :=
  .value fun S B β a w hm hs => by
    have h1 := hs x (by simp [ho, Op.operands])
    rw [hx] at h1
    obtain ⟨ab, v1, v2⟩ := h1
    rw [hM] at v1; cases v1
    obtain ⟨g, c, h3, h2⟩ := v2.2 rfl
    refine ⟨.pointer (some ⟨g, j * k + off0 + off, none⟩), by simp [execOp, ho, h2, run_fieldAt ht hf], .row ver e k es, hM, Nat.le_refl _, fun _ => ⟨g, c, h3, by simp [Nat.add_assoc]⟩⟩
theorem mem_zeroCells {z : Array Value} {n : Nat} (hz : 0 < z.size) : ∀ u ∈ (Builtin.zeroCells z n).toList, u ∈ z.toList := by
  intro u hu
  simp only [Builtin.zeroCells, Array.toList_map, List.mem_map] at hu
  obtain ⟨i, _, rfl⟩ := hu
  have hlt : i % z.size < z.size := Nat.mod_lt _ hz
  rw [getElem!_pos z _ hlt, Array.mem_toList_iff]
  exact Array.getElem_mem hlt
/-- clear of what lies behind a row. -/
theorem astep_clear (ht : TyTab P tab) {T e i ver d : Nat} {ee : TE} {x : Operand} {es : List D} (ho : o.op = .call { callee := .builtin .clear, args := #[x], argTypes := #[T] }) (hT : elemOf_ tab T = some (e, ee)) (hok : (Nat.blt 0 ee.size && Nat.beq ee.zero.length ee.size && ee.zero.all Value.oneCell') = true)
    (hx : ρ x = .vw i ver (restV d)) (hd : 0 < d) (hM : M[i]? = some (.row ver e ee.size es)) (hv : sealed ver = false) : AStep P o M ρ M (.tup []) := by
  intro S B β w0 w hm hs K Q hK
  have hlt : i < M.length := (List.getElem?_eq_some_iff.1 hM).1
  have h1 := hs x (by simp [ho, Op.operands, Call.operands])
  rw [hx] at h1
  obtain ⟨ab1, e1, r1⟩ := h1
  rw [hM] at e1; cases e1
  obtain ⟨g, c, A, c', p1, p2, p3, p4⟩ := r1.2 rfl
  have hA := p4 hd
  subst hA
  simp only [Bool.and_eq_true, Nat.blt_eq] at hok
  obtain ⟨⟨o1, o2⟩, o3⟩ := hok
  have o2 := Nat.eq_of_beq_eq_true o2
  obtain ⟨hu, he⟩ := elemOf_spec ht hT
  obtain ⟨z, hz1, hz2⟩ := run_zeroCells (P := P) (w := w) he
  have hzs : z.cells.size = ee.size := by rw [← Array.length_toList, hz2, o2]
  obtain ⟨hW, h | ⟨g', c2, cs, b1, ⟨fz, b2, b2'⟩, b3, b4, b5, b6⟩⟩ := hm.ent i _ hM
  · rw [p1] at h; cases h.1
  rw [p1] at b1; cases b1
  have hct : cs.toList.length = cs.size := Array.length_toList
  obtain ⟨zs, hzs'⟩ : ∃ zs, zs = (Builtin.zeroCells z.cells d).toList := ⟨_, rfl⟩
  have hzl : zs.length = d * ee.size := by rw [hzs', Array.length_toList, size_zeroCells, hzs]
  have hone : ∀ u ∈ zs, u.oneCell' = true := fun u hu => by
    rw [hzs'] at hu
    have := mem_zeroCells (by omega) u hu
    rw [hz2] at this
    exact List.all_eq_true.1 o3 u this
  have hfit : es.length * ee.size + zs.length ≤ cs.size := by rw [hzl, b5, ← Nat.add_mul]; exact Nat.mul_le_mul_right _ p3
  have hst := run_storeCells_c P g (es.length * ee.size) e fz zs 0 cs w b2 (fun j _ h => b2'.clear hv j h) (by simpa using hfit) hone
  simp only [Nat.add_zero] at hst
  obtain ⟨ns, hns⟩ : ∃ ns : List Value, ns = cs.toList.take (es.length * ee.size) ++ zs ++ cs.toList.drop (es.length * ee.size + zs.length) := ⟨_, rfl⟩
  rw [← hns] at hst
  have hnsl : ns.length = cs.size := by
    rw [hns]; simp only [List.length_append, List.length_take, List.length_drop, hct]; omega
  have hrun : (execOp w0.eval o).run P w = .ok (.value (.tuple #[])) (w.setRow g ns.toArray) := by
    obtain ⟨m, rfl⟩ : ∃ m, d = m + 1 := ⟨d - 1, by omega⟩
    simp only [execOp, ho, resolve, invoke, builtin]
    rw [hzs'] at hst
    simp [p2, Builtin.clear_, run_underlying hu, hz1, hst]
  unfold Oper.wp
  rw [hrun]
  have hse : setE β i (some (g, c)) = β := by funext j; by_cases hj : j = i <;> simp [setE, hj, p1]
  have hMs : M.set i (.row ver e ee.size es) = M := by
    obtain ⟨hlt, hget⟩ := List.getElem?_eq_some_iff.1 hM
    rw [← hget]
    exact List.set_getElem_self hlt
  have := hm.set_ (w' := w.setRow g ns.toArray) (ab' := .row ver e ee.size es) (x := some (g, c)) hM rfl rfl rfl rfl (by simp)
    (fun b' _ hne' => setRow_other w g b' _ (fun e => hne' c (by rw [p1, e]))) (fun g' c' h => by cases h; exact .inl ⟨c, p1⟩) ⟨Nat.le_refl _, rfl, fun _ => ⟨p1.symm, rfl⟩⟩
    (fun hE => ⟨hW, .inr ⟨g, c, _, rfl, ⟨fz, setRow_heap w g cs _ e _ b2, by
      rw [List.size_toArray, hnsl]
      exact b2'⟩, b3, b4, by rw [List.size_toArray, hnsl, b5], by
      have e2 : ns.take (es.length * ee.size) = cs.toList.take (es.length * ee.size) := by
        have hl : (cs.toList.take (es.length * ee.size)).length = es.length * ee.size := by
          rw [List.length_take, hct, Nat.min_eq_left (by omega)]
        rw [hns, List.append_assoc]
        conv => lhs; rw [← hl]
        rw [hl]
        rw [List.take_append_of_le_length (by rw [hl]; exact Nat.le_refl _), List.take_take, Nat.min_self]
      show DenCs _ _ _ (ns.take _)
      rw [e2]
      exact DenCs.mono (fun _ => immOf.ev hE) (fun _ off => immOf.cell hE off) _ _ b6⟩⟩)
  rw [hse, hMs] at this
  exact hK _ _ _ this.1 this.2 ⟨#[], rfl, rfl⟩
end
theorem sub_gap {i ver d : Nat} : Sub (.vw i ver (gapV d)) (.row i ver) := by
  rintro M β w imm v ⟨ab, h1, h2⟩
  refine ⟨ab, h1, ?_⟩
  cases ab with
  | row v e k es => exact ⟨h2.1, fun h => by obtain ⟨g, c, q1, q2, _⟩ := h2.2 h; rw [q1, q2]; rfl⟩
  | rowo v e k pre cells => exact ⟨h2.1, fun h => by obtain ⟨g, c, q1, q2, _⟩ := h2.2 h; rw [q1, q2]; rfl⟩
  | gone => trivial
  | box _ _ => trivial
  | iter _ _ => trivial
section
variable {P : Program} {ops : Array Oper} {N : Nat} {K : AS → Prop} {o : Oper} {r : List Oper} {fo fo' : Option (List Nat)} {M M' : List AB} {F : List (Nat × AV)} {dt : Tmp} {tab : List (Nat × TE)} {out : AV}
theorem r_fielde (ht : TyTab P tab) {T f off i ver j off0 e k' : Nat} {fe : TE} {x : Operand} {es : List D} (hg : o.guard = none) (ho : o.op = .fieldAddr T x f) (hf : fieldOf tab T f = some (off, fe)) (hx : aval (look F) x = .eptr i ver j off0) (hM : M[i]? = some (.row ver e k' es)) (hdd : o.dst = some dt) (hd : dstB o.dst N = true) (hp : popF fo 1 = some fo')
    (k : RunX P ops N K r fo' M ((dt, .eptr i ver j (off0 + off)) :: F)) : RunX P ops N K (o :: r) fo M F :=
  RunX.mk (fun _ k => Run.quiet hd (StepG.plain hg (astep_field_e ht ho hf hx hM)) (by rw [put_eq hdd]; exact k)) hp k
theorem r_fielde_cnd (ht : TyTab P tab) {jg : Nat} {want c0 : Bool} {g : Tmp} {T f off i ver j off0 e k' : Nat} {fe : TE} {x : Operand} {es : List D} (hg : o.guard = some (jg, want)) (hj : dstOf ops jg = some g) (hF : guardOf want (look F g) = some c0) (ho : o.op = .fieldAddr T x f) (hf : fieldOf tab T f = some (off, fe))
    (hx : aval (fun t => strip (look F t)) x = .eptr i ver j off0) (hM : M[i]? = some (.row ver e k' es)) (hcs : c0 = true → condsOf (look F) o.op.operands.toList = true) (hdd : o.dst = some dt) (hd : dstB o.dst N = true) (hp : popF fo 1 = some fo') (k : RunX P ops N K r fo' M ((dt, .cnd c0 (.eptr i ver j (off0 + off))) :: F)) : RunX P ops N K (o :: r) fo M F :=
  RunX.mk (fun _ k => Run.quiet hd (StepG.cnd hg hj hF hcs fun _ => astep_field_e ht ho hf hx hM) (by rw [put_eq hdd]; exact k)) hp k
/-- An operation that turns own memory, by its own law. -/
theorem r_by2 {x : AV} (hs : AStep P o M (aval (look F)) M' x) (hg : o.guard = none) (hx : nf x = some out) (hdd : o.dst = some dt) (hd : dstB o.dst N = true) (hp : popF fo 2 = some fo') (k : RunX P ops N K r fo' M' ((dt, out) :: F)) : RunX P ops N K (o :: r) fo M F :=
  RunX.mk (fun _ k => Run.eff hd (StepG.plain hg hs) (by rw [put_eq hdd, nf_eq hx]; exact k)) hp k
theorem r_by2n {x : AV} (hs : AStep P o M (aval (look F)) M' x) (hg : o.guard = none) (hdd : o.dst = none) (hp : popF fo 2 = some fo') (k : RunX P ops N K r fo' M' F) : RunX P ops N K (o :: r) fo M F :=
  RunX.mk (fun _ k => Run.eff (by rw [hdd]; rfl) (StepG.plain hg hs) (by rw [hdd]; exact k)) hp k
end
end Go.Proofs.Ytajbbcnfohbieaa
