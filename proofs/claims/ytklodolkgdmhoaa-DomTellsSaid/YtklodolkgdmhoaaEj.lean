import Derived.Test.YtklodolkgdmhoaaEh
import Derived.Great.FillDense
import Derived.Maps.AppendAt
/- The engine, part 9: new slices, append, calls. -/
namespace Go.Proofs.Ytklodolkgdmhoaa
open Go Go.RowKit

section
variable {P : Program} {o : Oper} {M M' : List AB} {ρ : Operand → AV} {out : AV} {tab : List (Nat × TE)}

/-- An operation that answers, whose world has only grown. -/
theorem AStep.grows (h : ∀ (S : Nat → Prop) (B : Nat) (β : Env) (a : Act) (w : World), MemSat S B M β w → (∀ x ∈ o.op.operands, AVsat M β w (immOf S B M β w) (ρ x) (a.eval x)) →
    ∃ v w', (execOp a.eval o).run P w = .ok (.value v) w' ∧ Below w.heap.size w w' ∧ (Ev M β w M β w' → AVsat M β w' (immOf S B M β w') out v)) : AStep P o M ρ M out := by
  intro S B β a w hm hs K Q hK
  obtain ⟨v, w', h1, h2, h3⟩ := h S B β a w hm hs
  unfold Oper.wp
  rw [h1]
  exact hK v β w' (Ev.of_below h2) (hm.quiet h2) (h3 (Ev.of_below h2))

def toDall : List AV → Option (List D)
  | [] => some []
  | x :: r => match toD x, toDall r with
    | some d, some ds => some (d :: ds)
    | _, _ => none
def fitK (k : Nat) (l : List AV) (ds : List D) : Bool := l.all (fun x => oneCs (cellsOf x)) && ds.all fun d => Nat.beq d.width k
theorem toDall_sat {β : Env} {w : World} {imm : Nat → Prop} {k : Nat} : ∀ {l : List AV} {ds : List D} {vs : List Value}, toDall l = some ds → fitK k l ds = true → AVsats M β w imm l vs →
    DenCs w imm ds (vs.flatMap fun v => v.cells.toList) ∧ AllW k ds ∧ (∀ v ∈ vs, v.cells.size = k) ∧ ds.length = vs.length
  | [], ds, vs, h, _, hs => by cases h; rw [hs]; exact ⟨rfl, fun d hd => by simp at hd, fun v hv => by simp at hv, rfl⟩
  | x :: r, ds, vs, h, h1, ⟨v, us, h2, h3, h4⟩ => by
    simp only [toDall] at h
    split at h
    · rename_i d ds' hd hds
      cases h
      simp only [fitK, List.all_cons, Bool.and_eq_true] at h1
      obtain ⟨⟨a1, a2⟩, b1, b2⟩ := h1
      have hw := Nat.eq_of_beq_eq_true b1
      obtain ⟨c1, c2, c3, c4⟩ := toDall_sat (k := k) (l := r) hds (by simp [fitK, a2, b2]) h4
      subst h2
      have hden := toD_sat hd a1 h3
      refine ⟨⟨_, _, by simp, hden, c1⟩, fun e he => ?_, fun u hu => ?_, by simp [c4]⟩
      · rcases List.mem_cons.1 he with h5 | h5
        · rw [h5]; exact hw
        · exact c2 e h5
      · rcases List.mem_cons.1 hu with h5 | h5
        · rw [h5, ← hw]; have := hden.len; simpa using this
        · exact c3 u h5
    · cases h

theorem flat_get {k : Nat} (hk : 0 < k) : ∀ (vs : List Value) (j : Nat), (∀ v ∈ vs, v.cells.size = k) → (vs.flatMap fun v => v.cells.toList)[j]? = (vs[j / k]?).bind fun v => v.cells[j % k]?
  | [], j, _ => by simp
  | v :: vs, j, h => by
    have hv : v.cells.size = k := h v (by simp)
    have ih := fun j => flat_get hk vs j fun u hu => h u (by simp [hu])
    rw [List.flatMap_cons]
    rcases Nat.lt_or_ge j k with hlt | hge
    · rw [List.getElem?_append_left (by simp [hv, hlt]), Nat.div_eq_of_lt hlt, Nat.mod_eq_of_lt hlt]
      simp
    · rw [List.getElem?_append_right (by simp [hv, hge])]
      rw [Array.length_toList, hv, ih]
      have e1 : j / k = (j - k) / k + 1 := by rw [Nat.div_eq j k, if_pos ⟨hk, hge⟩]
      have e2 : j % k = (j - k) % k := by rw [Nat.mod_eq_sub_mod hge]
      rw [e1, e2, List.getElem?_cons_succ]

/-- The cells of a slice that is written out. -/
theorem run_buildSlice (ht : TyTab P tab) {T e n : Nat} {ee : TE} (hT : elemOf_ tab T = some (e, ee)) (_ : ee.zero.length = ee.size) (hs : 0 < ee.size) {vs : List Value} (hv : ∀ v ∈ vs, v.cells.size = ee.size) (hn : vs.length = n)
    (hsmall : n * ee.size ≤ 2 ^ 24) (w : World) :
    ∃ cs : Array Value, (Instr.buildSlice T n ((vs.zipIdx 0).map fun x => (x.2, x.1)).toArray).run P w = .ok (.slice (some ⟨w.heap.size, 0, none⟩) n n) (w.alloc (.cells cs e)) ∧ cs.toList = vs.flatMap fun v => v.cells.toList := by
  obtain ⟨hu, he⟩ := elemOf_spec ht hT
  obtain ⟨z, hz1, hz2⟩ := run_zeroCells (P := P) (w := w) he
  have hlen : ∀ (vs : List Value), (∀ v ∈ vs, v.cells.size = ee.size) → (vs.flatMap fun v => v.cells.toList).length = vs.length * ee.size := by
    intro vs
    induction vs with
    | nil => intro _; simp
    | cons v vs ih => intro h; rw [List.flatMap_cons, List.length_append, ih fun u hu => h u (by simp [hu]), Array.length_toList, h v (by simp), List.length_cons, Nat.add_mul]; omega
  have key : ∀ cells : Array Value, cells.size = n * ee.size → ∃ cs : Array Value, Instr.fill (fun i => some (i * ee.size, ee.size)) cells ((vs.zipIdx 0).map fun x => (x.2, x.1)) = some cs ∧ cs.toList = vs.flatMap fun v => v.cells.toList := by
    intro cells hc
    obtain ⟨r, hr, hsz, hk⟩ := Go.Great.fill_dense hs vs 0 cells hv (by rw [hc, ← hn]; simp)
    refine ⟨r, hr, ?_⟩
    apply List.ext_getElem?
    intro j
    rw [flat_get hs vs j hv, Array.getElem?_toList, hk j]
    by_cases hj : j < n * ee.size
    · rw [if_pos ⟨by omega, by rw [Nat.zero_add, hn]; exact hj⟩]; simp
    · rw [if_neg (by rw [Nat.zero_add, hn]; omega)]
      rw [Array.getElem?_eq_none (by omega)]
      have : vs.length ≤ j / ee.size := by rw [hn]; exact (Nat.le_div_iff_mul_le hs).2 (by omega)
      rw [List.getElem?_eq_none this]
      rfl
  by_cases h0 : n * ee.size = 0
  · obtain ⟨cs, h1, h2⟩ := key #[] (by simp [h0])
    refine ⟨cs, ?_, h2⟩
    simp [Instr.buildSlice, run_underlying hu, run_sizeOf he, h0, h1, newRow, Array.range_zero']
  · obtain ⟨cs, h1, h2⟩ := key ((Array.range (n * ee.size)).map (z.cells[· % z.cells.size]!)) (by simp)
    refine ⟨cs, ?_, h2⟩
    have hb : ¬ (n * ee.size > 2 ^ 24) := by omega
    simp only [Instr.buildSlice, Sem.run_bind, run_underlying hu, Result.andThen_ok, run_sizeOf he, hb, if_false, h0, Sem.run_pure, hz1, h1, newRow]
    simp

theorem map_sat {β : Env} {w : World} {imm : Nat → Prop} {a : Act} : ∀ {l : List Operand}, (∀ x ∈ l, AVsat M β w imm (ρ x) (a.eval x)) → AVsats M β w imm (l.map ρ) (l.map a.eval)
  | [], _ => rfl
  | x :: r, h => ⟨a.eval x, r.map a.eval, rfl, h x (by simp), map_sat fun y hy => h y (by simp [hy])⟩

/-- The parts of a slice that is written out, in order. -/
def partsOf (parts : Array (Nat × Operand)) : List Operand := parts.toList.map (·.2)
def inOrder : List (Nat × Operand) → Nat → Bool
  | [], _ => true
  | (i, _) :: r, n => Nat.beq i n && inOrder r (n + 1)
theorem inOrder_zip {a : Act} : ∀ {l : List (Nat × Operand)} {n : Nat}, inOrder l n = true → l.map (fun x => (x.1, a.eval x.2)) = (((l.map (·.2)).map a.eval).zipIdx n).map fun x => (x.2, x.1)
  | [], _, _ => rfl
  | (i, x) :: r, n, h => by
    simp only [inOrder, Bool.and_eq_true] at h
    have := Nat.eq_of_beq_eq_true h.1
    subst this
    simp only [List.map_cons, List.zipIdx_cons]
    rw [inOrder_zip h.2]
theorem mem_parts {parts : Array (Nat × Operand)} {x : Operand} {T n : Nat} (ho : o.op = .buildSlice T n parts) (hx : x ∈ partsOf parts) : x ∈ o.op.operands := by
  rw [ho]
  simp only [Op.operands, List.mem_toArray]
  exact hx

/-- A slice that is written out: data. -/
theorem astep_buildSlice (ht : TyTab P tab) {T n e : Nat} {ee : TE} {parts : Array (Nat × Operand)} {ds : List D} (ho : o.op = .buildSlice T n parts) (hT : elemOf_ tab T = some (e, ee))
    (hok : (Nat.blt 0 ee.size && Nat.beq ee.zero.length ee.size && Nat.beq (partsOf parts).length n && Nat.ble (n * ee.size) 16777216 && inOrder parts.toList 0) = true)
    (hd : toDall ((partsOf parts).map ρ) = some ds) (hf : fitK ee.size ((partsOf parts).map ρ) ds = true) : AStep P o M ρ M (.sl ee.size ds) :=
  .grows fun S B β a w hm hs => by
    simp only [Bool.and_eq_true, Nat.blt_eq] at hok
    obtain ⟨⟨⟨⟨o1, o2⟩, o3⟩, o4⟩, o5⟩ := hok
    have hsats := map_sat fun x hx => hs x (mem_parts ho hx)
    obtain ⟨c1, c2, c3, c4⟩ := toDall_sat hd hf hsats
    obtain ⟨cs, h1, h2⟩ := run_buildSlice ht hT (Nat.eq_of_beq_eq_true o2) o1 (vs := (partsOf parts).map a.eval) (n := n) c3 (by rw [List.length_map]; exact Nat.eq_of_beq_eq_true o3) (by have := Nat.le_of_ble_eq_true o4; omega) w
    have hb : Below w.heap.size w (w.alloc (.cells cs e)) := (Below.refl _ _).alloc (Nat.le_refl _) _
    have hlen : ds.length = n := by rw [c4, List.length_map]; exact Nat.eq_of_beq_eq_true o3
    refine ⟨_, _, ?_, hb, fun hE => ⟨some ⟨w.heap.size, 0, none⟩, n, n, rfl, hlen.symm, Nat.le_refl _, ?_, c2, fun hn => ⟨w.heap.size, 0, _, rfl, ⟨.inr hm.lo, by simp, fun hl => ?_⟩,
      DenCs.mono (fun _ => immOf.ev hE) (fun _ off => immOf.cell hE off) _ _ c1, fun j u hj => ?_⟩⟩⟩
    · simp only [execOp, ho, Sem.run_bind]
      have e : parts.map (fun x => (x.1, a.eval x.2)) = ((((partsOf parts).map a.eval).zipIdx 0).map fun x => (x.2, x.1)).toArray := by
        unfold partsOf
        rw [← inOrder_zip o5]
        exact Array.toList_inj.1 (Array.toList_map ..)
      rw [e, h1]
      rfl
    · have := Nat.le_of_ble_eq_true o4
      have h3 : n ≤ n * ee.size := Nat.le_mul_of_pos_right n o1
      simp only [maxLen]; omega
    · have := hm.lt hl; omega
    · rw [Nat.zero_add, World.cell?_alloc_new]
      rw [← h2] at hj
      simpa using hj
/-- A slice that is written out: an own row. -/
theorem astep_buildRow (ht : TyTab P tab) {T n e : Nat} {ee : TE} {parts : Array (Nat × Operand)} {ds : List D} (ho : o.op = .buildSlice T n parts) (hT : elemOf_ tab T = some (e, ee))
    (hok : (Nat.blt 0 ee.size && Nat.beq ee.zero.length ee.size && Nat.beq (partsOf parts).length n && Nat.ble (n * ee.size) 16777216 && inOrder parts.toList 0) = true)
    (hd : toDall ((partsOf parts).map ρ) = some ds) (hf : fitK ee.size ((partsOf parts).map ρ) ds = true) : AStep P o M ρ (M ++ [.row 0 e ee.size ds]) (.row M.length 0) := by
  intro S B β a w hm hs K Q hK
  simp only [Bool.and_eq_true, Nat.blt_eq] at hok
  obtain ⟨⟨⟨⟨o1, o2⟩, o3⟩, o4⟩, o5⟩ := hok
  have hsats := map_sat fun x hx => hs x (mem_parts ho hx)
  obtain ⟨c1, c2, c3, c4⟩ := toDall_sat hd hf hsats
  obtain ⟨cs, h1, h2⟩ := run_buildSlice ht hT (Nat.eq_of_beq_eq_true o2) o1 (vs := (partsOf parts).map a.eval) (n := n) c3 (by rw [List.length_map]; exact Nat.eq_of_beq_eq_true o3) (by have := Nat.le_of_ble_eq_true o4; omega) w
  have hb : Below w.heap.size w (w.alloc (.cells cs e)) := (Below.refl _ _).alloc (Nat.le_refl _) _
  have hlen : ds.length = n := by rw [c4, List.length_map]; exact Nat.eq_of_beq_eq_true o3
  have hrun : (execOp a.eval o).run P w = .ok (.value (.slice (some ⟨w.heap.size, 0, none⟩) n n)) (w.alloc (.cells cs e)) := by
    simp only [execOp, ho, Sem.run_bind]
    have e : parts.map (fun x => (x.1, a.eval x.2)) = ((((partsOf parts).map a.eval).zipIdx 0).map fun x => (x.2, x.1)).toArray := by
      unfold partsOf
      rw [← inOrder_zip o5]
      exact Array.toList_inj.1 (Array.toList_map ..)
    rw [e, h1]
    rfl
  have hcl : cs.toList.length = n * ee.size := by rw [h2]; have := c1.len; rw [this, widths_allW c2, hlen]
  have hn : n ≤ maxLen := by
    have := Nat.le_of_ble_eq_true o4
    have h3 : n ≤ n * ee.size := Nat.le_mul_of_pos_right n o1
    simp only [maxLen]; omega
  obtain ⟨e1, e2⟩ := hm.push (ab := .row 0 e ee.size ds) (x := some (w.heap.size, n)) hb (fun g c h => by cases h; exact Nat.le_refl _)
    (fun hE => ⟨c2, .inr ⟨w.heap.size, n, cs, rfl, .of0 (heap_alloc_new w _), by omega, hn, by simpa using hcl, by
      rw [hlen, List.take_of_length_le (by omega), h2]
      exact DenCs.mono (fun _ => immOf.ev hE) (fun _ off => immOf.cell hE off) _ _ c1⟩⟩)
  unfold Oper.wp
  rw [hrun]
  exact hK _ _ _ e1 e2 ⟨.row 0 e ee.size ds, by simp, Nat.le_refl _, fun _ => by simp [rowVal, hlen]⟩

/-- Calls. -/
def Callable (P : Program) (f : FuncId) : Prop := ∀ args w, (callFunc f args).run P w = .ok (.enter f args) w
theorem callable_of {f : FuncId} {fn : Func} {c : Code} (hf : P.funcs[f]? = some fn) (hb : fn.body = some c) (hn : (fn.name == "runtime.NumGoroutine") = false) : Callable P f := by
  intro args w
  have hn' : ¬ fn.name = "runtime.NumGoroutine" := by simpa using hn
  simp [callFunc, hf, hb, hn']
theorem run_call {f : FuncId} (hc : Callable P f) {xs : Array Operand} {ts : Array TypeId} (ho : o.op = .call { callee := .value (.func f), args := xs, argTypes := ts }) (a : Act) (w : World) :
    (execOp a.eval o).run P w = .ok (.enter f (xs.map a.eval)) w := by
  have h1 := hc (xs.map a.eval) w
  simp [execOp, ho, resolve, Deferred.ofValue, Act.eval, invoke, h1]

def Subs : List AV → List AV → Prop
  | [], [] => True
  | x :: xs, y :: ys => Sub x y ∧ Subs xs ys
  | _, _ => False
theorem Subs.sat {β : Env} {w : World} {imm : Nat → Prop} : ∀ {xs ys : List AV} {vs : List Value}, Subs xs ys → AVsats M β w imm xs vs → AVsats M β w imm ys vs
  | [], [], _, _, h => h
  | _ :: _, _ :: _, _, ⟨h1, h2⟩, ⟨v, r, h3, h4, h5⟩ => ⟨v, r, h3, h1 _ _ _ _ _ h4, Subs.sat h2 h5⟩
  | [], _ :: _, _, h, _ => h.elim
  | _ :: _, [], _, h, _ => h.elim
theorem mem_call {c : Call} {x : Operand} (ho : o.op = .call c) (hx : x ∈ c.args.toList) : x ∈ o.op.operands := by
  rw [ho]
  simp only [Op.operands, Call.operands]
  cases c.callee <;> simp_all

theorem fresh_imm {S : Nat → Prop} {B : Nat} {β : Env} {w w' : World} (hm : MemSat S B M β w) (hb : Below w.heap.size w w') {b : Nat} (h : fresh (immOf S B M β w) w w' b) : immOf S B M β w' b := by
  rcases h with h | ⟨h1, h2⟩
  · exact immOf.ev (Ev.of_below hb) h
  · exact ⟨.inr (Nat.le_trans hm.lo h1), h2, fun hl => by have := hm.lt hl; omega⟩

theorem astep_call {f : FuncId} {xs : Array Operand} {ts : Array TypeId} {cargs : List AV} {res : AV} (ho : o.op = .call { callee := .value (.func f), args := xs, argTypes := ts }) (hcall : Callable P f) (hc : PCalls P f cargs res)
    (hargs : Subs (xs.toList.map ρ) cargs) (hfa : AV.frees cargs = true) (hfr : res.free = true) : AStep P o M ρ M res := by
  intro S B β a w hm hs K Q hK
  unfold Oper.wp
  rw [run_call hcall ho]
  have h1 := map_sat (l := xs.toList) fun x hx => hs x (mem_call ho hx)
  have h2 := hargs.sat h1
  have h3 : AVsats [] noE w (immOf S B M β w) cargs (xs.toList.map a.eval) := AVsats.free_ (fun _ h => h) (fun _ _ _ => rfl) _ _ hfa h2
  refine (hc (immOf S B M β w) w (xs.map a.eval) (fun b hb => hb.2.1) (by simpa using h3)).mono ?_
  rintro e w' ⟨v, rfl, hb, hv⟩
  exact hK v β w' (Ev.of_below hb) (hm.quiet hb) (AVsat.free_ (fun b hb' => fresh_imm hm hb hb') (fun _ _ _ => rfl) _ _ hfr hv)
end

end Go.Proofs.Ytklodolkgdmhoaa

/- The engine, part 10: append, cuts, strings' own operations, tuples, conversions. -/
namespace Go.Proofs.Ytklodolkgdmhoaa
open Go Go.RowKit

section
variable {P : Program} {o : Oper} {M M' : List AB} {ρ : Operand → AV} {out : AV} {tab : List (Nat × TE)}

/-- A slice that is data, as append reads it. -/
theorem src_of {w : World} {imm : Nat → Prop} {k : Nat} {xs : List D} {v : Value} (h : DenC w imm (.sl k xs) [v]) :
    ∃ A n c rows, v = .slice A n c ∧ n = xs.length ∧ AllW k xs ∧ DenCs w imm xs rows ∧ rows.length = n * k ∧ (0 < n → ∃ ad, A = some ad) ∧ ∀ ad, A = some ad → ∀ (j : Nat) (u : Value), rows[j]? = some u → w.cell? (ad.add j) = some u := by
  obtain ⟨A, n, c, h1, h2, _, _, h5, h6⟩ := h
  simp at h1
  rcases Nat.eq_zero_or_pos n with h0 | h0
  · have : xs = [] := List.eq_nil_of_length_eq_zero (by omega)
    subst this
    exact ⟨A, n, c, [], h1, h2, h5, rfl, by simp [h0], fun h => by omega, fun ad _ j u hj => by simp at hj⟩
  · obtain ⟨g, off, rows, h7, _, h9, h10⟩ := h6 h0
    refine ⟨A, n, c, rows, h1, h2, h5, h9, by rw [h9.len, widths_allW h5, h2], fun _ => ⟨_, h7⟩, fun ad had j u hj => ?_⟩
    rw [h7] at had
    cases had
    rw [addr_add]
    exact h10 j u hj

/-- A row that is owned: none of its cells is frozen. -/
def ownsC (w : World) (e : TypeId) (k q : Nat) (v : Value) (n : Nat) (xs : List Value) : Prop :=
  xs.length = n * k ∧ ((v = .slice none 0 0 ∧ n = 0) ∨ ∃ g cap cur, v = .slice (some ⟨g, 0, none⟩) n cap ∧ rowAt w g cur e q (n * k) ∧ n ≤ cap ∧ cap ≤ maxLen ∧ cur.size = cap * k ∧ cur.toList.take (n * k) = xs)
theorem ownsC.cells {w : World} {e k q n : Nat} {v : Value} {xs : List Value} (h : ownsC w e k q v n xs) {g : Nat} (hg : v.ownBlock = some g) : ∀ j u, xs[j]? = some u → w.cell? ((⟨g, 0, none⟩ : Addr).add j) = some u := by
  intro j u hu
  rcases h.2 with ⟨rfl, _⟩ | ⟨g', cap, cur, rfl, hgg, _, _, _, htake⟩
  · simp [Value.ownBlock] at hg
  · simp [Value.ownBlock] at hg
    subst hg
    rw [addr_add, Nat.zero_add, hgg.cell]
    rw [← htake, List.getElem?_take] at hu
    split at hu
    · simpa using hu
    · cases hu
theorem run_append_nil_src {w : World} (t ty e : TypeId) (i : TypeInfo) (size : Nat) (ht : P.underlying t = some (.slice e)) (hi : P.info? e = some i)
    (v : Value) (n : Nat) (xs : List Value) {q : Nat} (hown : ownsC w e size q v n xs) (c : Nat) : (Builtin.append_ #[t, t] ty #[v, .slice none 0 c]).run P w = .ok v w := by
  rcases hown.2 with ⟨rfl, rfl⟩ | ⟨g, cap, cur, rfl, _, hnc, _⟩
  · simp [Builtin.append_, run_underlying ht, sizeOf, typeInfo, hi, Builtin.lenOf, Builtin.firstCells]
  · simp [Builtin.append_, run_underlying ht, sizeOf, typeInfo, hi, Builtin.lenOf, Builtin.firstCells, hnc, storeCells]
/-- Cells stored into a row none of whose cells is frozen. -/
theorem run_storeCells_c (P : Program) (g o : Nat) (t : TypeId) (fz : Nat × Nat) : ∀ (vs : List Value) (i : Nat) (cur : Array Value) (w : World), w.heap[g]? = some (.cells cur t fz) → (∀ j, o + i ≤ j → j < cur.size → (decide (fz.1 ≤ j) && decide (j < fz.2)) = false) → o + i + vs.length ≤ cur.size → (∀ v ∈ vs, v.oneCell' = true) →
    (storeCells ⟨g, o, none⟩ vs i).run P w = .ok () (w.setRow g (cur.toList.take (o + i) ++ vs ++ cur.toList.drop (o + i + vs.length)).toArray)
  | [], i, cur, w, hg, _, _, _ => by
    simp only [storeCells, List.append_nil, List.length_nil, Nat.add_zero, List.take_append_drop, Array.toArray_toList]
    rw [setRow_self w g cur t fz hg]
    rfl
  | v :: rest, i, cur, w, hg, hfz, hl, h1 => by
    have hi : o + i < cur.size := by simp at hl; omega
    have hcell : w.cell? ⟨g, o + i, none⟩ = some cur[o + i] := by simp [World.cell?, hg, hi]
    have hfro : w.frozen? ⟨g, o + i, none⟩ = false := by
      have := hfz _ (Nat.le_refl _) hi
      simpa [World.frozen?, hg] using this
    have hst : (store ((⟨g, o, none⟩ : Addr).add i) v).run P w = .ok () (w.setRow g (cur.setIfInBounds (o + i) v)) := by
      rw [addr_add, run_store P w _ v _ (h1 v (by simp)), hcell]
      simp [hfro, setCell_eq_setRow w g (o + i) cur t fz v hg]
    have ih := run_storeCells_c P g o t fz rest (i + 1) (cur.setIfInBounds (o + i) v) (w.setRow g (cur.setIfInBounds (o + i) v)) (setRow_heap w g cur _ t _ hg) (fun j h1 h2 => hfz j (by omega) (by simpa using h2)) (by simp at hl ⊢; omega) (fun x hx => h1 x (by simp [hx]))
    simp only [storeCells, Sem.run_bind, hst, Result.andThen_ok, ih, setRow_setRow]
    congr 3
    have e := list_seg_step cur.toList (o + i) v rest (by simp at hl ⊢; omega)
    simpa [Array.toList_setIfInBounds, Nat.add_assoc] using e
/-- append onto an own row. -/
theorem run_append_c {w : World} (t ty e : TypeId) (i : TypeInfo) (z : Value) (size bytes : Nat) (ht : P.underlying t = some (.slice e)) (hi : P.info? e = some i) (hz : i.zero = some z)
    (hsize : i.size = size) (hby : i.bytes = bytes) (hzs : z.cells.size = size) (hsz : 0 < size)
    (v : Value) (n : Nat) (xs : List Value) {q : Nat} (hown : ownsC w e size q v n xs)
    (a : Addr) (m c : Nat) (news : List Value) (hl : news.length = m * size) (hnews : ∀ j u, news[j]? = some u → w.cell? (a.add j) = some u) (h1 : ∀ u ∈ news, u.oneCell' = true)
    (h63 : n + m ≤ maxLen) (hbytes : (n + m) * bytes ≤ 140737488355328) :
    ∃ v' w', (Builtin.append_ #[t, t] ty #[v, .slice (some a) m c]).run P w = .ok v' w' ∧ ownsC w' e size q v' (n + m) (xs ++ news) ∧ w.grownBy w' v.ownBlock ∧ (v'.ownBlock = v.ownBlock ∨ v'.ownBlock = some w.heap.size) := by
  subst hsize
  subst hby
  have hsmall : n + m ≤ 9223372036854775807 := by simp only [maxLen] at h63; omega
  have hlen : (xs ++ news).length = (n + m) * i.size := by rw [List.length_append, hown.1, hl, Nat.add_mul]
  have grown : ∀ (old : Nat), old < n + m → ∀ (row : Option Nat),
      ownsC (w.drew.alloc (.cells (xs.toArray ++ news.toArray ++ Builtin.zeroCells z.cells (grownCap w (n + m) old e - (n + m))) e)) e i.size q
        (.slice (some ⟨w.heap.size, 0, none⟩) (n + m) (grownCap w (n + m) old e)) (n + m) (xs ++ news) ∧
      w.grownBy (w.drew.alloc (.cells (xs.toArray ++ news.toArray ++ Builtin.zeroCells z.cells (grownCap w (n + m) old e - (n + m))) e)) row := by
    intro old ho row
    have hge := grownCap_ge w (n + m) old e
    have hcm : grownCap w (n + m) old e ≤ maxLen := grownCap_le_maxLen w (n + m) old e h63
    refine ⟨⟨hlen, .inr ⟨w.heap.size, _, _, rfl, .of0 (heap_alloc_new w.drew _), hge, hcm, ?_, ?_⟩⟩, ⟨rfl, rfl, rfl, by simp, fun k hk _ => heap_alloc_old w.drew _ hk⟩⟩
    · simp only [Array.size_append, List.size_toArray, size_zeroCells, hzs, hown.1, hl, ← Nat.add_mul]
      congr 1
      omega
    · simp only [Array.toList_append, List.append_assoc]
      rw [← List.append_assoc, ← hlen]
      exact List.take_left
  rcases hown.2 with ⟨rfl, rfl⟩ | ⟨g, cap, cur, rfl, hg, hnc, hcm, hcs, htake⟩
  · have hx : xs = [] := List.eq_nil_of_length_eq_zero (by simpa using hown.1)
    subst hx
    by_cases hm : m = 0
    · subst hm
      have hn : news = [] := List.eq_nil_of_length_eq_zero (by simpa using hl)
      subst hn
      refine ⟨.slice none 0 0, w, ?_, ⟨by simp, .inl ⟨rfl, rfl⟩⟩, ⟨rfl, rfl, rfl, Nat.le_refl _, fun _ _ _ => rfl⟩, Or.inl rfl⟩
      simp [Builtin.append_, run_underlying ht, sizeOf, typeInfo, hi, Builtin.lenOf, Builtin.firstCells, loadCells, loadCellsFrom]
    · have hr := run_append_nil (P := P) w t ty e i z ht hi hz a m c news hl hnews (by omega) (by omega) (by have hb := hbytes; simp only [Nat.zero_add] at hb; omega)
      have hgr := grown 0 (by omega) (Value.ownBlock (.slice none 0 0))
      simp only [Nat.zero_add, List.nil_append, Array.empty_append] at hgr ⊢
      exact ⟨_, _, hr, hgr.1, hgr.2, Or.inr rfl⟩
  · by_cases hroom : n + m ≤ cap
    · have hfit : n * i.size + news.length ≤ cur.size := by rw [hl, hcs, ← Nat.add_mul]; exact Nat.mul_le_mul_right _ hroom
      obtain ⟨fz, hg1, hg2⟩ := hg
      have hf := run_firstCells_some (P := P) w i.size m a m c news hl hnews
      have hst := run_storeCells_c P g (n * i.size) e fz news 0 cur w hg1 (fun j h1 h2 => hg2.from_ j h1 h2) (by simpa using hfit) h1
      simp only [Nat.add_zero] at hst
      refine ⟨.slice (some ⟨g, 0, none⟩) (n + m) cap, w.setRow g (cur.toList.take (n * i.size) ++ news ++ cur.toList.drop (n * i.size + news.length)).toArray, ?_, ⟨hlen, .inr ⟨g, cap, _, rfl, ⟨fz, setRow_heap w g cur _ e _ hg1, ?_⟩, hroom, hcm, ?_, ?_⟩⟩, ⟨rfl, rfl, rfl, by simp, fun k _ hk => setRow_other w g k _ (fun e => hk (by simp [Value.ownBlock, e]))⟩, Or.inl rfl⟩
      · simp [Builtin.append_, run_underlying ht, sizeOf, typeInfo, hi, Builtin.lenOf, hroom, hf, Addr.add_lit, hst]
      · refine hg2.mono rfl (Nat.mul_le_mul_right _ (Nat.le_add_right _ _)) ?_
        simp only [List.size_toArray, List.length_append, List.length_take, List.length_drop, Array.length_toList]
        omega
      · simp only [List.size_toArray, List.length_append, List.length_take, List.length_drop, Array.length_toList]
        omega
      · rw [htake, ← hlen]
        exact List.take_left
    · have holds : ∀ j u, xs[j]? = some u → w.cell? ((⟨g, 0, none⟩ : Addr).add j) = some u := hown.cells (g := g) rfl
      have hr := run_append_grow (P := P) w t ty e i z ht hi hz ⟨g, 0, none⟩ n cap xs hown.1 holds a m c news hl hnews (by omega) (by omega) (growslice_fits (by omega) hbytes)
      have hgr := grown cap (by omega) (Value.ownBlock (.slice (some ⟨g, 0, none⟩) n cap))
      exact ⟨_, _, hr, hgr.1, hgr.2, Or.inr rfl⟩

/-- append onto an own row, whatever the source is. -/
theorem run_append_src (ht : TyTab P tab) {T e : Nat} {ee : TE} (hT : elemOf_ tab T = some (e, ee)) (hok : (Nat.blt 0 ee.size && Nat.beq ee.zero.length ee.size && Nat.blt 0 ee.bytes) = true) (ty : TypeId) {w : World}
    {v : Value} {n : Nat} {xs : List Value} {q : Nat} (hown : ownsC w e ee.size q v n xs) {A : Option Addr} {m c : Nat} {rows : List Value} (hl : rows.length = m * ee.size) (hA : 0 < m → ∃ ad, A = some ad)
    (hr : ∀ ad, A = some ad → ∀ (j : Nat) (u : Value), rows[j]? = some u → w.cell? (ad.add j) = some u) (h1 : ∀ u ∈ rows, u.oneCell' = true) (hb : (n + m) * ee.bytes ≤ 140737488355328) :
    ∃ v' w', (Builtin.append_ #[T, T] ty #[v, .slice A m c]).run P w = .ok v' w' ∧ ownsC w' e ee.size q v' (n + m) (xs ++ rows) ∧ w.grownBy w' v.ownBlock ∧ (v'.ownBlock = v.ownBlock ∨ v'.ownBlock = some w.heap.size) := by
  simp only [Bool.and_eq_true, Nat.blt_eq] at hok
  obtain ⟨⟨o1, o2⟩, o3⟩ := hok
  obtain ⟨hu, he⟩ := elemOf_spec ht hT
  obtain ⟨d, i, z, _, _, hi, hs, hby, hz, hzc⟩ := teOf_spec he
  have hle : n + m ≤ maxLen := by
    have : n + m ≤ (n + m) * ee.bytes := Nat.le_mul_of_pos_right _ o3
    simp only [maxLen]; omega
  have hzs : z.cells.size = ee.size := by rw [← Array.length_toList, hzc]; exact Nat.eq_of_beq_eq_true o2
  rcases A with _ | ad
  · have hm : m = 0 := by
      rcases Nat.eq_zero_or_pos m with h0 | h0
      · exact h0
      · obtain ⟨ad, h⟩ := hA h0; cases h
    subst hm
    have hn : rows = [] := List.eq_nil_of_length_eq_zero (by simpa using hl)
    subst hn
    exact ⟨v, w, run_append_nil_src T ty e i ee.size hu hi v n xs hown c, by simpa using hown, World.grownBy.refl w _, .inl rfl⟩
  · obtain ⟨v', w', hrun, h2, h3, h5⟩ := run_append_c (P := P) T ty e i z ee.size ee.bytes hu hi hz hs hby hzs o1 v n xs hown ad m c rows hl (hr ad rfl) h1 hle hb
    exact ⟨v', w', hrun, h2, h3, h5⟩

/-- An entry of own memory out of an owned row, and back. -/
def envOf : Value → Option (Nat × Nat)
  | .slice (some a) _ c => some (a.block, c)
  | _ => none
theorem ent_of_owns {M : List AB} {β : Env} {w : World} {imm : Nat → Prop} {e k q n ver : Nat} {v : Value} {xs : List Value} {es : List D} (hk : 0 < k) (h : ownsC w e k q v n xs) (hq : sealed ver = sealed q) (hn : n = es.length) (hw : AllW k es) (hd : DenCs w imm es xs) :
    EntSat M β w imm (envOf v) (.row ver e k es) ∧ v = rowVal (envOf v) es.length ∧ (envOf v).map (·.1) = v.ownBlock := by
  obtain ⟨h1, h2⟩ := h
  rcases h2 with ⟨rfl, rfl⟩ | ⟨g, cap, cur, rfl, hg, hnc, hcm, hcs, htake⟩
  · have h0 : es = [] := by
      have := hd.len
      rw [widths_allW hw] at this
      refine List.eq_nil_of_length_eq_zero ?_
      rcases Nat.eq_zero_or_pos es.length with h | h
      · exact h
      · have := Nat.mul_pos h hk
        simp at *
        omega
    subst h0
    exact ⟨⟨hw, .inl ⟨rfl, rfl⟩⟩, rfl, rfl⟩
  · refine ⟨⟨hw, .inr ⟨g, cap, cur, rfl, hg.mono hq (by rw [hn]; exact Nat.le_refl _), by omega, hcm, hcs, ?_⟩⟩, by simp [envOf, rowVal, hn], rfl⟩
    rw [← hn, ← h1]
    rw [h1, htake]
    exact hd
theorem owns_of_ent {M : List AB} {β : Env} {w : World} {imm : Nat → Prop} {b : Option (Nat × Nat)} {ver e k : Nat} {es : List D} (h : EntSat M β w imm b (.row ver e k es)) :
    ∃ xs, ownsC w e k ver (rowVal b es.length) es.length xs ∧ DenCs w imm es xs ∧ (rowVal b es.length).ownBlock = b.map (·.1) := by
  obtain ⟨hw, ⟨rfl, rfl⟩ | ⟨g, cap, cs, rfl, h1, h2, h3, h4, h5⟩⟩ := h
  · exact ⟨[], ⟨by simp, .inl ⟨rfl, rfl⟩⟩, rfl, rfl⟩
  · have hl := h5.len
    rw [widths_allW hw] at hl
    exact ⟨_, ⟨hl, .inr ⟨g, cap, cs, rfl, h1, h2, h3, h4, rfl⟩⟩, h5, rfl⟩

theorem astep_append (ht : TyTab P tab) {T e : Nat} {ee : TE} {x y : Operand} {i ver : Nat} {es xs : List D} (ho : o.op = .call { callee := .builtin .append, args := #[x, y], argTypes := #[T, T] }) (hT : elemOf_ tab T = some (e, ee))
    (hok : (Nat.blt 0 ee.size && Nat.beq ee.zero.length ee.size && Nat.blt 0 ee.bytes) = true) (hx : ρ x = .row i ver) (hM : M[i]? = some (.row ver e ee.size es)) (hy : ρ y = .sl ee.size xs) (hb : (es.length + xs.length) * ee.bytes ≤ 140737488355328) :
    AStep P o M ρ (M.set i (.row (ver + 2) e ee.size (es ++ xs))) (.row i (ver + 2)) := by
  intro S B β a w hm hs K Q hK
  have hlt : i < M.length := (List.getElem?_eq_some_iff.1 hM).1
  have h1 := hs x (by simp [ho, Op.operands, Call.operands])
  have h2 := hs y (by simp [ho, Op.operands, Call.operands])
  rw [hx] at h1; rw [hy] at h2
  obtain ⟨h3, h4⟩ := row_val hm hM h1
  obtain ⟨A, m, c, rows, s1, s2, s3, s4, s5, s6, s7⟩ := src_of h2
  obtain ⟨xs0, w1, w2, w3⟩ := owns_of_ent (hm.ent i _ hM)
  rw [← h3] at w1 w3
  have hsz : 0 < ee.size := by simp only [Bool.and_eq_true, Nat.blt_eq] at hok; exact hok.1.1
  obtain ⟨v', w', r1, r2, r3, r4⟩ := run_append_src (P := P) (c := c) ht hT hok o.type w1 s5 s6 s7 (s4.one) (by rw [s2]; exact hb)
  have hrun : (execOp a.eval o).run P w = .ok (.value v') w' := by
    simp [execOp, ho, resolve, invoke, builtin, s1, r1]
  unfold Oper.wp
  rw [hrun]
  have hWes := (hm.ent i _ hM).1
  have hWall : AllW ee.size (es ++ xs) := fun d hd => by
    rcases List.mem_append.1 hd with h | h
    · exact hWes d h
    · exact s3 d h
  have hfit : ∀ (M1 : List AB) (β1 : Env) (imm1 : Nat → Prop), DenCs w' imm1 (es ++ xs) (xs0 ++ rows) → EntSat M1 β1 w' imm1 (envOf v') (.row (ver + 2) e ee.size (es ++ xs)) ∧ v' = rowVal (envOf v') (es ++ xs).length ∧ (envOf v').map (·.1) = v'.ownBlock :=
    fun M1 β1 imm1 hd => ent_of_owns hsz r2 rfl (by rw [List.length_append, s2]) hWall hd
  have hblk : ∀ g c, envOf v' = some (g, c) → v'.ownBlock = some g := by
    intro g c h
    rcases r2.2 with ⟨rfl, _⟩ | ⟨g', cap, cur, rfl, _⟩
    · cases h
    · simp [envOf] at h
      rw [← h.1]; rfl
  have := hm.set_ (w' := w') (ab' := .row (ver + 2) e ee.size (es ++ xs)) (x := envOf v') hM rfl r3.os r3.tape r3.output r3.size
    (fun b hb hne => r3.block b hb (fun e' => by
      rw [w3] at e'
      cases hβ : β i with
      | none => rw [hβ] at e'; cases e'
      | some gc => rw [hβ] at e'; cases e'; exact hne gc.2 hβ))
    (fun g c h => by
      have h5 := hblk g c h
      rcases r4 with r4 | r4
      · rw [r4, w3] at h5
        cases hβ : β i with
        | none => rw [hβ] at h5; cases h5
        | some gc => rw [hβ] at h5; cases h5; exact .inl ⟨gc.2, rfl⟩
      · rw [r4] at h5; cases h5; exact .inr (Nat.le_refl _))
    ⟨by omega, rfl, fun h => by omega⟩
    (fun hE => (hfit _ _ _ ((DenCs.mono (fun _ => immOf.ev hE) (fun _ off => immOf.cell hE off) _ _ w2).append (DenCs.mono (fun _ => immOf.ev hE) (fun _ off => immOf.cell hE off) _ _ s4))).1)
  refine hK v' _ w' this.1 this.2 ⟨.row (ver + 2) e ee.size (es ++ xs), by rw [List.getElem?_set_self hlt], Nat.le_refl _, fun _ => ?_⟩
  rw [setE_same]
  exact (hfit M β (immOf S B (M.set i (.row (ver + 2) e ee.size (es ++ xs))) (setE β i (envOf v')) w')
    ((DenCs.mono (fun _ => immOf.ev this.1) (fun _ off => immOf.cell this.1 off) _ _ w2).append (DenCs.mono (fun _ => immOf.ev this.1) (fun _ off => immOf.cell this.1 off) _ _ s4))).2.1

/-- append onto nil: a row of its own. -/
theorem astep_append_nil (ht : TyTab P tab) {T e : Nat} {ee : TE} {x y : Operand} {xs : List D} (ho : o.op = .call { callee := .builtin .append, args := #[x, y], argTypes := #[T, T] }) (hT : elemOf_ tab T = some (e, ee))
    (hok : (Nat.blt 0 ee.size && Nat.beq ee.zero.length ee.size && Nat.blt 0 ee.bytes) = true) (hx : ρ x = .val (.slice none 0 0)) (hy : ρ y = .sl ee.size xs) (hb : xs.length * ee.bytes ≤ 140737488355328) :
    AStep P o M ρ (M ++ [.row 0 e ee.size xs]) (.row M.length 0) := by
  intro S B β a w hm hs K Q hK
  have h1 := hs x (by simp [ho, Op.operands, Call.operands])
  have h2 := hs y (by simp [ho, Op.operands, Call.operands])
  rw [hx] at h1; rw [hy] at h2
  have h1 : a.eval x = .slice none 0 0 := h1
  obtain ⟨A, m, c, rows, s1, s2, s3, s4, s5, s6, s7⟩ := src_of h2
  have hsz : 0 < ee.size := by simp only [Bool.and_eq_true, Nat.blt_eq] at hok; exact hok.1.1
  have w1 : ownsC w e ee.size 0 (.slice none 0 0) 0 [] := ⟨by simp, .inl ⟨rfl, rfl⟩⟩
  obtain ⟨v', w', r1, r2, r3, r4⟩ := run_append_src (P := P) (c := c) ht hT hok o.type w1 s5 s6 s7 (s4.one) (by rw [s2]; simpa using hb)
  have hrun : (execOp a.eval o).run P w = .ok (.value v') w' := by
    simp [execOp, ho, resolve, invoke, builtin, h1, s1, r1]
  unfold Oper.wp
  rw [hrun]
  have hbel : Below w.heap.size w w' := ⟨r3.os, r3.tape, r3.output, r3.size, fun k hk => r3.block k hk (by simp [Value.ownBlock])⟩
  rw [List.nil_append, Nat.zero_add] at r2
  have hfit : ∀ (M1 : List AB) (β1 : Env) (imm1 : Nat → Prop), DenCs w' imm1 xs rows → EntSat M1 β1 w' imm1 (envOf v') (.row 0 e ee.size xs) ∧ v' = rowVal (envOf v') xs.length ∧ (envOf v').map (·.1) = v'.ownBlock :=
    fun M1 β1 imm1 hd => ent_of_owns hsz r2 rfl s2 s3 hd
  have hblk : ∀ g c, envOf v' = some (g, c) → w.heap.size ≤ g := by
    intro g c h
    rcases r2.2 with ⟨rfl, _⟩ | ⟨g', cap, cur, rfl, _⟩
    · cases h
    · simp [envOf] at h
      rcases r4 with r4 | r4
      · simp [Value.ownBlock] at r4
      · simp [Value.ownBlock] at r4; omega
  obtain ⟨e1, e2⟩ := hm.push (ab := .row 0 e ee.size xs) (x := envOf v') hbel hblk
    (fun hE => (hfit _ _ _ (DenCs.mono (fun _ => immOf.ev hE) (fun _ off => immOf.cell hE off) _ _ s4)).1)
  refine hK v' _ w' e1 e2 ⟨.row 0 e ee.size xs, by simp, Nat.le_refl _, fun _ => ?_⟩
  rw [setE_same]
  exact (hfit M β (immOf S B (M ++ [.row 0 e ee.size xs]) (setE β M.length (envOf v')) w') (DenCs.mono (fun _ => immOf.ev e1) (fun _ off => immOf.cell e1 off) _ _ s4)).2.1

/-- A tuple's part. -/
theorem astep_extract {x : Operand} {n : Nat} {l : List AV} (ho : o.op = .extract x n) (hx : ρ x = .tup l) (hl : l[n]? = some out) : AStep P o M ρ M out :=
  .value fun S B β a w _ hs => by
    have h1 := hs x (by simp [ho, Op.operands])
    rw [hx] at h1
    obtain ⟨cs, h2, h3⟩ := h1
    obtain ⟨v, h4, h5⟩ := h3.get hl
    have h6 : cs[n]? = some v := by simpa using h4
    exact ⟨v, by simp [execOp, ho, h2, Instr.extract, h6], h5⟩

/-- A string's byte. -/
theorem astep_index_s (ht : TyTab P tab) {T : Nat} {x y : Operand} {s : ByteArray} {q : IntKind} {n : Int} {b : UInt8} (ho : o.op = .index T x y) (hT : kindAt tab T = some .str) (hx : ρ x = .val (.string s)) (hy : ρ y = .val (.int q n))
    (h0 : 0 ≤ n) (hb : s.data.toList[n.toNat]? = some b) : AStep P o M ρ M (.val (.int .u8 b.toNat)) :=
  .value fun S B β a w _ hs => by
    have h1 := hs x (by simp [ho, Op.operands])
    have h2 := hs y (by simp [ho, Op.operands])
    rw [hx] at h1; rw [hy] at h2
    have h1 : a.eval x = .string s := h1
    have h2 : a.eval y = .int q n := h2
    have h3 : s[n.toNat]? = some b := by
      obtain ⟨hlt, he⟩ := List.getElem?_eq_some_iff.1 hb
      have hlt' : n.toNat < s.size := by simpa using hlt
      rw [getElem?_pos s n.toNat hlt']
      have he' : s.data[n.toNat] = b := by simpa using he
      exact congrArg some he'
    exact ⟨_, by simp [execOp, ho, h1, h2, Instr.index, asIntOf, run_underlying (kindAt_str ht hT), h0, h3], rfl⟩
/-- A conversion between integers. -/
theorem astep_conv_int (ht : TyTab P tab) {T U : Nat} {x : Operand} {k q : IntKind} {n : Int} {tk : TK} (ho : o.op = .convert T U x) (hT : kindAt tab T = some tk) (hU : kindAt tab U = some (.int k)) (hx : ρ x = .val (.int q n)) : AStep P o M ρ M (.val (.int k (k.wrap n))) :=
  .value fun S B β a w _ hs => by
    have h1 := hs x (by simp [ho, Op.operands])
    rw [hx] at h1
    have h1 : a.eval x = .int q n := h1
    obtain ⟨d, hd, _⟩ := kindAt_spec ht hT
    have hk : P.intKind U = k := by simp [Program.intKind, kindAt_int ht hU]
    have := run_convert_int (P := P) w T U q n (by rw [hd]; rfl) (by rw [hk]; exact kindAt_int ht hU)
    rw [hk] at this
    exact ⟨_, by simp [execOp, ho, h1, this], rfl⟩
end

end Go.Proofs.Ytklodolkgdmhoaa
