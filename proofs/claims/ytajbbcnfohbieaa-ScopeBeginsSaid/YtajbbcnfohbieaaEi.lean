/- The engine, part 9: new slices, append, calls. -/
import Derived.Test.YtajbbcnfohbieaaEh
import Derived.Great.FillDense
import Derived.Maps.AppendAt
namespace Go.Proofs.Ytajbbcnfohbieaa
open Go Go.RowKit

section
variable {P : Program} {o : Oper} {M M' : List AB} {ρ : Operand → AV} {out : AV} {tab : List (Nat × TE)}

/-- An operation that answers, whose world has only grown. -/
theorem AStep.grows (h : ∀ (S : Nat → Prop) (B : Nat) (β : Env) (a : Act) (w : World), MemSat S B M β w → (∀ x ∈ o.op.operands, AVsat M β w (immOf S B M β w) (ρ x) (a.eval x)) →
    ∃ v w', (execOp a.eval o).run P w = .ok (.value v) w' ∧ Below w.heap.size w w' ∧ (Ev M β w M β w' → AVsat M β w' (immOf S B M β w') out v)) : AStep P o M ρ M out := by
  intro S B β a w hm hs K Q hK
  obtain ⟨v, w', h1, h2, h3⟩ := h S B β a w hm hs
  unfold Oper.wp
  rw [h1]
  exact hK v β w' (Ev.of_below h2) (hm.quiet h2) (h3 (Ev.of_below h2))

def toDall : List AV → Option (List D)
  | [] => some []
  | x :: r => match toD x, toDall r with
    | some d, some ds => some (d :: ds)
    | _, _ => none
def fitK (k : Nat) (l : List AV) (ds : List D) : Bool := l.all (fun x => oneCs (cellsOf x)) && ds.all fun d => Nat.beq d.width k
theorem toDall_sat {β : Env} {w : World} {imm : Nat → Prop} {k : Nat} : ∀ {l : List AV} {ds : List D} {vs : List Value}, toDall l = some ds → fitK k l ds = true → AVsats M β w imm l vs →
    DenCs w imm ds (vs.flatMap fun v => v.cells.toList) ∧ AllW k ds ∧ (∀ v ∈ vs, v.cells.size = k) ∧ ds.length = vs.length
  | [], ds, vs, h, _, hs => by cases h; rw [hs]; exact ⟨rfl, fun d hd => by simp at hd, fun v hv => by simp at hv, rfl⟩
  | x :: r, ds, vs, h, h1, ⟨v, us, h2, h3, h4⟩ => by
    simp only [toDall] at h
    split at h
    · rename_i d ds' hd hds
      cases h
      simp only [fitK, List.all_cons, Bool.and_eq_true] at h1
      obtain ⟨⟨a1, a2⟩, b1, b2⟩ := h1
      have hw := Nat.eq_of_beq_eq_true b1
      obtain ⟨c1, c2, c3, c4⟩ := toDall_sat (k := k) (l := r) hds (by simp [fitK, a2, b2]) h4
      subst h2
      have hden := toD_sat hd a1 h3
      refine ⟨⟨_, _, by simp, hden, c1⟩, fun e he => ?_, fun u hu => ?_, by simp [c4]⟩
      · rcases List.mem_cons.1 he with h5 | h5
        · rw [h5]; exact hw
        · exact c2 e h5
      · rcases List.mem_cons.1 hu with h5 | h5
        · rw [h5, ← hw]; have := hden.len; simpa using this
        · exact c3 u h5
    · cases h

theorem flat_get {k : Nat} (hk : 0 < k) : ∀ (vs : List Value) (j : Nat), (∀ v ∈ vs, v.cells.size = k) → (vs.flatMap fun v => v.cells.toList)[j]? = (vs[j / k]?).bind fun v => v.cells[j % k]?
  | [], j, _ => by simp
  | v :: vs, j, h => by
    have hv : v.cells.size = k := h v (by simp)
    have ih := fun j => flat_get hk vs j fun u hu => h u (by simp [hu])
    rw [List.flatMap_cons]
    rcases Nat.lt_or_ge j k with hlt | hge
    · rw [List.getElem?_append_left (by simp [hv, hlt]), Nat.div_eq_of_lt hlt, Nat.mod_eq_of_lt hlt]
      simp
    · rw [List.getElem?_append_right (by simp [hv, hge])]
      rw [Array.length_toList, hv, ih]
      have e1 : j / k = (j - k) / k + 1 := by rw [Nat.div_eq j k, if_pos ⟨hk, hge⟩]
      have e2 : j % k = (j - k) % k := by rw [Nat.mod_eq_sub_mod hge]
      rw [e1, e2, List.getElem?_cons_succ]

/-- The cells of a slice that is written out. -/
theorem run_buildSlice (ht : TyTab P tab) {T e n : Nat} {ee : TE} (hT : elemOf_ tab T = some (e, ee)) (_ : ee.zero.length = ee.size) (hs : 0 < ee.size) {vs : List Value} (hv : ∀ v ∈ vs, v.cells.size = ee.size) (hn : vs.length = n)
    (hsmall : n * ee.size ≤ 2 ^ 24) (w : World) :
    ∃ cs : Array Value, (Instr.buildSlice T n ((vs.zipIdx 0).map fun x => (x.2, x.1)).toArray).run P w = .ok (.slice (some ⟨w.heap.size, 0, none⟩) n n) (w.alloc (.cells cs e)) ∧ cs.toList = vs.flatMap fun v => v.cells.toList := by
  obtain ⟨hu, he⟩ := elemOf_spec ht hT
  obtain ⟨z, hz1, hz2⟩ := run_zeroCells (P := P) (w := w) he
  have hlen : ∀ (vs : List Value), (∀ v ∈ vs, v.cells.size = ee.size) → (vs.flatMap fun v => v.cells.toList).length = vs.length * ee.size := by
    intro vs
    induction vs with
    | nil => intro _; simp
    | cons v vs ih => intro h; rw [List.flatMap_cons, List.length_append, ih fun u hu => h u (by simp [hu]), Array.length_toList, h v (by simp), List.length_cons, Nat.add_mul]; omega
  have key : ∀ cells : Array Value, cells.size = n * ee.size → ∃ cs : Array Value, Instr.fill (fun i => some (i * ee.size, ee.size)) cells ((vs.zipIdx 0).map fun x => (x.2, x.1)) = some cs ∧ cs.toList = vs.flatMap fun v => v.cells.toList := by
    intro cells hc
    obtain ⟨r, hr, hsz, hk⟩ := Go.Great.fill_dense hs vs 0 cells hv (by rw [hc, ← hn]; simp)
    refine ⟨r, hr, ?_⟩
    apply List.ext_getElem?
    intro j
    rw [flat_get hs vs j hv, Array.getElem?_toList, hk j]
    by_cases hj : j < n * ee.size
    · rw [if_pos ⟨by omega, by rw [Nat.zero_add, hn]; exact hj⟩]; simp
    · rw [if_neg (by rw [Nat.zero_add, hn]; omega)]
      rw [Array.getElem?_eq_none (by omega)]
      have : vs.length ≤ j / ee.size := by rw [hn]; exact (Nat.le_div_iff_mul_le hs).2 (by omega)
      rw [List.getElem?_eq_none this]
      rfl
  by_cases h0 : n * ee.size = 0
  · obtain ⟨cs, h1, h2⟩ := key #[] (by simp [h0])
    refine ⟨cs, ?_, h2⟩
    simp [Instr.buildSlice, run_underlying hu, run_sizeOf he, h0, h1, newRow, Array.range_zero']
  · obtain ⟨cs, h1, h2⟩ := key ((Array.range (n * ee.size)).map (z.cells[· % z.cells.size]!)) (by simp)
    refine ⟨cs, ?_, h2⟩
    have hb : ¬ (n * ee.size > 2 ^ 24) := by omega
    simp only [Instr.buildSlice, Sem.run_bind, run_underlying hu, Result.andThen_ok, run_sizeOf he, hb, if_false, h0, Sem.run_pure, hz1, h1, newRow]
    simp

theorem map_sat {β : Env} {w : World} {imm : Nat → Prop} {a : Act} : ∀ {l : List Operand}, (∀ x ∈ l, AVsat M β w imm (ρ x) (a.eval x)) → AVsats M β w imm (l.map ρ) (l.map a.eval)
  | [], _ => rfl
  | x :: r, h => ⟨a.eval x, r.map a.eval, rfl, h x (by simp), map_sat fun y hy => h y (by simp [hy])⟩

/-- The parts of a slice that is written out, in order. -/
def partsOf (parts : Array (Nat × Operand)) : List Operand := parts.toList.map (·.2)
def inOrder : List (Nat × Operand) → Nat → Bool
  | [], _ => true
  | (i, _) :: r, n => Nat.beq i n && inOrder r (n + 1)
theorem inOrder_zip {a : Act} : ∀ {l : List (Nat × Operand)} {n : Nat}, inOrder l n = true → l.map (fun x => (x.1, a.eval x.2)) = (((l.map (·.2)).map a.eval).zipIdx n).map fun x => (x.2, x.1)
  | [], _, _ => rfl
  | (i, x) :: r, n, h => by
    simp only [inOrder, Bool.and_eq_true] at h
    have := Nat.eq_of_beq_eq_true h.1
    subst this
    simp only [List.map_cons, List.zipIdx_cons]
    rw [inOrder_zip h.2]
theorem mem_parts {parts : Array (Nat × Operand)} {x : Operand} {T n : Nat} (ho : o.op = .buildSlice T n parts) (hx : x ∈ partsOf parts) : x ∈ o.op.operands := by
  rw [ho]
  simp only [Op.operands, List.mem_toArray]
  exact hx

/-- A slice that is written out: data. -/
theorem astep_buildSlice (ht : TyTab P tab) {T n e : Nat} {ee : TE} {parts : Array (Nat × Operand)} {ds : List D} (ho : o.op = .buildSlice T n parts) (hT : elemOf_ tab T = some (e, ee))
    (hok : (Nat.blt 0 ee.size && Nat.beq ee.zero.length ee.size && Nat.beq (partsOf parts).length n && Nat.ble (n * ee.size) 16777216 && inOrder parts.toList 0) = true)
    (hd : toDall ((partsOf parts).map ρ) = some ds) (hf : fitK ee.size ((partsOf parts).map ρ) ds = true) : AStep P o M ρ M (.sl ee.size ds) :=
  .grows fun S B β a w hm hs => by
    simp only [Bool.and_eq_true, Nat.blt_eq] at hok
    obtain ⟨⟨⟨⟨o1, o2⟩, o3⟩, o4⟩, o5⟩ := hok
    have hsats := map_sat fun x hx => hs x (mem_parts ho hx)
    obtain ⟨c1, c2, c3, c4⟩ := toDall_sat hd hf hsats
    obtain ⟨cs, h1, h2⟩ := run_buildSlice ht hT (Nat.eq_of_beq_eq_true o2) o1 (vs := (partsOf parts).map a.eval) (n := n) c3 (by rw [List.length_map]; exact Nat.eq_of_beq_eq_true o3) (by have := Nat.le_of_ble_eq_true o4; omega) w
    have hb : Below w.heap.size w (w.alloc (.cells cs e)) := (Below.refl _ _).alloc (Nat.le_refl _) _
    have hlen : ds.length = n := by rw [c4, List.length_map]; exact Nat.eq_of_beq_eq_true o3
    refine ⟨_, _, ?_, hb, fun hE => ⟨some ⟨w.heap.size, 0, none⟩, n, n, rfl, hlen.symm, Nat.le_refl _, ?_, c2, fun hn => ⟨w.heap.size, 0, _, rfl, ⟨.inr hm.lo, by simp, fun hl => ?_⟩,
      DenCs.mono (fun _ => immOf.ev hE) (fun _ off => immOf.cell hE off) _ _ c1, fun j u hj => ?_⟩⟩⟩
    · simp only [execOp, ho, Sem.run_bind]
      have e : parts.map (fun x => (x.1, a.eval x.2)) = ((((partsOf parts).map a.eval).zipIdx 0).map fun x => (x.2, x.1)).toArray := by
        unfold partsOf
        rw [← inOrder_zip o5]
        exact Array.toList_inj.1 (Array.toList_map ..)
      rw [e, h1]
      rfl
    · have := Nat.le_of_ble_eq_true o4
      have h3 : n ≤ n * ee.size := Nat.le_mul_of_pos_right n o1
      simp only [maxLen]; omega
    · have := hm.lt hl; omega
    · rw [Nat.zero_add, World.cell?_alloc_new]
      rw [← h2] at hj
      simpa using hj
/-- A slice that is written out: an own row. -/
theorem astep_buildRow (ht : TyTab P tab) {T n e : Nat} {ee : TE} {parts : Array (Nat × Operand)} {ds : List D} (ho : o.op = .buildSlice T n parts) (hT : elemOf_ tab T = some (e, ee))
    (hok : (Nat.blt 0 ee.size && Nat.beq ee.zero.length ee.size && Nat.beq (partsOf parts).length n && Nat.ble (n * ee.size) 16777216 && inOrder parts.toList 0) = true)
    (hd : toDall ((partsOf parts).map ρ) = some ds) (hf : fitK ee.size ((partsOf parts).map ρ) ds = true) : AStep P o M ρ (M ++ [.row 0 e ee.size ds]) (.row M.length 0) := by
  intro S B β a w hm hs K Q hK
  simp only [Bool.and_eq_true, Nat.blt_eq] at hok
  obtain ⟨⟨⟨⟨o1, o2⟩, o3⟩, o4⟩, o5⟩ := hok
  have hsats := map_sat fun x hx => hs x (mem_parts ho hx)
  obtain ⟨c1, c2, c3, c4⟩ := toDall_sat hd hf hsats
  obtain ⟨cs, h1, h2⟩ := run_buildSlice ht hT (Nat.eq_of_beq_eq_true o2) o1 (vs := (partsOf parts).map a.eval) (n := n) c3 (by rw [List.length_map]; exact Nat.eq_of_beq_eq_true o3) (by have := Nat.le_of_ble_eq_true o4; omega) w
  have hb : Below w.heap.size w (w.alloc (.cells cs e)) := (Below.refl _ _).alloc (Nat.le_refl _) _
  have hlen : ds.length = n := by rw [c4, List.length_map]; exact Nat.eq_of_beq_eq_true o3
  have hrun : (execOp a.eval o).run P w = .ok (.value (.slice (some ⟨w.heap.size, 0, none⟩) n n)) (w.alloc (.cells cs e)) := by
    simp only [execOp, ho, Sem.run_bind]
    have e : parts.map (fun x => (x.1, a.eval x.2)) = ((((partsOf parts).map a.eval).zipIdx 0).map fun x => (x.2, x.1)).toArray := by
      unfold partsOf
      rw [← inOrder_zip o5]
      exact Array.toList_inj.1 (Array.toList_map ..)
    rw [e, h1]
    rfl
  have hcl : cs.toList.length = n * ee.size := by rw [h2]; have := c1.len; rw [this, widths_allW c2, hlen]
  have hn : n ≤ maxLen := by
    have := Nat.le_of_ble_eq_true o4
    have h3 : n ≤ n * ee.size := Nat.le_mul_of_pos_right n o1
    simp only [maxLen]; omega
  obtain ⟨e1, e2⟩ := hm.push (ab := .row 0 e ee.size ds) (x := some (w.heap.size, n)) hb (fun g c h => by cases h; exact Nat.le_refl _)
    (fun hE => ⟨c2, .inr ⟨w.heap.size, n, cs, rfl, .of0 (heap_alloc_new w _), by omega, hn, by simpa using hcl, by
      rw [hlen, List.take_of_length_le (by omega), h2]
      exact DenCs.mono (fun _ => immOf.ev hE) (fun _ off => immOf.cell hE off) _ _ c1⟩⟩)
  unfold Oper.wp
  rw [hrun]
  exact hK _ _ _ e1 e2 ⟨.row 0 e ee.size ds, by simp, Nat.le_refl _, fun _ => by simp [rowVal, hlen]⟩

/-- Calls. -/
def Callable (P : Program) (f : FuncId) : Prop := ∀ args w, (callFunc f args).run P w = .ok (.enter f args) w
theorem callable_of {f : FuncId} {fn : Func} {c : Code} (hf : P.funcs[f]? = some fn) (hb : fn.body = some c) (hn : (fn.name == "runtime.NumGoroutine") = false) : Callable P f := by
  intro args w
  have hn' : ¬ fn.name = "runtime.NumGoroutine" := by simpa using hn
  simp [callFunc, hf, hb, hn']
theorem run_call {f : FuncId} (hc : Callable P f) {xs : Array Operand} {ts : Array TypeId} (ho : o.op = .call { callee := .value (.func f), args := xs, argTypes := ts }) (a : Act) (w : World) :
    (execOp a.eval o).run P w = .ok (.enter f (xs.map a.eval)) w := by
  have h1 := hc (xs.map a.eval) w
  simp [execOp, ho, resolve, Deferred.ofValue, Act.eval, invoke, h1]

def Subs : List AV → List AV → Prop
  | [], [] => True
  | x :: xs, y :: ys => Sub x y ∧ Subs xs ys
  | _, _ => False
theorem Subs.sat {β : Env} {w : World} {imm : Nat → Prop} : ∀ {xs ys : List AV} {vs : List Value}, Subs xs ys → AVsats M β w imm xs vs → AVsats M β w imm ys vs
  | [], [], _, _, h => h
  | _ :: _, _ :: _, _, ⟨h1, h2⟩, ⟨v, r, h3, h4, h5⟩ => ⟨v, r, h3, h1 _ _ _ _ _ h4, Subs.sat h2 h5⟩
  | [], _ :: _, _, h, _ => h.elim
  | _ :: _, [], _, h, _ => h.elim
theorem mem_call {c : Call} {x : Operand} (ho : o.op = .call c) (hx : x ∈ c.args.toList) : x ∈ o.op.operands := by
  rw [ho]
  simp only [Op.operands, Call.operands]
  cases c.callee <;> simp_all

theorem fresh_imm {S : Nat → Prop} {B : Nat} {β : Env} {w w' : World} (hm : MemSat S B M β w) (hb : Below w.heap.size w w') {b : Nat} (h : fresh (immOf S B M β w) w w' b) : immOf S B M β w' b := by
  rcases h with h | ⟨h1, h2⟩
  · exact immOf.ev (Ev.of_below hb) h
  · exact ⟨.inr (Nat.le_trans hm.lo h1), h2, fun hl => by have := hm.lt hl; omega⟩

theorem astep_call {f : FuncId} {xs : Array Operand} {ts : Array TypeId} {cargs : List AV} {res : AV} (ho : o.op = .call { callee := .value (.func f), args := xs, argTypes := ts }) (hcall : Callable P f) (hc : PCalls P f cargs res)
    (hargs : Subs (xs.toList.map ρ) cargs) (hfa : AV.frees cargs = true) (hfr : res.free = true) : AStep P o M ρ M res := by
  intro S B β a w hm hs K Q hK
  unfold Oper.wp
  rw [run_call hcall ho]
  have h1 := map_sat (l := xs.toList) fun x hx => hs x (mem_call ho hx)
  have h2 := hargs.sat h1
  have h3 : AVsats [] noE w (immOf S B M β w) cargs (xs.toList.map a.eval) := AVsats.free_ (fun _ h => h) (fun _ _ _ => rfl) _ _ hfa h2
  refine (hc (immOf S B M β w) w (xs.map a.eval) (fun b hb => hb.2.1) (by simpa using h3)).mono ?_
  rintro e w' ⟨v, rfl, hb, hv⟩
  exact hK v β w' (Ev.of_below hb) (hm.quiet hb) (AVsat.free_ (fun b hb' => fresh_imm hm hb hb') (fun _ _ _ => rfl) _ _ hfr hv)
end

end Go.Proofs.Ytajbbcnfohbieaa
