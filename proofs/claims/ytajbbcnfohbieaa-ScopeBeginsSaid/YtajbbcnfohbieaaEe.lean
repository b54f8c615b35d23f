/- The engine, part 5: regions as code; types; contracts; the ends of bodies. -/
import Derived.Test.YtajbbcnfohbieaaEd
import Derived.RangeFuncLeaves
namespace Go.Proofs.Ytajbbcnfohbieaa
open Go Go.RowKit

section
variable {cx : Cx} {s : AS} {Q : Exit → AS → Prop}
theorem awp_region {id : Nat} {l : List Oper} {fl : List Nat} (h : Run cx.P l.toArray cx.N (fun s' => Q .normal s') l fl s) : AWp cx (.region id l.toArray false) s Q := by
  intro a w hs
  refine wpIn_region ?_
  have := Run.toF (fn := fun i => fl.getD i 0) l fl s 0 (fun j => by simp) (fun j => by simp) h
  rw [List.range_eq_range']
  simp only [List.size_toArray]
  exact RunF.in_order (fun M F a w ⟨G, hG, hq⟩ hs => ⟨⟨M, G⟩, hq, by subst hG; exact hs⟩) _ _ _ a w this hs
theorem awp_region_draw {id : Nat} {l : List Oper} {fl : List Nat} (hm : cx.P.follows .mixedOrders = true) (h : Run cx.P l.toArray cx.N (fun s' => Q .normal s') l fl s)
    (hok : ordOK l.toArray fl (ancs l []) = true) : AWp cx (.region id l.toArray true) s Q := by
  intro a w hs
  have := Run.toF (fn := fun i => fl.getD i 0) l fl s 0 (fun j => by simp) (fun j => by simp) h
  refine wp_region_runF hm hok (K := fun M F => ∃ G, F = look G ∧ Q .normal ⟨M, G⟩) ?_ hs (fun M F a w ⟨G, hG, hq⟩ hs => ⟨⟨M, G⟩, hq, by subst hG; exact hs⟩)
  rw [List.range_eq_range']
  exact this
theorem thenA_normal {K : AS → Prop} (h : K s) : thenA K Q .normal s := h
end

/-- Types, as far as walks ask for them. -/
inductive TK where
  | plain
  | str
  | int (k : IntKind)
  | bool
  | struct (fs : List (Nat × Nat))
  | array (n e : Nat)
  | slice (e : Nat)
  | ptr (e : Nat)
  | func
structure TE where
  kind : TK
  size : Nat
  bytes : Nat
  zero : List Value
def kindOf : TypeDesc → TK
  | .bool => .bool
  | .int k => .int k
  | .string => .str
  | .pointer e => .ptr e
  | .slice e => .slice e
  | .array n e => .array n e
  | .struct fs => .struct (fs.toList.map fun f => (f.offset, f.type))
  | .func _ _ _ => .func
  | _ => .plain
def teOf (P : Program) (t : TypeId) : Option TE :=
  match P.underlying t, P.info? t with
  | some d, some i => match i.zero with
    | some z => some ⟨kindOf d, i.size, i.bytes, z.cells.toList⟩
    | none => none
  | _, _ => none
def TK.agg : TK → Bool
  | .struct _ | .array _ _ => true
  | _ => false
def TyTab (P : Program) : List (Nat × TE) → Prop
  | [] => True
  | (t, e) :: r => teOf P t = some e ∧ TyTab P r
def tget : List (Nat × TE) → Nat → Option TE
  | [], _ => none
  | (t, e) :: r, n => bif Nat.beq t n then some e else tget r n
theorem TyTab.get {P : Program} {t : Nat} {e : TE} : ∀ {tab : List (Nat × TE)}, TyTab P tab → tget tab t = some e → teOf P t = some e
  | [], _, h => by cases h
  | (u, x) :: r, ⟨h1, h2⟩, h => by
    cases hb : Nat.beq u t with
    | true =>
      simp only [tget, hb, cond_true] at h
      cases h
      rw [← Nat.eq_of_beq_eq_true hb]
      exact h1
    | false =>
      simp only [tget, hb, cond_false] at h
      exact h2.get h
theorem teOf_spec {P : Program} {t : TypeId} {e : TE} (h : teOf P t = some e) : ∃ d i z, P.underlying t = some d ∧ kindOf d = e.kind ∧ P.info? t = some i ∧ i.size = e.size ∧ i.bytes = e.bytes ∧ i.zero = some z ∧ z.cells.toList = e.zero := by
  unfold teOf at h
  split at h
  · rename_i d i hd hi
    split at h
    · rename_i z hz
      cases h
      exact ⟨d, i, z, hd, rfl, hi, rfl, rfl, hz, rfl⟩
    · cases h
  · cases h
section
variable {P : Program} {t : TypeId} {e : TE} {w : World}
theorem run_sizeOf (h : teOf P t = some e) : (sizeOf t).run P w = .ok e.size w := by
  obtain ⟨d, i, z, _, _, hi, hs, _⟩ := teOf_spec h
  simp [sizeOf, typeInfo, hi, hs]
theorem run_isAgg (h : teOf P t = some e) : (isAgg t).run P w = .ok e.kind.agg w := by
  obtain ⟨d, i, z, hd, hk, _⟩ := teOf_spec h
  rw [← hk]
  cases d <;> simp [isAgg, run_underlying hd, kindOf, TK.agg]
theorem run_zeroCells (h : teOf P t = some e) : ∃ z, (zeroValue t).run P w = .ok z w ∧ z.cells.toList = e.zero := by
  obtain ⟨d, i, z, _, _, hi, _, _, hz, hc⟩ := teOf_spec h
  exact ⟨z, by simp [zeroValue, typeInfo, hi, hz], hc⟩
end

/-- What is read at a type from cells on. -/
def loadAV (te : TE) (cells : List AV) : Option AV :=
  bif te.kind.agg then (bif Nat.ble te.size cells.length then some (.agg (cells.take te.size)) else none) else cells[0]?

section
variable {M : List AB} {β : Env} {w : World} {imm : Nat → Prop} {P : Program}
theorem run_loadVar {t : TypeId} {te : TE} (ht : teOf P t = some te) {g off : Nat} {l : List AV} {cs : List Value} (hs : AVsats M β w imm l cs)
    (hc : ∀ (j : Nat) (u : Value), cs[j]? = some u → w.cell? ⟨g, off + j, none⟩ = some u) {x : AV} (hx : loadAV te l = some x) :
    ∃ v, (loadVar t ⟨g, off, none⟩).run P w = .ok v w ∧ AVsat M β w imm x v := by
  have hlen := hs.len
  unfold loadAV at hx
  cases hagg : te.kind.agg with
  | true =>
    rw [hagg] at hx
    simp only [cond_true] at hx
    cases hle : Nat.ble te.size l.length with
    | false => rw [hle] at hx; cases hx
    | true =>
      rw [hle] at hx
      cases hx
      have hle' := Nat.le_of_ble_eq_true hle
      have hr := run_loadCells_list (P := P) (w := w) ⟨g, off, none⟩ (cs.take te.size) (fun j v hj => by
        rw [List.getElem?_take] at hj
        split at hj
        · have := hc j v hj
          have e : (⟨g, off, none⟩ : Addr).add j = ⟨g, off + j, none⟩ := by unfold Addr.add; split <;> simp_all
          rw [e]; exact this
        · cases hj)
      rw [List.length_take, Nat.min_eq_left (by omega)] at hr
      refine ⟨_, ?_, (cs.take te.size).toArray, rfl, by simpa using hs.take_ te.size⟩
      simp [loadVar, run_isAgg ht, hagg, run_sizeOf ht, hr]
  | false =>
    rw [hagg] at hx
    simp only [cond_false] at hx
    obtain ⟨v, h1, h2⟩ := hs.get hx
    refine ⟨v, ?_, h2⟩
    have := hc 0 v h1
    simp only [Nat.add_zero] at this
    simp [loadVar, run_isAgg ht, hagg, this]
end

/-- One thing known says another. -/
def Sub (x y : AV) : Prop := ∀ M β w imm v, AVsat M β w imm x v → AVsat M β w imm y v
theorem Sub.refl (x : AV) : Sub x x := fun _ _ _ _ _ h => h
theorem Sub.any (x : AV) : Sub x .any := fun _ _ _ _ _ _ => trivial
theorem Sub.nil (k : Nat) : Sub (.val (.slice none 0 0)) (.sl k []) := by
  intro M β w imm v h
  cases h
  exact ⟨none, 0, 0, rfl, rfl, Nat.le_refl _, Nat.zero_le _, by simp [AllW], fun h => absurd h (by omega)⟩

-- Things known that name no own memory.
mutual
def AV.free : AV → Bool
  | .any => true
  | .val _ => true
  | .sl _ _ => true
  | .ptr _ _ => false
  | .row _ _ => false
  | .eptr _ _ _ _ => false
  | .dptr l => AV.frees l
  | .agg l => AV.frees l
  | .tup l => AV.frees l
  | .cnd _ x => x.free
  | .cl _ l => AV.frees l
  | .ub _ _ => true
  | .pr _ => true
  | .vw _ _ _ => false
  | .alt x y => x.free && y.free
def AV.frees : List AV → Bool
  | [] => true
  | x :: r => x.free && AV.frees r
end
section
variable {M M' : List AB} {β β' : Env} {w w' : World} {imm imm' : Nat → Prop}
mutual
theorem AVsat.free_ (hi : ∀ b, imm b → imm' b) (hc : ∀ b off, imm b → w'.cell? ⟨b, off, none⟩ = w.cell? ⟨b, off, none⟩) : ∀ (x : AV) (v : Value), x.free = true → AVsat M β w imm x v → AVsat M' β' w' imm' x v
  | .any, _, _, _ => trivial
  | .val _, _, _, hx => hx
  | .sl k es, v, _, hx => DenC.mono hi hc (.sl k es) [v] hx
  | .ptr _ _, _, hf, _ => by cases hf
  | .row _ _, _, hf, _ => by cases hf
  | .eptr _ _ _ _, _, hf, _ => by cases hf
  | .dptr l, v, hf, ⟨g, off, cs, h1, h2, h3, h4⟩ => ⟨g, off, cs, h1, hi _ h2, AVsats.free_ hi hc l cs hf h3, fun j u hj => (hc _ _ h2).trans (h4 j u hj)⟩
  | .agg l, v, hf, ⟨cs, h1, h2⟩ => ⟨cs, h1, AVsats.free_ hi hc l _ hf h2⟩
  | .tup l, v, hf, ⟨cs, h1, h2⟩ => ⟨cs, h1, AVsats.free_ hi hc l _ hf h2⟩
  | .cnd c x, v, hf, ⟨h1, h2⟩ => ⟨fun hcc => AVsat.free_ hi hc x v hf (h1 hcc), h2⟩
  | .cl f caps, v, hf, ⟨cs, h1, h2⟩ => ⟨cs, h1, AVsats.free_ hi hc caps _ hf h2⟩
  | .ub _ _, _, _, hx => hx
  | .pr _, _, _, hx => hx
  | .vw _ _ _, _, hf, _ => by cases hf
  | .alt x y, v, hf, hx => by
    rw [AV.free, Bool.and_eq_true] at hf
    exact hx.elim (fun k => .inl (AVsat.free_ hi hc x v hf.1 k)) (fun k => .inr (AVsat.free_ hi hc y v hf.2 k))
theorem AVsats.free_ (hi : ∀ b, imm b → imm' b) (hc : ∀ b off, imm b → w'.cell? ⟨b, off, none⟩ = w.cell? ⟨b, off, none⟩) : ∀ (l : List AV) (vs : List Value), AV.frees l = true → AVsats M β w imm l vs → AVsats M' β' w' imm' l vs
  | [], _, _, hx => hx
  | a :: as, _, hf, ⟨v, r, h1, h2, h3⟩ => by
    rw [AV.frees, Bool.and_eq_true] at hf
    exact ⟨v, r, h1, AVsat.free_ hi hc a v hf.1 h2, AVsats.free_ hi hc as r hf.2 h3⟩
end
end

def noE : Env := fun _ => none
inductive RetV (P : Program) (s : AS) : ResultVar → AV → Prop
  | tmp {t : Tmp} {x : AV} (h : Sub (look s.F t) x) (hf : x.free = true) : RetV P s (.tmp t) x
  | cell {t : Tmp} {ty : TypeId} {te : TE} {i off : Nat} {e : TypeId} {cells : List AV} {x : AV} (hte : teOf P ty = some te) (hp : look s.F t = .ptr i off) (hM : s.M[i]? = some (.box e cells))
      (hx : loadAV te (cells.drop off) = some x) (hf : x.free = true) : RetV P s (.cell t ty) x
  | row {t : Tmp} {i ver e k : Nat} {es : List D} (hp : look s.F t = .row i ver) (hM : s.M[i]? = some (.row ver e k es)) : RetV P s (.tmp t) (.sl k es)
inductive RetVs (P : Program) (s : AS) : List ResultVar → List AV → Prop
  | nil : RetVs P s [] []
  | cons {r : ResultVar} {rs : List ResultVar} {x : AV} {xs : List AV} (h : RetV P s r x) (hs : RetVs P s rs xs) : RetVs P s (r :: rs) (x :: xs)
def tupOf : List AV → AV
  | [x] => x
  | l => .tup l

def resSem (tmps : Array Value) : ResultVar → Sem Value
  | .tmp t => pure (tmps.getD t undef)
  | .cell a t => do loadVar t (← asAddr (tmps.getD a undef))
theorem results_eq (fn : Func) (tmps : Array Value) : results fn tmps = (Functor.map List.toArray (fn.results.toList.mapM (resSem tmps))) >>= fun (vs : Array Value) => pure (if h : vs.size = 1 then vs[0] else .tuple vs) := by
  rw [← Array.mapM_eq_mapM_toList]
  rfl

section
variable {cx : Cx} {s : AS} {a : Act} {w : World}
theorem box_cells {M : List AB} {β : Env} {S : Nat → Prop} {B : Nat} (h : MemSat S B M β w) {i e : Nat} {cells : List AV} (hi : M[i]? = some (.box e cells)) :
    ∃ g c cs, β i = some (g, c) ∧ w.heap[g]? = some (.cells cs e (0, 0)) ∧ AVsats M β w (immOf S B M β w) cells cs.toList := h.ent i _ hi
theorem cell_at {w : World} {g : Nat} {cs : Array Value} {e : TypeId} {f : Nat × Nat} (hg : w.heap[g]? = some (.cells cs e f)) (off j : Nat) (u : Value) (h : (cs.toList.drop off)[j]? = some u) :
    w.cell? ⟨g, off + j, none⟩ = some u := by
  rw [cell_of_row w g (off + j) cs e f hg]
  rw [List.getElem?_drop] at h
  simpa using h
/-- An own row, read as data by whom its block is open to. -/
theorem row_as_sl {M : List AB} {β : Env} {S : Nat → Prop} {B : Nat} {w : World} (hm : MemSat S B M β w) {imm : Nat → Prop} (hi : ∀ b, immOf S B M β w b → imm b) (hl : ∀ b, live M β b → imm b) {i ver e k : Nat} {es : List D} (hM : M[i]? = some (.row ver e k es)) {v : Value}
    (h : AVsat M β w (immOf S B M β w) (.row i ver) v) : DenC w imm (.sl k es) [v] := by
  obtain ⟨ab, h1, h2⟩ := h
  rw [hM] at h1; cases h1
  have h3 := h2.2 rfl
  obtain ⟨hw, ⟨h4, rfl⟩ | ⟨g, cap, cs, h4, h5, h6, h7, h8, h9⟩⟩ := hm.ent i _ hM
  · rw [h4] at h3
    exact ⟨none, 0, 0, by rw [h3]; rfl, rfl, Nat.le_refl _, Nat.zero_le _, hw, fun h => absurd h (by omega)⟩
  · rw [h4] at h3
    refine ⟨some ⟨g, 0, none⟩, es.length, cap, by rw [h3]; rfl, rfl, h6, h7, hw, fun _ => ⟨g, 0, _, rfl, hl g ⟨i, _, cap, hM, rfl, h4⟩, DenCs.mono hi (fun _ _ _ => rfl) _ _ h9, fun j u hj => ?_⟩⟩
    rw [List.getElem?_take] at hj
    split at hj
    · rw [Nat.zero_add, h5.cell]
      simpa using hj
    · cases hj
theorem run_ret {M : List AB} {β : Env} (hm : MemSat cx.S cx.w0.heap.size M β w) (hM : s.M = M) (hF : ∀ d, AVsat M β w (immOf cx.S cx.w0.heap.size M β w) (look s.F d) (a.tmps.getD d undef)) {imm : Nat → Prop}
    (hi : ∀ b, immOf cx.S cx.w0.heap.size M β w b → imm b) (hl : ∀ b, live M β b → imm b) {r : ResultVar} {x : AV} (h : RetV cx.P s r x) :
    ∃ v, (resSem a.tmps r).run cx.P w = .ok v w ∧ AVsat [] noE w imm x v := by
  cases h with
  | tmp h hf => exact ⟨_, rfl, AVsat.free_ hi (fun _ _ _ => rfl) _ _ hf (h _ _ _ _ _ (hF _))⟩
  | @cell t ty te i off e cells x hte hp hMi hx hf =>
    have h1 := hF t
    rw [hp] at h1
    obtain ⟨g, c, h2, h3, _⟩ := h1
    subst hM
    obtain ⟨g', c', cs, h4, h5, h6⟩ := box_cells hm hMi
    rw [h2] at h4; cases h4
    obtain ⟨v, h7, h8⟩ := run_loadVar hte (h6.drop_ off) (fun j u hj => cell_at h5 off j u hj) hx
    refine ⟨v, ?_, AVsat.free_ hi (fun _ _ _ => rfl) _ _ hf h8⟩
    simp only [resSem, h3]
    simp [asAddr, h7]
  | @row t i ver e k es hp hMi =>
    have h1 := hF t
    rw [hp] at h1
    subst hM
    exact ⟨_, rfl, row_as_sl hm hi hl hMi h1⟩
theorem run_rets {M : List AB} {β : Env} (hm : MemSat cx.S cx.w0.heap.size M β w) (hM : s.M = M) (hF : ∀ d, AVsat M β w (immOf cx.S cx.w0.heap.size M β w) (look s.F d) (a.tmps.getD d undef)) {imm : Nat → Prop}
    (hi : ∀ b, immOf cx.S cx.w0.heap.size M β w b → imm b) (hl : ∀ b, live M β b → imm b) {rs : List ResultVar} {xs : List AV} (h : RetVs cx.P s rs xs) :
    ∃ vs, (rs.mapM (resSem a.tmps)).run cx.P w = .ok vs w ∧ AVsats [] noE w imm xs vs := by
  induction h with
  | nil => exact ⟨[], by simp, rfl⟩
  | cons h hs ih =>
    obtain ⟨v, h1, h2⟩ := run_ret hm hM hF hi hl h
    obtain ⟨vs, h3, h4⟩ := ih
    exact ⟨v :: vs, by simp [List.mapM_cons, h1, h3], v, vs, rfl, h2, h4⟩
theorem run_results {fn : Func} {M : List AB} {β : Env} (hm : MemSat cx.S cx.w0.heap.size M β w) (hM : s.M = M) (hF : ∀ d, AVsat M β w (immOf cx.S cx.w0.heap.size M β w) (look s.F d) (a.tmps.getD d undef)) {imm : Nat → Prop}
    (hi : ∀ b, immOf cx.S cx.w0.heap.size M β w b → imm b) (hl : ∀ b, live M β b → imm b) {xs : List AV}
    (h : RetVs cx.P s fn.results.toList xs) : ∃ v, (results fn a.tmps).run cx.P w = .ok v w ∧ AVsat [] noE w imm (tupOf xs) v := by
  obtain ⟨vs, h1, h2⟩ := run_rets hm hM hF hi hl h
  rw [results_eq]
  refine ⟨if h : vs.toArray.size = 1 then vs.toArray[0] else .tuple vs.toArray, by simp [h1], ?_⟩
  have hl := h2.len
  match xs, vs, hl, h2 with
  | [], [], _, h2 => exact ⟨#[], rfl, h2⟩
  | [x], [v], _, ⟨_, _, e, h3, _⟩ => cases e; exact h3
  | x :: y :: xs, v :: u :: vs, _, h2 => exact ⟨_, rfl, h2⟩
end

def fresh (S : Nat → Prop) (w w' : World) (b : Nat) : Prop := S b ∨ (w.heap.size ≤ b ∧ b < w'.heap.size)

/-- A call that only answers: what it is given is data, what it answers is data; what was there is as it was. -/
def PCalls (P : Program) (f : FuncId) (args : List AV) (res : AV) : Prop :=
  ∀ (S : Nat → Prop) (w : World) (vs : Array Value), (∀ b, S b → b < w.heap.size) → AVsats [] noE w S args vs.toList →
    Calls P f vs w fun e w' => ∃ v, e = .returned v ∧ Below w.heap.size w w' ∧ AVsat [] noE w' (fresh S w w') res v

def argF : Nat → List AV → List (Nat × AV)
  | _, [] => []
  | i, a :: r => (i, a) :: argF (i + 1) r
theorem argF_sat {M : List AB} {β : Env} {w : World} {imm : Nat → Prop} : ∀ {l : List AV} {vs tail : List Value} {pre : List Value} {d : Nat}, AVsats M β w imm l vs →
    AVsat M β w imm (look (argF pre.length l) d) (((pre ++ vs ++ tail)[d]?).getD undef)
  | [], _, _, _, _, _ => trivial
  | a :: as, _, tail, pre, d, ⟨v, r, h1, h2, h3⟩ => by
    subst h1
    cases hb : Nat.beq pre.length d with
    | true =>
      have hd := Nat.eq_of_beq_eq_true hb
      subst hd
      simp only [argF, look, hb, cond_true]
      simpa using h2
    | false =>
      simp only [argF, look, hb, cond_false]
      have := argF_sat (l := as) (vs := r) (tail := tail) (pre := pre ++ [v]) (d := d) h3
      simpa using this

def retQ (P : Program) (fn : Func) (res : AV) (e : Exit) (s : AS) : Prop := (e = .normal ∨ e = .ret) ∧ ∃ xs, RetVs P s fn.results.toList xs ∧ Sub (tupOf xs) res

theorem sat_start {P : Program} {S : Nat → Prop} {w : World} {vs : Array Value} {args : List AV} {N : Nat} (hS : ∀ b, S b → b < w.heap.size) (hN : args.length ≤ N) (hvs : AVsats [] noE w S args vs.toList) :
    Sat ⟨P, N, S, w, [], noE, none⟩ ⟨[], argF 0 args⟩ { tmps := vs ++ Array.replicate (N - vs.size) undef, defers := [] } w := by
  have hlen := hvs.len
  refine ⟨by simp at hlen ⊢; omega, trivial, noE, ⟨Nat.le_refl _, fun i j ab ab' g c c' h => by simp at h, fun i ab h => by simp at h, fun b ⟨i, ab, c, h, _⟩ => by simp at h⟩, Ev.refl _ _ _, fun d => ?_⟩
  have h2 : AVsats [] noE w (immOf S w.heap.size [] noE w) args vs.toList :=
    AVsats.mono (Ev.refl _ _ _) (fun b hb => ⟨.inl hb, hS b hb, fun ⟨i, ab, c, h, _⟩ => by simp at h⟩) (fun _ _ _ => rfl) _ _ hvs
  have := argF_sat (pre := []) (tail := List.replicate (N - vs.size) undef) (d := d) h2
  rw [Array.getD_eq_getD_getElem?]
  rw [← Array.getElem?_toList]
  simpa using this

theorem putObj_turned {M : List AB} {B D : Nat} {w : World} {o : Option (List Deferred)} (o' : Obj) (hD : w.heap[D]? = some (.deferred o)) (hB : B ≤ D) : Turned M B w (w.putObj D o') := by
  refine ⟨rfl, rfl, rfl, by simp, fun b hb => ?_⟩
  by_cases e : b = D
  · subst e
    exact .inr ⟨hB, _, hD, rfl, .inl fun _ _ h => by cases h⟩
  · exact .inl (World.putObj_heap_other e)
theorem DefOk.put {B D : Nat} {w : World} (o' : Obj) : ∀ {ds : List Deferred}, DefOk B ds w → (∀ d' ∈ ds, d' ≠ { target := .collected D, args := #[] }) → DefOk B ds (w.putObj D o')
  | [], _, _ => trivial
  | d :: ds, ⟨⟨D', h1, h2, h3, h4⟩, h5⟩, hne => ⟨⟨D', h1, h2, (World.putObj_heap_other (fun e => hne d (by simp) (by rw [h1, e]))).trans h3, h4⟩, DefOk.put o' h5 fun d' hd' => hne d' (by simp [hd'])⟩
theorem leave_ok {cx : Cx} {s : AS} {fn : Func} {t : Array Value} {R : Ending → World → Prop} (hfin : ∀ w', Sat cx s { tmps := t, defers := [] } w' → ∃ v, (results fn t).run cx.P w' = .ok v w' ∧ R (.returned v) w') :
    ∀ (ds : List Deferred) (w : World), Sat cx s { tmps := t, defers := ds } w → LeavesInM Fence.wide 0 cx.P fn t R ds .returning w
  | [], w, hs => hfin w hs
  | d :: ds, w, hs => by
    obtain ⟨h1, ⟨⟨D, h2, h6, h7, h8⟩, h9⟩, β, h3, h4, h5⟩ := hs
    subst h2
    have ht := putObj_turned (M := s.M) (.deferred none) h7 h6
    refine ⟨by simp, .inl ⟨D, _, rfl, run_takeDeferred h7, leave_ok hfin ds _ ⟨h1, h9.put _ h8, β, h3.turn ht, h4.turn ht (Nat.le_refl _), fun d => AVsat.on (fun _ => ht.imm) ht.cells _ _ (h5 d)⟩⟩⟩
/-- A function's contract from its body's walk, marks and all. -/
theorem calls_of_awp {cx : Cx} (hL : cx.L = none) {f : FuncId} {fn : Func} {c : Code} {args : Array Value} {s : AS} {w : World} {R : Ending → World → Prop} {Q : Exit → AS → Prop} (hf : cx.P.funcs[f]? = some fn) (hb : fn.body = some c) (h : AWp cx c s Q)
    (hs : Sat cx s { tmps := args ++ Array.replicate (fn.ntmps - args.size) undef, defers := [] } w)
    (hfin : ∀ e s' a' w', Q e s' → Sat cx s' a' w' → (e = .normal ∨ e = .ret) ∧ (a'.defers = [] → ∃ v, (results fn a'.tmps).run cx.P w' = .ok v w' ∧ R (.returned v) w')) : Calls cx.P f args w R := by
  refine (callsIn_wide (n := 0)).1 (callsIn_of_wp_marks hf hb trivial ?_)
  have h := h _ _ hs
  rw [hL] at h
  refine wpIn_mono h fun e a' w' ⟨s', h1, h2⟩ => ?_
  have h3 := (hfin e s' a' w' h1 h2).1
  have h4 : LeavesInM Fence.wide 0 cx.P fn a'.tmps R a'.defers .returning w' := leave_ok (fun w'' hs'' => (hfin e s' _ w'' h1 hs'').2 rfl) _ _ h2
  rcases h3 with rfl | rfl <;> exact h4

theorem pcalls_of {P : Program} {f : FuncId} {fn : Func} {c : Code} {args : List AV} {res : AV} {N : Nat} {F : List (Nat × AV)} (hf : P.funcs[f]? = some fn) (hN : fn.ntmps = N) (hb : fn.body = some c) (hF : argF 0 args = F) (hok : Nat.ble args.length N = true)
    (h : ∀ S w, AWp ⟨P, N, S, w, [], noE, none⟩ c ⟨[], F⟩ (retQ P fn res)) : PCalls P f args res := by
  intro S w vs hS hvs
  have hlen := Nat.le_of_ble_eq_true hok
  subst hN
  subst hF
  refine calls_of_awp (cx := ⟨P, fn.ntmps, S, w, [], noE, none⟩) rfl hf hb (h S w) (sat_start hS hlen hvs) fun e s' a' w' ⟨he, xs, hr, hsub⟩ ⟨h1, _, β, h3, h4, h5⟩ => ⟨he, fun _ => ?_⟩
  have hnew : ∀ b, live s'.M β b → w.heap.size ≤ b := fun b hb => by
    rcases h4.new b hb with ⟨i, ab, c, h, _⟩ | h
    · simp at h
    · exact h
  obtain ⟨v, h6, h7⟩ := run_results (cx := ⟨P, fn.ntmps, S, w, [], noE, none⟩) (imm := fresh S w w') h3 rfl h5 (fun b hb => by
      rcases hb.1 with h | h
      · exact .inl h
      · exact .inr ⟨h, hb.2.1⟩) (fun b hb => .inr ⟨hnew b hb, h3.lt hb⟩) hr
  have h8 := hsub _ _ _ _ _ h7
  have hbel : Below w.heap.size w w' := ⟨h4.os, h4.tape, h4.output, h4.size, fun k hk => h4.keep k hk fun ⟨i, ab, c, h, _⟩ => by simp at h⟩
  have h9 : ∃ v, (results fn a'.tmps).run P w' = .ok v w' ∧ ∃ v', Ending.returned v = .returned v' ∧ Below w.heap.size w w' ∧ AVsat [] noE w' (fresh S w w') res v' :=
    ⟨v, h6, v, rfl, hbel, h8⟩
  exact h9

end Go.Proofs.Ytajbbcnfohbieaa
