import Derived.Test.YtklodolkgdmhoaaEd
import Derived.RangeFuncLeaves
/- The engine, part 5: regions as code; types; contracts; the ends of bodies. -/
namespace Go.Proofs.Ytklodolkgdmhoaa
open Go Go.RowKit

section
variable {cx : Cx} {s : AS} {Q : Exit → AS → Prop}
theorem awp_region {id : Nat} {l : List Oper} {fl : List Nat} (h : Run cx.P l.toArray cx.N (fun s' => Q .normal s') l fl s) : AWp cx (.region id l.toArray false) s Q := by
  intro a w hs
  refine wpIn_region ?_
  have := Run.toF (fn := fun i => fl.getD i 0) l fl s 0 (fun j => by simp) (fun j => by simp) h
  rw [List.range_eq_range']
  simp only [List.size_toArray]
  exact RunF.in_order (fun M F a w ⟨G, hG, hq⟩ hs => ⟨⟨M, G⟩, hq, by subst hG; exact hs⟩) _ _ _ a w this hs
theorem awp_region_draw {id : Nat} {l : List Oper} {fl : List Nat} (hm : cx.P.follows .mixedOrders = true) (h : Run cx.P l.toArray cx.N (fun s' => Q .normal s') l fl s)
    (hok : ordOK l.toArray fl (ancs l []) = true) : AWp cx (.region id l.toArray true) s Q := by
  intro a w hs
  have := Run.toF (fn := fun i => fl.getD i 0) l fl s 0 (fun j => by simp) (fun j => by simp) h
  refine wp_region_runF hm hok (K := fun M F => ∃ G, F = look G ∧ Q .normal ⟨M, G⟩) ?_ hs (fun M F a w ⟨G, hG, hq⟩ hs => ⟨⟨M, G⟩, hq, by subst hG; exact hs⟩)
  rw [List.range_eq_range']
  exact this
theorem thenA_normal {K : AS → Prop} (h : K s) : thenA K Q .normal s := h
end

/-- Types, as far as walks ask for them. -/
inductive TK where
  | plain
  | str
  | int (k : IntKind)
  | bool
  | struct (fs : List (Nat × Nat))
  | array (n e : Nat)
  | slice (e : Nat)
  | ptr (e : Nat)
  | func
structure TE where
  kind : TK
  size : Nat
  bytes : Nat
  zero : List Value
def kindOf : TypeDesc → TK
  | .bool => .bool
  | .int k => .int k
  | .string => .str
  | .pointer e => .ptr e
  | .slice e => .slice e
  | .array n e => .array n e
  | .struct fs => .struct (fs.toList.map fun f => (f.offset, f.type))
  | .func _ _ _ => .func
  | _ => .plain
def teOf (P : Program) (t : TypeId) : Option TE :=
  match P.underlying t, P.info? t with
  | some d, some i => match i.zero with
    | some z => some ⟨kindOf d, i.size, i.bytes, z.cells.toList⟩
    | none => none
  | _, _ => none
def TK.agg : TK → Bool
  | .struct _ | .array _ _ => true
  | _ => false
def TyTab (P : Program) : List (Nat × TE) → Prop
  | [] => True
  | (t, e) :: r => teOf P t = some e ∧ TyTab P r
def tget : List (Nat × TE) → Nat → Option TE
  | [], _ => none
  | (t, e) :: r, n => bif Nat.beq t n then some e else tget r n
theorem TyTab.get {P : Program} {t : Nat} {e : TE} : ∀ {tab : List (Nat × TE)}, TyTab P tab → tget tab t = some e → teOf P t = some e
  | [], _, h => by cases h
  | (u, x) :: r, ⟨h1, h2⟩, h => by
    cases hb : Nat.beq u t with
    | true =>
      simp only [tget, hb, cond_true] at h
      cases h
      rw [← Nat.eq_of_beq_eq_true hb]
      exact h1
    | false =>
      simp only [tget, hb, cond_false] at h
      exact h2.get h
theorem teOf_spec {P : Program} {t : TypeId} {e : TE} (h : teOf P t = some e) : ∃ d i z, P.underlying t = some d ∧ kindOf d = e.kind ∧ P.info? t = some i ∧ i.size = e.size ∧ i.bytes = e.bytes ∧ i.zero = some z ∧ z.cells.toList = e.zero := by
  unfold teOf at h
  split at h
  · rename_i d i hd hi
    split at h
    · rename_i z hz
      cases h
      exact ⟨d, i, z, hd, rfl, hi, rfl, rfl, hz, rfl⟩
    · cases h
  · cases h
section
variable {P : Program} {t : TypeId} {e : TE} {w : World}
theorem run_sizeOf (h : teOf P t = some e) : (sizeOf t).run P w = .ok e.size w := by
  obtain ⟨d, i, z, _, _, hi, hs, _⟩ := teOf_spec h
  simp [sizeOf, typeInfo, hi, hs]
theorem run_isAgg (h : teOf P t = some e) : (isAgg t).run P w = .ok e.kind.agg w := by
  obtain ⟨d, i, z, hd, hk, _⟩ := teOf_spec h
  rw [← hk]
  cases d <;> simp [isAgg, run_underlying hd, kindOf, TK.agg]
theorem run_zeroCells (h : teOf P t = some e) : ∃ z, (zeroValue t).run P w = .ok z w ∧ z.cells.toList = e.zero := by
  obtain ⟨d, i, z, _, _, hi, _, _, hz, hc⟩ := teOf_spec h
  exact ⟨z, by simp [zeroValue, typeInfo, hi, hz], hc⟩
end

/-- What is read at a type from cells on. -/
def loadAV (te : TE) (cells : List AV) : Option AV :=
  bif te.kind.agg then (bif Nat.ble te.size cells.length then some (.agg (cells.take te.size)) else none) else cells[0]?

section
variable {M : List AB} {β : Env} {w : World} {imm : Nat → Prop} {P : Program}
theorem run_loadVar {t : TypeId} {te : TE} (ht : teOf P t = some te) {g off : Nat} {l : List AV} {cs : List Value} (hs : AVsats M β w imm l cs)
    (hc : ∀ (j : Nat) (u : Value), cs[j]? = some u → w.cell? ⟨g, off + j, none⟩ = some u) {x : AV} (hx : loadAV te l = some x) :
    ∃ v, (loadVar t ⟨g, off, none⟩).run P w = .ok v w ∧ AVsat M β w imm x v := by
  have hlen := hs.len
  unfold loadAV at hx
  cases hagg : te.kind.agg with
  | true =>
    rw [hagg] at hx
    simp only [cond_true] at hx
    cases hle : Nat.ble te.size l.length with
    | false => rw [hle] at hx; cases hx
    | true =>
      rw [hle] at hx
      cases hx
      have hle' := Nat.le_of_ble_eq_true hle
      have hr := run_loadCells_list (P := P) (w := w) ⟨g, off, none⟩ (cs.take te.size) (fun j v hj => by
        rw [List.getElem?_take] at hj
        split at hj
        · have := hc j v hj
          have e : (⟨g, off, none⟩ : Addr).add j = ⟨g, off + j, none⟩ := by unfold Addr.add; split <;> simp_all
          rw [e]; exact this
        · cases hj)
      rw [List.length_take, Nat.min_eq_left (by omega)] at hr
      refine ⟨_, ?_, (cs.take te.size).toArray, rfl, by simpa using hs.take_ te.size⟩
      simp [loadVar, run_isAgg ht, hagg, run_sizeOf ht, hr]
  | false =>
    rw [hagg] at hx
    simp only [cond_false] at hx
    obtain ⟨v, h1, h2⟩ := hs.get hx
    refine ⟨v, ?_, h2⟩
    have := hc 0 v h1
    simp only [Nat.add_zero] at this
    simp [loadVar, run_isAgg ht, hagg, this]
end

/-- One thing known says another. -/
def Sub (x y : AV) : Prop := ∀ M β w imm v, AVsat M β w imm x v → AVsat M β w imm y v
theorem Sub.refl (x : AV) : Sub x x := fun _ _ _ _ _ h => h
theorem Sub.any (x : AV) : Sub x .any := fun _ _ _ _ _ _ => trivial
theorem Sub.nil (k : Nat) : Sub (.val (.slice none 0 0)) (.sl k []) := by
  intro M β w imm v h
  cases h
  exact ⟨none, 0, 0, rfl, rfl, Nat.le_refl _, Nat.zero_le _, by simp [AllW], fun h => absurd h (by omega)⟩

-- Things known that name no own memory.
mutual
def AV.free : AV → Bool
  | .any => true
  | .val _ => true
  | .sl _ _ => true
  | .ptr _ _ => false
  | .row _ _ => false
  | .eptr _ _ _ _ => false
  | .dptr l => AV.frees l
  | .agg l => AV.frees l
  | .tup l => AV.frees l
  | .cnd _ x => x.free
  | .cl _ l => AV.frees l
  | .ub _ _ => true
  | .pr _ => true
  | .vw _ _ _ => false
  | .alt x y => x.free && y.free
def AV.frees : List AV → Bool
  | [] => true
  | x :: r => x.free && AV.frees r
end
section
variable {M M' : List AB} {β β' : Env} {w w' : World} {imm imm' : Nat → Prop}
mutual
theorem AVsat.free_ (hi : ∀ b, imm b → imm' b) (hc : ∀ b off, imm b → w'.cell? ⟨b, off, none⟩ = w.cell? ⟨b, off, none⟩) : ∀ (x : AV) (v : Value), x.free = true → AVsat M β w imm x v → AVsat M' β' w' imm' x v
  | .any, _, _, _ => trivial
  | .val _, _, _, hx => hx
  | .sl k es, v, _, hx => DenC.mono hi hc (.sl k es) [v] hx
  | .ptr _ _, _, hf, _ => by cases hf
  | .row _ _, _, hf, _ => by cases hf
  | .eptr _ _ _ _, _, hf, _ => by cases hf
  | .dptr l, v, hf, ⟨g, off, cs, h1, h2, h3, h4⟩ => ⟨g, off, cs, h1, hi _ h2, AVsats.free_ hi hc l cs hf h3, fun j u hj => (hc _ _ h2).trans (h4 j u hj)⟩
  | .agg l, v, hf, ⟨cs, h1, h2⟩ => ⟨cs, h1, AVsats.free_ hi hc l _ hf h2⟩
  | .tup l, v, hf, ⟨cs, h1, h2⟩ => ⟨cs, h1, AVsats.free_ hi hc l _ hf h2⟩
  | .cnd c x, v, hf, ⟨h1, h2⟩ => ⟨fun hcc => AVsat.free_ hi hc x v hf (h1 hcc), h2⟩
  | .cl f caps, v, hf, ⟨cs, h1, h2⟩ => ⟨cs, h1, AVsats.free_ hi hc caps _ hf h2⟩
  | .ub _ _, _, _, hx => hx
  | .pr _, _, _, hx => hx
  | .vw _ _ _, _, hf, _ => by cases hf
  | .alt x y, v, hf, hx => by
    rw [AV.free, Bool.and_eq_true] at hf
    exact hx.elim (fun k => .inl (AVsat.free_ hi hc x v hf.1 k)) (fun k => .inr (AVsat.free_ hi hc y v hf.2 k))
theorem AVsats.free_ (hi : ∀ b, imm b → imm' b) (hc : ∀ b off, imm b → w'.cell? ⟨b, off, none⟩ = w.cell? ⟨b, off, none⟩) : ∀ (l : List AV) (vs : List Value), AV.frees l = true → AVsats M β w imm l vs → AVsats M' β' w' imm' l vs
  | [], _, _, hx => hx
  | a :: as, _, hf, ⟨v, r, h1, h2, h3⟩ => by
    rw [AV.frees, Bool.and_eq_true] at hf
    exact ⟨v, r, h1, AVsat.free_ hi hc a v hf.1 h2, AVsats.free_ hi hc as r hf.2 h3⟩
end
end

def noE : Env := fun _ => none
inductive RetV (P : Program) (s : AS) : ResultVar → AV → Prop
  | tmp {t : Tmp} {x : AV} (h : Sub (look s.F t) x) (hf : x.free = true) : RetV P s (.tmp t) x
  | cell {t : Tmp} {ty : TypeId} {te : TE} {i off : Nat} {e : TypeId} {cells : List AV} {x : AV} (hte : teOf P ty = some te) (hp : look s.F t = .ptr i off) (hM : s.M[i]? = some (.box e cells))
      (hx : loadAV te (cells.drop off) = some x) (hf : x.free = true) : RetV P s (.cell t ty) x
  | row {t : Tmp} {i ver e k : Nat} {es : List D} (hp : look s.F t = .row i ver) (hM : s.M[i]? = some (.row ver e k es)) : RetV P s (.tmp t) (.sl k es)
inductive RetVs (P : Program) (s : AS) : List ResultVar → List AV → Prop
  | nil : RetVs P s [] []
  | cons {r : ResultVar} {rs : List ResultVar} {x : AV} {xs : List AV} (h : RetV P s r x) (hs : RetVs P s rs xs) : RetVs P s (r :: rs) (x :: xs)
def tupOf : List AV → AV
  | [x] => x
  | l => .tup l

def resSem (tmps : Array Value) : ResultVar → Sem Value
  | .tmp t => pure (tmps.getD t undef)
  | .cell a t => do loadVar t (← asAddr (tmps.getD a undef))
theorem results_eq (fn : Func) (tmps : Array Value) : results fn tmps = (Functor.map List.toArray (fn.results.toList.mapM (resSem tmps))) >>= fun (vs : Array Value) => pure (if h : vs.size = 1 then vs[0] else .tuple vs) := by
  rw [← Array.mapM_eq_mapM_toList]
  rfl

section
variable {cx : Cx} {s : AS} {a : Act} {w : World}
theorem box_cells {M : List AB} {β : Env} {S : Nat → Prop} {B : Nat} (h : MemSat S B M β w) {i e : Nat} {cells : List AV} (hi : M[i]? = some (.box e cells)) :
    ∃ g c cs, β i = some (g, c) ∧ w.heap[g]? = some (.cells cs e (0, 0)) ∧ AVsats M β w (immOf S B M β w) cells cs.toList := h.ent i _ hi
theorem cell_at {w : World} {g : Nat} {cs : Array Value} {e : TypeId} {f : Nat × Nat} (hg : w.heap[g]? = some (.cells cs e f)) (off j : Nat) (u : Value) (h : (cs.toList.drop off)[j]? = some u) :
    w.cell? ⟨g, off + j, none⟩ = some u := by
  rw [cell_of_row w g (off + j) cs e f hg]
  rw [List.getElem?_drop] at h
  simpa using h
/-- An own row, read as data by whom its block is open to. -/
theorem row_as_sl {M : List AB} {β : Env} {S : Nat → Prop} {B : Nat} {w : World} (hm : MemSat S B M β w) {imm : Nat → Prop} (hi : ∀ b, immOf S B M β w b → imm b) (hl : ∀ b, live M β b → imm b) {i ver e k : Nat} {es : List D} (hM : M[i]? = some (.row ver e k es)) {v : Value}
    (h : AVsat M β w (immOf S B M β w) (.row i ver) v) : DenC w imm (.sl k es) [v] := by
  obtain ⟨ab, h1, h2⟩ := h
  rw [hM] at h1; cases h1
  have h3 := h2.2 rfl
  obtain ⟨hw, ⟨h4, rfl⟩ | ⟨g, cap, cs, h4, h5, h6, h7, h8, h9⟩⟩ := hm.ent i _ hM
  · rw [h4] at h3
    exact ⟨none, 0, 0, by rw [h3]; rfl, rfl, Nat.le_refl _, Nat.zero_le _, hw, fun h => absurd h (by omega)⟩
  · rw [h4] at h3
    refine ⟨some ⟨g, 0, none⟩, es.length, cap, by rw [h3]; rfl, rfl, h6, h7, hw, fun _ => ⟨g, 0, _, rfl, hl g ⟨i, _, cap, hM, rfl, h4⟩, DenCs.mono hi (fun _ _ _ => rfl) _ _ h9, fun j u hj => ?_⟩⟩
    rw [List.getElem?_take] at hj
    split at hj
    · rw [Nat.zero_add, h5.cell]
      simpa using hj
    · cases hj
theorem run_ret {M : List AB} {β : Env} (hm : MemSat cx.S cx.w0.heap.size M β w) (hM : s.M = M) (hF : ∀ d, AVsat M β w (immOf cx.S cx.w0.heap.size M β w) (look s.F d) (a.tmps.getD d undef)) {imm : Nat → Prop}
    (hi : ∀ b, immOf cx.S cx.w0.heap.size M β w b → imm b) (hl : ∀ b, live M β b → imm b) {r : ResultVar} {x : AV} (h : RetV cx.P s r x) :
    ∃ v, (resSem a.tmps r).run cx.P w = .ok v w ∧ AVsat [] noE w imm x v := by
  cases h with
  | tmp h hf => exact ⟨_, rfl, AVsat.free_ hi (fun _ _ _ => rfl) _ _ hf (h _ _ _ _ _ (hF _))⟩
  | @cell t ty te i off e cells x hte hp hMi hx hf =>
    have h1 := hF t
    rw [hp] at h1
    obtain ⟨g, c, h2, h3, _⟩ := h1
    subst hM
    obtain ⟨g', c', cs, h4, h5, h6⟩ := box_cells hm hMi
    rw [h2] at h4; cases h4
    obtain ⟨v, h7, h8⟩ := run_loadVar hte (h6.drop_ off) (fun j u hj => cell_at h5 off j u hj) hx
    refine ⟨v, ?_, AVsat.free_ hi (fun _ _ _ => rfl) _ _ hf h8⟩
    simp only [resSem, h3]
    simp [asAddr, h7]
  | @row t i ver e k es hp hMi =>
    have h1 := hF t
    rw [hp] at h1
    subst hM
    exact ⟨_, rfl, row_as_sl hm hi hl hMi h1⟩
theorem run_rets {M : List AB} {β : Env} (hm : MemSat cx.S cx.w0.heap.size M β w) (hM : s.M = M) (hF : ∀ d, AVsat M β w (immOf cx.S cx.w0.heap.size M β w) (look s.F d) (a.tmps.getD d undef)) {imm : Nat → Prop}
    (hi : ∀ b, immOf cx.S cx.w0.heap.size M β w b → imm b) (hl : ∀ b, live M β b → imm b) {rs : List ResultVar} {xs : List AV} (h : RetVs cx.P s rs xs) :
    ∃ vs, (rs.mapM (resSem a.tmps)).run cx.P w = .ok vs w ∧ AVsats [] noE w imm xs vs := by
  induction h with
  | nil => exact ⟨[], by simp, rfl⟩
  | cons h hs ih =>
    obtain ⟨v, h1, h2⟩ := run_ret hm hM hF hi hl h
    obtain ⟨vs, h3, h4⟩ := ih
    exact ⟨v :: vs, by simp [List.mapM_cons, h1, h3], v, vs, rfl, h2, h4⟩
theorem run_results {fn : Func} {M : List AB} {β : Env} (hm : MemSat cx.S cx.w0.heap.size M β w) (hM : s.M = M) (hF : ∀ d, AVsat M β w (immOf cx.S cx.w0.heap.size M β w) (look s.F d) (a.tmps.getD d undef)) {imm : Nat → Prop}
    (hi : ∀ b, immOf cx.S cx.w0.heap.size M β w b → imm b) (hl : ∀ b, live M β b → imm b) {xs : List AV}
    (h : RetVs cx.P s fn.results.toList xs) : ∃ v, (results fn a.tmps).run cx.P w = .ok v w ∧ AVsat [] noE w imm (tupOf xs) v := by
  obtain ⟨vs, h1, h2⟩ := run_rets hm hM hF hi hl h
  rw [results_eq]
  refine ⟨if h : vs.toArray.size = 1 then vs.toArray[0] else .tuple vs.toArray, by simp [h1], ?_⟩
  have hl := h2.len
  match xs, vs, hl, h2 with
  | [], [], _, h2 => exact ⟨#[], rfl, h2⟩
  | [x], [v], _, ⟨_, _, e, h3, _⟩ => cases e; exact h3
  | x :: y :: xs, v :: u :: vs, _, h2 => exact ⟨_, rfl, h2⟩
end

def fresh (S : Nat → Prop) (w w' : World) (b : Nat) : Prop := S b ∨ (w.heap.size ≤ b ∧ b < w'.heap.size)

/-- A call that only answers: what it is given is data, what it answers is data; what was there is as it was. -/
def PCalls (P : Program) (f : FuncId) (args : List AV) (res : AV) : Prop :=
  ∀ (S : Nat → Prop) (w : World) (vs : Array Value), (∀ b, S b → b < w.heap.size) → AVsats [] noE w S args vs.toList →
    Calls P f vs w fun e w' => ∃ v, e = .returned v ∧ Below w.heap.size w w' ∧ AVsat [] noE w' (fresh S w w') res v

def argF : Nat → List AV → List (Nat × AV)
  | _, [] => []
  | i, a :: r => (i, a) :: argF (i + 1) r
theorem argF_sat {M : List AB} {β : Env} {w : World} {imm : Nat → Prop} : ∀ {l : List AV} {vs tail : List Value} {pre : List Value} {d : Nat}, AVsats M β w imm l vs →
    AVsat M β w imm (look (argF pre.length l) d) (((pre ++ vs ++ tail)[d]?).getD undef)
  | [], _, _, _, _, _ => trivial
  | a :: as, _, tail, pre, d, ⟨v, r, h1, h2, h3⟩ => by
    subst h1
    cases hb : Nat.beq pre.length d with
    | true =>
      have hd := Nat.eq_of_beq_eq_true hb
      subst hd
      simp only [argF, look, hb, cond_true]
      simpa using h2
    | false =>
      simp only [argF, look, hb, cond_false]
      have := argF_sat (l := as) (vs := r) (tail := tail) (pre := pre ++ [v]) (d := d) h3
      simpa using this

def retQ (P : Program) (fn : Func) (res : AV) (e : Exit) (s : AS) : Prop := (e = .normal ∨ e = .ret) ∧ ∃ xs, RetVs P s fn.results.toList xs ∧ Sub (tupOf xs) res

theorem sat_start {P : Program} {S : Nat → Prop} {w : World} {vs : Array Value} {args : List AV} {N : Nat} (hS : ∀ b, S b → b < w.heap.size) (hN : args.length ≤ N) (hvs : AVsats [] noE w S args vs.toList) :
    Sat ⟨P, N, S, w, [], noE, none⟩ ⟨[], argF 0 args⟩ { tmps := vs ++ Array.replicate (N - vs.size) undef, defers := [] } w := by
  have hlen := hvs.len
  refine ⟨by simp at hlen ⊢; omega, trivial, noE, ⟨Nat.le_refl _, fun i j ab ab' g c c' h => by simp at h, fun i ab h => by simp at h, fun b ⟨i, ab, c, h, _⟩ => by simp at h⟩, Ev.refl _ _ _, fun d => ?_⟩
  have h2 : AVsats [] noE w (immOf S w.heap.size [] noE w) args vs.toList :=
    AVsats.mono (Ev.refl _ _ _) (fun b hb => ⟨.inl hb, hS b hb, fun ⟨i, ab, c, h, _⟩ => by simp at h⟩) (fun _ _ _ => rfl) _ _ hvs
  have := argF_sat (pre := []) (tail := List.replicate (N - vs.size) undef) (d := d) h2
  rw [Array.getD_eq_getD_getElem?]
  rw [← Array.getElem?_toList]
  simpa using this

theorem putObj_turned {M : List AB} {B D : Nat} {w : World} {o : Option (List Deferred)} (o' : Obj) (hD : w.heap[D]? = some (.deferred o)) (hB : B ≤ D) : Turned M B w (w.putObj D o') := by
  refine ⟨rfl, rfl, rfl, by simp, fun b hb => ?_⟩
  by_cases e : b = D
  · subst e
    exact .inr ⟨hB, _, hD, rfl, .inl fun _ _ h => by cases h⟩
  · exact .inl (World.putObj_heap_other e)
theorem DefOk.put {B D : Nat} {w : World} (o' : Obj) : ∀ {ds : List Deferred}, DefOk B ds w → (∀ d' ∈ ds, d' ≠ { target := .collected D, args := #[] }) → DefOk B ds (w.putObj D o')
  | [], _, _ => trivial
  | d :: ds, ⟨⟨D', h1, h2, h3, h4⟩, h5⟩, hne => ⟨⟨D', h1, h2, (World.putObj_heap_other (fun e => hne d (by simp) (by rw [h1, e]))).trans h3, h4⟩, DefOk.put o' h5 fun d' hd' => hne d' (by simp [hd'])⟩
theorem leave_ok {cx : Cx} {s : AS} {fn : Func} {t : Array Value} {R : Ending → World → Prop} (hfin : ∀ w', Sat cx s { tmps := t, defers := [] } w' → ∃ v, (results fn t).run cx.P w' = .ok v w' ∧ R (.returned v) w') :
    ∀ (ds : List Deferred) (w : World), Sat cx s { tmps := t, defers := ds } w → LeavesInM Fence.wide 0 cx.P fn t R ds .returning w
  | [], w, hs => hfin w hs
  | d :: ds, w, hs => by
    obtain ⟨h1, ⟨⟨D, h2, h6, h7, h8⟩, h9⟩, β, h3, h4, h5⟩ := hs
    subst h2
    have ht := putObj_turned (M := s.M) (.deferred none) h7 h6
    refine ⟨by simp, .inl ⟨D, _, rfl, run_takeDeferred h7, leave_ok hfin ds _ ⟨h1, h9.put _ h8, β, h3.turn ht, h4.turn ht (Nat.le_refl _), fun d => AVsat.on (fun _ => ht.imm) ht.cells _ _ (h5 d)⟩⟩⟩
/-- A function's contract from its body's walk, marks and all. -/
theorem calls_of_awp {cx : Cx} (hL : cx.L = none) {f : FuncId} {fn : Func} {c : Code} {args : Array Value} {s : AS} {w : World} {R : Ending → World → Prop} {Q : Exit → AS → Prop} (hf : cx.P.funcs[f]? = some fn) (hb : fn.body = some c) (h : AWp cx c s Q)
    (hs : Sat cx s { tmps := args ++ Array.replicate (fn.ntmps - args.size) undef, defers := [] } w)
    (hfin : ∀ e s' a' w', Q e s' → Sat cx s' a' w' → (e = .normal ∨ e = .ret) ∧ (a'.defers = [] → ∃ v, (results fn a'.tmps).run cx.P w' = .ok v w' ∧ R (.returned v) w')) : Calls cx.P f args w R := by
  refine (callsIn_wide (n := 0)).1 (callsIn_of_wp_marks hf hb trivial ?_)
  have h := h _ _ hs
  rw [hL] at h
  refine wpIn_mono h fun e a' w' ⟨s', h1, h2⟩ => ?_
  have h3 := (hfin e s' a' w' h1 h2).1
  have h4 : LeavesInM Fence.wide 0 cx.P fn a'.tmps R a'.defers .returning w' := leave_ok (fun w'' hs'' => (hfin e s' _ w'' h1 hs'').2 rfl) _ _ h2
  rcases h3 with rfl | rfl <;> exact h4

theorem pcalls_of {P : Program} {f : FuncId} {fn : Func} {c : Code} {args : List AV} {res : AV} {N : Nat} {F : List (Nat × AV)} (hf : P.funcs[f]? = some fn) (hN : fn.ntmps = N) (hb : fn.body = some c) (hF : argF 0 args = F) (hok : Nat.ble args.length N = true)
    (h : ∀ S w, AWp ⟨P, N, S, w, [], noE, none⟩ c ⟨[], F⟩ (retQ P fn res)) : PCalls P f args res := by
  intro S w vs hS hvs
  have hlen := Nat.le_of_ble_eq_true hok
  subst hN
  subst hF
  refine calls_of_awp (cx := ⟨P, fn.ntmps, S, w, [], noE, none⟩) rfl hf hb (h S w) (sat_start hS hlen hvs) fun e s' a' w' ⟨he, xs, hr, hsub⟩ ⟨h1, _, β, h3, h4, h5⟩ => ⟨he, fun _ => ?_⟩
  have hnew : ∀ b, live s'.M β b → w.heap.size ≤ b := fun b hb => by
    rcases h4.new b hb with ⟨i, ab, c, h, _⟩ | h
    · simp at h
    · exact h
  obtain ⟨v, h6, h7⟩ := run_results (cx := ⟨P, fn.ntmps, S, w, [], noE, none⟩) (imm := fresh S w w') h3 rfl h5 (fun b hb => by
      rcases hb.1 with h | h
      · exact .inl h
      · exact .inr ⟨h, hb.2.1⟩) (fun b hb => .inr ⟨hnew b hb, h3.lt hb⟩) hr
  have h8 := hsub _ _ _ _ _ h7
  have hbel : Below w.heap.size w w' := ⟨h4.os, h4.tape, h4.output, h4.size, fun k hk => h4.keep k hk fun ⟨i, ab, c, h, _⟩ => by simp at h⟩
  have h9 : ∃ v, (results fn a'.tmps).run P w' = .ok v w' ∧ ∃ v', Ending.returned v = .returned v' ∧ Below w.heap.size w w' ∧ AVsat [] noE w' (fresh S w w') res v' :=
    ⟨v, h6, v, rfl, hbel, h8⟩
  exact h9

end Go.Proofs.Ytklodolkgdmhoaa

/- The engine, part 6: single operations. -/
namespace Go.Proofs.Ytklodolkgdmhoaa
open Go Go.RowKit

section
variable {P : Program} {o : Oper} {M M' : List AB} {ρ : Operand → AV} {out : AV}

/-- An operation that yields a value and leaves the world. -/
theorem AStep.value (h : ∀ (S : Nat → Prop) (B : Nat) (β : Env) (a : Act) (w : World), MemSat S B M β w → (∀ x ∈ o.op.operands, AVsat M β w (immOf S B M β w) (ρ x) (a.eval x)) →
    ∃ v, (execOp a.eval o).run P w = .ok (.value v) w ∧ AVsat M β w (immOf S B M β w) out v) : AStep P o M ρ M out := by
  intro S B β a w hm hs K Q hK
  obtain ⟨v, h1, h2⟩ := h S B β a w hm hs
  unfold Oper.wp
  rw [h1]
  exact hK v β w (Ev.refl _ _ _) hm h2

theorem astep_move {x : Operand} (ho : o.op = .move x) : AStep P o M ρ M (ρ x) :=
  .value fun S B β a w _ hs => ⟨a.eval x, by simp [execOp, ho], hs x (by simp [ho, Op.operands])⟩
theorem astep_assign {x : Operand} (ho : o.op = .assign x) : AStep P o M ρ M (ρ x) :=
  .value fun S B β a w _ hs => ⟨a.eval x, by simp [execOp, ho], hs x (by simp [ho, Op.operands])⟩

theorem astep_pick {c x y : Operand} {b : Bool} (ho : o.op = .pick c x y) (hc : ρ c = .val (.bool b)) (hx : b = true → Sub (ρ x) out) (hy : b = false → Sub (ρ y) out) : AStep P o M ρ M out :=
  .value fun S B β a w _ hs => by
    have h1 := hs c (by simp [ho, Op.operands])
    rw [hc] at h1
    have h1 : a.eval c = .bool b := h1
    cases b with
    | true => exact ⟨a.eval x, by simp [execOp, ho, h1, asBool], hx rfl _ _ _ _ _ (hs x (by simp [ho, Op.operands]))⟩
    | false => exact ⟨a.eval y, by simp [execOp, ho, h1, asBool], hy rfl _ _ _ _ _ (hs y (by simp [ho, Op.operands]))⟩
theorem sub_cnd {c : Bool} {x y : AV} (hc : c = true) (h : Sub x y) : Sub (.cnd c x) y := fun _ _ _ _ _ ⟨h1, _⟩ => h _ _ _ _ _ (h1 hc)
theorem astep_or {c x y : Operand} {b d : Bool} (ho : o.op = .pick c x y) (hc : ρ c = .val (.bool b)) (hx : ρ x = .val (.bool true)) (hy : ρ y = .cnd (b == false) (.val (.bool d))) : AStep P o M ρ M (.val (.bool (b || d))) :=
  astep_pick ho hc (fun h => by rw [hx, h]; exact Sub.refl _) (fun h => by rw [hy, h]; exact sub_cnd rfl (Sub.refl _))
theorem astep_and {c x y : Operand} {b d : Bool} (ho : o.op = .pick c x y) (hc : ρ c = .val (.bool b)) (hx : ρ x = .cnd (b == true) (.val (.bool d))) (hy : ρ y = .val (.bool false)) : AStep P o M ρ M (.val (.bool (b && d))) :=
  astep_pick ho hc (fun h => by rw [hx, h]; exact sub_cnd rfl (Sub.refl _)) (fun h => by rw [hy, h]; exact Sub.refl _)

/-- Two values that are known. -/
theorem AStep.two {op : BinOp} {t u : TypeId} {x y : Operand} {vx vy v : Value} (ho : o.op = .binOp op t x y u) (hx : ρ x = .val vx) (hy : ρ y = .val vy)
    (hr : ∀ w, (do eqGuard op t x y vx vy; binOp op t vx vy : Sem Value).run P w = .ok v w) : AStep P o M ρ M (.val v) :=
  .value fun S B β a w _ hs => by
    have h1 := hs x (by simp [ho, Op.operands])
    have h2 := hs y (by simp [ho, Op.operands])
    rw [hx] at h1; rw [hy] at h2
    have h1 : a.eval x = vx := h1
    have h2 : a.eval y = vy := h2
    refine ⟨v, ?_, rfl⟩
    have := hr w
    simp only [execOp, ho, h1, h2]
    simp only [Sem.run_bind] at this ⊢
    rw [this]
    rfl

variable {t u : TypeId} {x y : Operand} {k : IntKind} {a b : Int}
theorem astep_add (ho : o.op = .binOp .add t x y u) (hx : ρ x = .val (.int k a)) (hy : ρ y = .val (.int k b)) : AStep P o M ρ M (.val (.int k (k.wrap (a + b)))) :=
  .two ho hx hy fun w => by simp [eqGuard, binOp, Op.intArith]
theorem astep_sub (ho : o.op = .binOp .sub t x y u) (hx : ρ x = .val (.int k a)) (hy : ρ y = .val (.int k b)) : AStep P o M ρ M (.val (.int k (k.wrap (a - b)))) :=
  .two ho hx hy fun w => by simp [eqGuard, binOp, Op.intArith]
theorem astep_mul (ho : o.op = .binOp .mul t x y u) (hx : ρ x = .val (.int k a)) (hy : ρ y = .val (.int k b)) : AStep P o M ρ M (.val (.int k (k.wrap (a * b)))) :=
  .two ho hx hy fun w => by simp [eqGuard, binOp, Op.intArith]
theorem wrap_i64_eq {a : Int} (h0 : -9223372036854775808 ≤ a) (h1 : a ≤ 9223372036854775807) : IntKind.i64.wrap a = a := IntWalk.i64_in a ⟨h0, h1⟩
theorem astep_add64 (ho : o.op = .binOp .add t x y u) (hx : ρ x = .val (.int .i64 a)) (hy : ρ y = .val (.int .i64 b)) (h0 : -9223372036854775808 ≤ a + b) (h1 : a + b ≤ 9223372036854775807) : AStep P o M ρ M (.val (.int .i64 (a + b))) := by
  have := astep_add (P := P) (M := M) ho hx hy; rwa [wrap_i64_eq h0 h1] at this
theorem astep_sub64 (ho : o.op = .binOp .sub t x y u) (hx : ρ x = .val (.int .i64 a)) (hy : ρ y = .val (.int .i64 b)) (h0 : -9223372036854775808 ≤ a - b) (h1 : a - b ≤ 9223372036854775807) : AStep P o M ρ M (.val (.int .i64 (a - b))) := by
  have := astep_sub (P := P) (M := M) ho hx hy; rwa [wrap_i64_eq h0 h1] at this
theorem astep_mul64 (ho : o.op = .binOp .mul t x y u) (hx : ρ x = .val (.int .i64 a)) (hy : ρ y = .val (.int .i64 b)) (h0 : -9223372036854775808 ≤ a * b) (h1 : a * b ≤ 9223372036854775807) : AStep P o M ρ M (.val (.int .i64 (a * b))) := by
  have := astep_mul (P := P) (M := M) ho hx hy; rwa [wrap_i64_eq h0 h1] at this
theorem astep_quo (ho : o.op = .binOp .quo t x y u) (hx : ρ x = .val (.int k a)) (hy : ρ y = .val (.int k b)) (hb : b ≠ 0) : AStep P o M ρ M (.val (.int k (k.wrap (a.tdiv b)))) :=
  .two ho hx hy fun w => by simp [eqGuard, binOp, Op.intDiv, hb]
theorem astep_quo64 (ho : o.op = .binOp .quo t x y u) (hx : ρ x = .val (.int .i64 a)) (hy : ρ y = .val (.int .i64 b)) (ha : 0 ≤ a) (hb : 0 < b) (h1 : a ≤ 9223372036854775807) : AStep P o M ρ M (.val (.int .i64 (a / b))) := by
  have := astep_quo (P := P) (M := M) ho hx hy (by omega)
  rw [Int.tdiv_eq_ediv_of_nonneg ha] at this
  have h2 : 0 ≤ a / b := Int.ediv_nonneg ha (by omega)
  have h3 : a / b ≤ a := Int.ediv_le_self _ ha
  rwa [wrap_i64_eq (by omega) (by omega)] at this
theorem astep_rem (ho : o.op = .binOp .rem t x y u) (hx : ρ x = .val (.int k a)) (hy : ρ y = .val (.int k b)) (hb : b ≠ 0) : AStep P o M ρ M (.val (.int k (a.tmod b))) :=
  .two ho hx hy fun w => by simp [eqGuard, binOp, Op.intDiv, hb]
theorem astep_rem_pos (ho : o.op = .binOp .rem t x y u) (hx : ρ x = .val (.int k a)) (hy : ρ y = .val (.int k b)) (ha : 0 ≤ a) (hb : 0 < b) : AStep P o M ρ M (.val (.int k (a % b))) := by
  have := astep_rem (P := P) (M := M) ho hx hy (by omega)
  rwa [Int.tmod_eq_emod_of_nonneg ha] at this
theorem astep_eql (ho : o.op = .binOp .eql t x y u) (hx : ρ x = .val (.int k a)) (hy : ρ y = .val (.int k b)) : AStep P o M ρ M (.val (.bool (decide (a = b)))) :=
  .two ho hx hy fun w => by simp [eqGuard, binOp, Op.intCmp]; rfl
theorem astep_neq (ho : o.op = .binOp .neq t x y u) (hx : ρ x = .val (.int k a)) (hy : ρ y = .val (.int k b)) : AStep P o M ρ M (.val (.bool (!decide (a = b)))) :=
  .two ho hx hy fun w => by simp [eqGuard, binOp, Op.intCmp]; rfl
theorem astep_lss (ho : o.op = .binOp .lss t x y u) (hx : ρ x = .val (.int k a)) (hy : ρ y = .val (.int k b)) : AStep P o M ρ M (.val (.bool (decide (a < b)))) :=
  .two ho hx hy fun w => by simp [eqGuard, binOp, Op.intCmp]
theorem astep_leq (ho : o.op = .binOp .leq t x y u) (hx : ρ x = .val (.int k a)) (hy : ρ y = .val (.int k b)) : AStep P o M ρ M (.val (.bool (decide (a ≤ b)))) :=
  .two ho hx hy fun w => by simp [eqGuard, binOp, Op.intCmp]
theorem astep_gtr (ho : o.op = .binOp .gtr t x y u) (hx : ρ x = .val (.int k a)) (hy : ρ y = .val (.int k b)) : AStep P o M ρ M (.val (.bool (decide (b < a)))) :=
  .two ho hx hy fun w => by simp [eqGuard, binOp, Op.intCmp]
theorem astep_geq (ho : o.op = .binOp .geq t x y u) (hx : ρ x = .val (.int k a)) (hy : ρ y = .val (.int k b)) : AStep P o M ρ M (.val (.bool (decide (b ≤ a)))) :=
  .two ho hx hy fun w => by simp [eqGuard, binOp, Op.intCmp]

theorem astep_nil_eq {es : List D} {e n : Nat} (ht : P.underlying t = some (.slice e)) (ho : o.op = .binOp .eql t x y u) (hx : ρ x = .sl n es) (hy : ρ y = .val (.slice none 0 0)) : AStep P o M ρ M (.ub es.isEmpty true) :=
  .value fun S B β a w _ hs => by
    have h1 := hs x (by simp [ho, Op.operands])
    have h2 := hs y (by simp [ho, Op.operands])
    rw [hx] at h1; rw [hy] at h2
    have h2 : a.eval y = .slice none 0 0 := h2
    obtain ⟨A, l, c, h3, h4, _, _, _, h5⟩ := h1
    simp at h3
    have hr := Lib.run_eql_slice_nil (P := P) w t e A l c 0 0 ht
    refine ⟨.bool A.isNone, ?_, A.isNone, rfl, fun h => ?_, fun _ => rfl⟩
    · simp [execOp, ho, h2, h3, eqGuard, hr]
    · rcases Nat.eq_zero_or_pos l with h0 | h0
      · cases es with
        | nil => rfl
        | cons => simp at h4; omega
      · obtain ⟨g, off, rows, h6, _⟩ := h5 h0
        rw [h6] at h; cases h
theorem toList_beq (s r : ByteArray) : (s.toList == r.toList) = decide (s = r) := by
  rw [Bool.eq_iff_iff]
  simp only [beq_iff_eq, decide_eq_true_eq]
  constructor
  · intro h
    rw [ByteArray.toList_eq, ByteArray.toList_eq] at h
    exact ByteArray.ext (Array.toList_inj.1 h)
  · intro h
    rw [h]
variable {s r : ByteArray}
theorem astep_eqls (ho : o.op = .binOp .eql t x y u) (hx : ρ x = .val (.string s)) (hy : ρ y = .val (.string r)) : AStep P o M ρ M (.val (.bool (decide (s = r)))) :=
  .two ho hx hy fun w => by rw [← toList_beq]; simp [eqGuard, binOp, Op.stringOp]
theorem astep_neqs (ho : o.op = .binOp .neq t x y u) (hx : ρ x = .val (.string s)) (hy : ρ y = .val (.string r)) : AStep P o M ρ M (.val (.bool (!decide (s = r)))) :=
  .two ho hx hy fun w => by rw [← toList_beq]; simp [eqGuard, binOp, Op.stringOp]
theorem astep_adds (ho : o.op = .binOp .add t x y u) (hx : ρ x = .val (.string s)) (hy : ρ y = .val (.string r)) (h : s.size + r.size ≤ 9223372036854775807) : AStep P o M ρ M (.val (.string (s ++ r))) :=
  .two ho hx hy fun w => by
    have := run_string_add_sum (P := P) w s r h
    simp [eqGuard, binOp, this]
theorem astep_eqlb {p q : Bool} (ht : P.underlying t = some .bool) (ho : o.op = .binOp .eql t x y u) (hx : ρ x = .val (.bool p)) (hy : ρ y = .val (.bool q)) : AStep P o M ρ M (.val (.bool (p == q))) :=
  .two ho hx hy fun w => by
    have := run_eql_bool (P := P) w t p q ht
    simp [eqGuard, this]
theorem astep_neqb {p q : Bool} (ht : P.underlying t = some .bool) (ho : o.op = .binOp .neq t x y u) (hx : ρ x = .val (.bool p)) (hy : ρ y = .val (.bool q)) : AStep P o M ρ M (.val (.bool (!(p == q)))) :=
  .two ho hx hy fun w => by
    have := run_neq_bool (P := P) w t p q ht
    simp [eqGuard, this]
theorem astep_not {p : Bool} (ho : o.op = .unOp .not t x) (hx : ρ x = .val (.bool p)) : AStep P o M ρ M (.val (.bool (!p))) :=
  .value fun S B β a w _ hs => by
    have h1 := hs x (by simp [ho, Op.operands])
    rw [hx] at h1
    have h1 : a.eval x = .bool p := h1
    exact ⟨_, by simp [execOp, ho, h1, Op.unary], rfl⟩
theorem astep_neg (ho : o.op = .unOp .neg t x) (hx : ρ x = .val (.int k a)) : AStep P o M ρ M (.val (.int k (k.wrap (0 - a)))) :=
  .value fun S B β A w _ hs => by
    have h1 := hs x (by simp [ho, Op.operands])
    rw [hx] at h1
    have h1 : A.eval x = .int k a := h1
    exact ⟨_, by simp [execOp, ho, h1, Op.unary, Op.intArith], rfl⟩
end

end Go.Proofs.Ytklodolkgdmhoaa

/- The engine, part 7: operations on memory. -/
namespace Go.Proofs.Ytklodolkgdmhoaa
open Go Go.RowKit

def fieldOf (tab : List (Nat × TE)) (T i : Nat) : Option (Nat × TE) :=
  match tget tab T with
  | some te => match te.kind with
    | .struct fs => match fs[i]? with
      | some (off, ft) => match tget tab ft with
        | some fe => bif Nat.blt 0 fe.size then some (off, fe) else none
        | none => none
      | none => none
    | _ => none
  | none => none
theorem fieldOf_spec {P : Program} {tab : List (Nat × TE)} (ht : TyTab P tab) {T i off : Nat} {fe : TE} (h : fieldOf tab T i = some (off, fe)) :
    ∃ (fields : Array Field) (f : Field), P.underlying T = some (.struct fields) ∧ fields[i]? = some f ∧ f.offset = off ∧ teOf P f.type = some fe ∧ fe.size ≠ 0 := by
  unfold fieldOf at h
  split at h
  · rename_i te hte
    split at h
    · rename_i fs hk
      split at h
      · rename_i o ft hfs
        split at h
        · rename_i fe' hfe
          cases hb : Nat.blt 0 fe'.size with
          | false => rw [hb] at h; cases h
          | true =>
            rw [hb] at h
            cases h
            obtain ⟨d, i', z, hd, hkd, _⟩ := teOf_spec (ht.get hte)
            cases d <;> simp [kindOf, hk] at hkd
            rename_i fields
            subst hkd
            rw [List.getElem?_map] at hfs
            obtain ⟨f, hf, hp⟩ := Option.map_eq_some_iff.1 hfs
            simp only [Prod.mk.injEq] at hp
            refine ⟨fields, f, hd, by simpa using hf, hp.1, by rw [hp.2]; exact ht.get hfe, ?_⟩
            have hb' := hb
            rw [Nat.blt_eq] at hb'
            omega
        · cases h
      · cases h
    · cases h
  · cases h

def shiftP (n : Nat) : AV → Option AV
  | .ptr i o => some (.ptr i (o + n))
  | .eptr i v j o => some (.eptr i v j (o + n))
  | .dptr l => some (.dptr (l.drop n))
  | _ => none
theorem addr_add (g off n : Nat) : (⟨g, off, none⟩ : Addr).add n = ⟨g, off + n, none⟩ := by unfold Addr.add; split <;> simp_all
section
variable {M : List AB} {β : Env} {w : World} {imm : Nat → Prop}
theorem shiftP_sat {n : Nat} {x y : AV} {v : Value} (h : shiftP n x = some y) (hx : AVsat M β w imm x v) : ∃ g off, v = .pointer (some ⟨g, off, none⟩) ∧ AVsat M β w imm y (.pointer (some ⟨g, off + n, none⟩)) ∨ (∃ i ver j o, x = .eptr i ver j o) := by
  cases x with
  | ptr i o =>
    cases h
    obtain ⟨g, c, h1, h2, h3⟩ := hx
    exact ⟨g, o, .inl ⟨h2, g, c, h1, rfl, h3⟩⟩
  | eptr i ver j o => exact ⟨0, 0, .inr ⟨i, ver, j, o, rfl⟩⟩
  | dptr l =>
    cases h
    obtain ⟨g, off, cs, h1, h2, h3, h4⟩ := hx
    refine ⟨g, off, .inl ⟨h1, g, off + n, cs.drop n, rfl, h2, h3.drop_ n, fun j u hj => ?_⟩⟩
    rw [List.getElem?_drop] at hj
    rw [Nat.add_assoc]
    exact h4 _ _ hj
  | _ => cases h
end

section
variable {P : Program} {o : Oper} {M M' : List AB} {ρ : Operand → AV} {out : AV} {tab : List (Nat × TE)}

theorem run_fieldAt (ht : TyTab P tab) {T i off : Nat} {fe : TE} (h : fieldOf tab T i = some (off, fe)) (g o : Nat) (w : World) :
    (Instr.fieldAt T (.pointer (some ⟨g, o, none⟩)) i).run P w = .ok (.pointer (some ⟨g, o + off, none⟩)) w := by
  obtain ⟨fields, f, h1, h2, h3, h4, h5⟩ := fieldOf_spec ht h
  simp [Instr.fieldAt, run_underlying h1, h2, Instr.sureAddr, fieldPlace, run_sizeOf h4, h5, addr_add, h3]
theorem astep_fieldAddr (ht : TyTab P tab) {T i off : Nat} {fe : TE} {x : Operand} (ho : o.op = .fieldAddr T x i) (hf : fieldOf tab T i = some (off, fe)) (hx : shiftP off (ρ x) = some out) (hne : ∀ i ver j o, ρ x ≠ .eptr i ver j o) : AStep P o M ρ M out :=
  .value fun S B β a w _ hs => by
    have h1 := hs x (by simp [ho, Op.operands])
    obtain ⟨g, o', h2 | ⟨i, ver, j, o', h2⟩⟩ := shiftP_sat hx h1
    · exact ⟨_, by simp [execOp, ho, h2.1, run_fieldAt ht hf], h2.2⟩
    · exact absurd h2 (hne _ _ _ _)
/-- A struct's field, out of a value. -/
theorem astep_field (ht : TyTab P tab) {T i off : Nat} {fe : TE} {x : Operand} {l : List AV} (ho : o.op = .field T x i) (hf : fieldOf tab T i = some (off, fe)) (hx : ρ x = .agg l) (hl : loadAV fe (l.drop off) = some out) : AStep P o M ρ M out :=
  .value fun S B β a w _ hs => by
    have h1 := hs x (by simp [ho, Op.operands])
    rw [hx] at h1
    obtain ⟨cs, h2, h3⟩ := h1
    obtain ⟨fields, f, h4, h5, h6, h7, h8⟩ := fieldOf_spec ht hf
    have h9 := h3.drop_ off
    unfold loadAV at hl
    cases hagg : fe.kind.agg with
    | true =>
      rw [hagg] at hl
      simp only [cond_true] at hl
      cases hle : Nat.ble fe.size (l.drop off).length with
      | false => rw [hle] at hl; cases hl
      | true =>
        rw [hle] at hl
        cases hl
        refine ⟨.agg (cs.extract off (off + fe.size)), by simp [execOp, ho, h2, Instr.field, run_underlying h4, h5, part, asAgg, run_isAgg h7, hagg, run_sizeOf h7, h6], _, rfl, ?_⟩
        have := h9.take_ fe.size
        simpa [Array.toList_extract, List.extract_eq_take_drop] using this
    | false =>
      rw [hagg] at hl
      simp only [cond_false] at hl
      obtain ⟨v, h10, h11⟩ := h9.get hl
      rw [List.getElem?_drop] at h10
      have h12 : cs[off]? = some v := by simpa using h10
      exact ⟨v, by simp [execOp, ho, h2, Instr.field, run_underlying h4, h5, part, asAgg, run_isAgg h7, hagg, h6, h12], h11⟩

theorem astep_load (ht : TyTab P tab) {T i off e : Nat} {te : TE} {x : Operand} {cells : List AV} (ho : o.op = .load T x) (hT : tget tab T = some te) (hx : ρ x = .ptr i off) (hM : M[i]? = some (.box e cells))
    (hl : loadAV te (cells.drop off) = some out) : AStep P o M ρ M out :=
  .value fun S B β a w hm hs => by
    have h1 := hs x (by simp [ho, Op.operands])
    rw [hx] at h1
    obtain ⟨g, c, h2, h3, _⟩ := h1
    obtain ⟨g', c', cs, h4, h5, h6⟩ := box_cells hm hM
    rw [h2] at h4; cases h4
    obtain ⟨v, h7, h8⟩ := run_loadVar (ht.get hT) (h6.drop_ off) (fun j u hj => cell_at h5 off j u hj) hl
    exact ⟨v, by simp [execOp, ho, h3, Instr.loadAt, Instr.sureAddr, h7], h8⟩
/-- Out of memory that is data: no own memory is looked at. -/
theorem astep_load_d (ht : TyTab P tab) {T : Nat} {te : TE} {x : Operand} {l : List AV} (ho : o.op = .load T x) (hT : tget tab T = some te) (hx : ρ x = .dptr l) (hl : loadAV te l = some out) : AStep P o M ρ M out :=
  .value fun S B β a w _ hs => by
    have h1 := hs x (by simp [ho, Op.operands])
    rw [hx] at h1
    obtain ⟨g, off, cs, h2, _, h3, h4⟩ := h1
    obtain ⟨v, h7, h8⟩ := run_loadVar (ht.get hT) h3 h4 hl
    exact ⟨v, by simp [execOp, ho, h2, Instr.loadAt, Instr.sureAddr, h7], h8⟩

/-- The cells of a value that is put into memory. -/
def cellsOf : AV → List AV
  | .agg l => l
  | x => [x]
def AV.oneC : AV → Bool
  | .val v => v.oneCell'
  | .sl _ _ => true
  | .ptr _ _ => true
  | .cl _ _ => true
  | .dptr _ => true
  | _ => false
theorem oneC_sat {β : Env} {w : World} {imm : Nat → Prop} {x : AV} {v : Value} (h : x.oneC = true) (hx : AVsat M β w imm x v) : v.oneCell' = true := by
  cases x with
  | val u => cases hx; exact h
  | sl k es => obtain ⟨A, n, c, h1, _⟩ := hx; simp at h1; rw [h1]; rfl
  | ptr i off => obtain ⟨g, c, _, h2, _⟩ := hx; rw [h2]; rfl
  | cl f caps => obtain ⟨cs, h1, _⟩ := hx; rw [h1]; rfl
  | dptr l => obtain ⟨g, off, cs, h1, _⟩ := hx; rw [h1]; rfl
  | _ => cases h
def oneCs (l : List AV) : Bool := l.all AV.oneC
/-- Is a word on a row the last word? -/
def freshRow (M : List AB) (i ver : Nat) : Bool := match M[i]? with
  | some (.row ver' _ _ _) => Nat.beq ver' ver
  | some (.rowo ver' _ _ _ _ _) => Nat.beq ver' ver
  | _ => false
def oneCM (M : List AB) : AV → Bool
  | .row i ver => freshRow M i ver
  | x => x.oneC
def oneCsM (M : List AB) (l : List AV) : Bool := l.all (oneCM M)
theorem oneCM_sat {M : List AB} {β : Env} {w : World} {imm : Nat → Prop} {x : AV} {v : Value} (h : oneCM M x = true) (hx : AVsat M β w imm x v) : v.oneCell' = true := by
  cases x with
  | row i ver =>
    obtain ⟨ab, h1, h2⟩ := hx
    simp only [oneCM, freshRow, h1] at h
    cases ab with
    | row ver' e k es =>
      have := h2.2 (Nat.eq_of_beq_eq_true h)
      rw [this]
      cases β i <;> rfl
    | gone => cases h
    | box _ _ => cases h
    | iter _ _ => cases h
    | rowo ver' e k pre mo cells =>
      have := h2.2 (Nat.eq_of_beq_eq_true h)
      rw [this]
      cases β i <;> rfl
  | val u => exact oneC_sat (x := .val u) h hx
  | sl k es => exact oneC_sat (x := .sl k es) h hx
  | ptr i off => exact oneC_sat (x := .ptr i off) h hx
  | cl f caps => exact oneC_sat (x := .cl f caps) h hx
  | dptr l => exact oneC_sat (x := .dptr l) h hx
  | _ => cases h
theorem cellsOf_satM {M : List AB} {β : Env} {w : World} {imm : Nat → Prop} {x : AV} {v : Value} (h : oneCsM M (cellsOf x) = true) (hx : AVsat M β w imm x v) : AVsats M β w imm (cellsOf x) v.cells.toList ∧ ∀ u ∈ v.cells.toList, u.oneCell' = true := by
  have one : ∀ (x : AV) (v : Value), oneCM M x = true → AVsat M β w imm x v → AVsats M β w imm [x] v.cells.toList ∧ ∀ u ∈ v.cells.toList, u.oneCell' = true := by
    intro x v h1 h2
    have h3 := oneCM_sat h1 h2
    have h4 : v.cells = #[v] := by cases v <;> first | rfl | cases h3
    rw [h4]
    exact ⟨⟨v, [], rfl, h2, rfl⟩, fun u hu => by simp at hu; subst hu; exact h3⟩
  have many : ∀ (l : List AV) (vs : List Value), l.all (oneCM M) = true → AVsats M β w imm l vs → ∀ u ∈ vs, u.oneCell' = true := by
    intro l
    induction l with
    | nil => intro vs _ h u hu; rw [h] at hu; cases hu
    | cons a as ih =>
      rintro vs h1 ⟨v, r, rfl, h2, h3⟩ u hu
      rw [List.all_cons, Bool.and_eq_true] at h1
      rcases List.mem_cons.1 hu with h4 | h4
      · subst h4; exact oneCM_sat h1.1 h2
      · exact ih r h1.2 h3 u h4
  have other : (∀ l, x ≠ .agg l) → AVsats M β w imm (cellsOf x) v.cells.toList ∧ ∀ u ∈ v.cells.toList, u.oneCell' = true := by
    intro hne
    have e : cellsOf x = [x] := by cases x <;> first | rfl | exact absurd rfl (hne _)
    rw [e] at h ⊢
    simp only [oneCsM, List.all_cons, List.all_nil, Bool.and_true] at h
    exact one x v h hx
  cases x with
  | agg l =>
    obtain ⟨cs, h1, h2⟩ := hx
    subst h1
    exact ⟨h2, many l _ h h2⟩
  | _ => exact other (by intro l; simp)
theorem cellsOf_sat {β : Env} {w : World} {imm : Nat → Prop} {x : AV} {v : Value} (h : oneCs (cellsOf x) = true) (hx : AVsat M β w imm x v) : AVsats M β w imm (cellsOf x) v.cells.toList ∧ ∀ u ∈ v.cells.toList, u.oneCell' = true := by
  have one : ∀ (x : AV) (v : Value), x.oneC = true → AVsat M β w imm x v → AVsats M β w imm [x] v.cells.toList ∧ ∀ u ∈ v.cells.toList, u.oneCell' = true := by
    intro x v h1 h2
    have h3 := oneC_sat h1 h2
    have h4 : v.cells = #[v] := by cases v <;> first | rfl | cases h3
    rw [h4]
    exact ⟨⟨v, [], rfl, h2, rfl⟩, fun u hu => by simp at hu; subst hu; exact h3⟩
  have many : ∀ (l : List AV) (vs : List Value), l.all AV.oneC = true → AVsats M β w imm l vs → ∀ u ∈ vs, u.oneCell' = true := by
    intro l
    induction l with
    | nil => intro vs _ h u hu; rw [h] at hu; cases hu
    | cons a as ih =>
      rintro vs h1 ⟨v, r, rfl, h2, h3⟩ u hu
      rw [List.all_cons, Bool.and_eq_true] at h1
      rcases List.mem_cons.1 hu with h4 | h4
      · subst h4; exact oneC_sat h1.1 h2
      · exact ih r h1.2 h3 u h4
  cases x with
  | agg l =>
    obtain ⟨cs, h1, h2⟩ := hx
    subst h1
    exact ⟨h2, many l _ h h2⟩
  | any => simp [cellsOf, oneCs, AV.oneC] at h
  | row _ _ => simp [cellsOf, oneCs, AV.oneC] at h
  | eptr _ _ _ _ => simp [cellsOf, oneCs, AV.oneC] at h
  | tup _ => simp [cellsOf, oneCs, AV.oneC] at h
  | ub _ _ => simp [cellsOf, oneCs, AV.oneC] at h
  | alt _ _ => simp [cellsOf, oneCs, AV.oneC] at h
  | pr _ => simp [cellsOf, oneCs, AV.oneC] at h
  | vw _ _ _ => simp [cellsOf, oneCs, AV.oneC] at h
  | cnd _ _ => simp [cellsOf, oneCs, AV.oneC] at h
  | val u => exact one _ _ (by simpa [cellsOf, oneCs] using h) hx
  | sl k es => exact one _ _ rfl hx
  | ptr i off => exact one _ _ rfl hx
  | cl f caps => exact one _ _ rfl hx
  | dptr l => exact one _ _ rfl hx

/-- An operation that makes one new own block. -/
theorem AStep.newBox {e : TypeId} {cells : List AV} (h : ∀ (S : Nat → Prop) (B : Nat) (β : Env) (a : Act) (w : World), MemSat S B M β w → (∀ x ∈ o.op.operands, AVsat M β w (immOf S B M β w) (ρ x) (a.eval x)) →
    ∃ cs, (execOp a.eval o).run P w = .ok (.value (.pointer (some ⟨w.heap.size, 0, none⟩))) (w.alloc (.cells cs e)) ∧ AVsats M β w (immOf S B M β w) cells cs.toList) : AStep P o M ρ (M ++ [.box e cells]) (.ptr M.length 0) := by
  intro S B β a w hm hs K Q hK
  obtain ⟨cs, h1, h2⟩ := h S B β a w hm hs
  unfold Oper.wp
  rw [h1]
  have hb : Below w.heap.size w (w.alloc (.cells cs e)) := (Below.refl _ _).alloc (Nat.le_refl _) _
  obtain ⟨e1, e2⟩ := hm.push (ab := .box e cells) (x := some (w.heap.size, 0)) hb (fun g c h => by cases h; exact Nat.le_refl _)
    (fun hE => ⟨w.heap.size, 0, cs, rfl, heap_alloc_new w _, h2.ev hE⟩)
  exact hK _ _ _ e1 e2 ⟨w.heap.size, 0, by simp, rfl, .box e cells, by simp, rfl⟩
theorem astep_box {T : Nat} {x : Operand} (ho : o.op = .box T x) (hx : oneCsM M (cellsOf (ρ x)) = true) : AStep P o M ρ (M ++ [.box T (cellsOf (ρ x))]) (.ptr M.length 0) :=
  .newBox fun S B β a w _ hs => by
    have h1 := hs x (by simp [ho, Op.operands])
    refine ⟨(a.eval x).cells, ?_, (cellsOf_satM hx h1).1⟩
    simp [execOp, ho, Instr.box, newVar, newRow]
theorem astep_alloc (ht : TyTab P tab) {T : Nat} {te : TE} (ho : o.op = .alloc T) (hT : tget tab T = some te) : AStep P o M ρ (M ++ [.box T (te.zero.map .val)]) (.ptr M.length 0) :=
  .newBox fun S B β a w _ _ => by
    obtain ⟨z, h1, h2⟩ := run_zeroCells (P := P) (w := w) (ht.get hT)
    refine ⟨z.cells, by simp [execOp, ho, Instr.alloc, newVar, newRow, h1], ?_⟩
    rw [h2]
    have : ∀ (l : List Value), AVsats M β w (immOf S B M β w) (l.map .val) l := by
      intro l
      induction l with
      | nil => rfl
      | cons a as ih => exact ⟨a, as, rfl, rfl, ih⟩
    exact this _

/-- Cells written over cells, from a place on. -/
def putCells (cells : List AV) (off : Nat) (new : List AV) : List AV := cells.take off ++ new ++ cells.drop (off + new.length)
theorem run_storeVar (ht : TyTab P tab) {T : Nat} {te : TE} (hT : tget tab T = some te) {w : World} {g off : Nat} {cs : Array Value} {e : TypeId} {v : Value} (hg : w.heap[g]? = some (.cells cs e (0, 0)))
    (hsz : v.cells.size = te.size) (h1 : ∀ u ∈ v.cells.toList, u.oneCell' = true) (hfit : off + te.size ≤ cs.size) :
    (storeVar T ⟨g, off, none⟩ v).run P w = .ok () (w.setRow g (cs.toList.take off ++ v.cells.toList ++ cs.toList.drop (off + v.cells.toList.length)).toArray) := by
  have h := run_storeCells_at P g off e v.cells.toList 0 cs w hg (by simp; omega) h1
  simp only [Nat.add_zero] at h
  simp [storeVar, run_sizeOf (ht.get hT), hsz, h]
theorem putCells_sat {β : Env} {w : World} {imm : Nat → Prop} {cells new : List AV} {cs ns : List Value} {off : Nat} (h : AVsats M β w imm cells cs) (hn : AVsats M β w imm new ns) :
    AVsats M β w imm (putCells cells off new) (cs.take off ++ ns ++ cs.drop (off + ns.length)) := by
  unfold putCells
  rw [hn.len]
  exact ((h.take_ off).append hn).append (h.drop_ _)

theorem astep_store (ht : TyTab P tab) {T i off e : Nat} {te : TE} {x y : Operand} {cells : List AV} (ho : o.op = .store T x y) (hT : tget tab T = some te) (hx : ρ x = .ptr i off) (hM : M[i]? = some (.box e cells))
    (hy : oneCsM M (cellsOf (ρ y)) = true) (hsz : (cellsOf (ρ y)).length = te.size) (hfit : Nat.ble (off + te.size) cells.length = true) : AStep P o M ρ (M.set i (.box e (putCells cells off (cellsOf (ρ y))))) (.val undef) := by
  intro S B β a w hm hs K Q hK
  have h1 := hs x (by simp [ho, Op.operands])
  have h2 := hs y (by simp [ho, Op.operands])
  rw [hx] at h1
  obtain ⟨g, c, h3, h4, _⟩ := h1
  obtain ⟨g', c', cs, h5, h6, h7⟩ := box_cells hm hM
  rw [h3] at h5; cases h5
  obtain ⟨h8, h9⟩ := cellsOf_satM hy h2
  have hl8 := h8.len
  have hl7 := h7.len
  have hfit' := Nat.le_of_ble_eq_true hfit
  have hr := run_storeVar ht hT h6 (v := a.eval y) (off := off) (by simp at hl8; omega) h9 (by simp at hl7; omega)
  unfold Oper.wp
  have hrun : (execOp a.eval o).run P w = .ok .skip (w.setRow g (cs.toList.take off ++ (a.eval y).cells.toList ++ cs.toList.drop (off + (a.eval y).cells.toList.length)).toArray) := by
    simp only [execOp, ho, h4, Instr.storeAt, Instr.sureAddr]
    simp only [Sem.run_bind, Sem.run_pure, Result.andThen_ok, hr]
  rw [hrun]
  have hs : setE β i (some (g, c)) = β := by funext j; by_cases hj : j = i <;> simp [setE, hj, h3]
  have := hm.set_ (w' := w.setRow g (cs.toList.take off ++ (a.eval y).cells.toList ++ cs.toList.drop (off + (a.eval y).cells.toList.length)).toArray)
    (ab' := .box e (putCells cells off (cellsOf (ρ y)))) (x := some (g, c)) hM rfl rfl rfl rfl (by simp)
    (fun b _ hne => setRow_other w g b _ (fun e => hne c (by rw [h3, e]))) (fun g' c' h => by cases h; exact .inl ⟨c, h3⟩) ⟨rfl, h3.symm⟩
    (fun hE => ⟨g, c, _, rfl, setRow_heap w g cs _ e _ h6, by
      have := putCells_sat (off := off) (h7.ev hE) (h8.ev hE)
      simpa using this⟩)
  rw [hs] at this
  exact hK _ _ _ this.1 this.2 rfl
end

end Go.Proofs.Ytklodolkgdmhoaa

/- The engine, part 8: slices, strings, calls. -/
namespace Go.Proofs.Ytklodolkgdmhoaa
open Go Go.RowKit

/-- The element type of a slice type, and its size and bytes. -/
def elemOf_ (tab : List (Nat × TE)) (T : Nat) : Option (Nat × TE) :=
  match tget tab T with
  | some te => match te.kind with
    | .slice e => match tget tab e with
      | some ee => some (e, ee)
      | none => none
    | _ => none
  | none => none
theorem elemOf_spec {P : Program} {tab : List (Nat × TE)} (ht : TyTab P tab) {T e : Nat} {ee : TE} (h : elemOf_ tab T = some (e, ee)) : P.underlying T = some (.slice e) ∧ teOf P e = some ee := by
  unfold elemOf_ at h
  split at h
  · rename_i te hte
    split at h
    · rename_i e' hk
      split at h
      · rename_i ee' hee
        cases h
        obtain ⟨d, i', z, hd, hkd, _⟩ := teOf_spec (ht.get hte)
        cases d <;> simp [kindOf, hk] at hkd
        subst hkd
        exact ⟨hd, ht.get hee⟩
      · cases h
    · cases h
  · cases h
def kindAt (tab : List (Nat × TE)) (T : Nat) : Option TK := (tget tab T).map (·.kind)
theorem kindAt_spec {P : Program} {tab : List (Nat × TE)} (ht : TyTab P tab) {T : Nat} {k : TK} (h : kindAt tab T = some k) : ∃ d, P.underlying T = some d ∧ kindOf d = k := by
  unfold kindAt at h
  obtain ⟨te, h1, h2⟩ := Option.map_eq_some_iff.1 h
  obtain ⟨d, i, z, h3, h4, _⟩ := teOf_spec (ht.get h1)
  exact ⟨d, h3, h4.trans h2⟩
theorem kindAt_str {P : Program} {tab : List (Nat × TE)} (ht : TyTab P tab) {T : Nat} (h : kindAt tab T = some .str) : P.underlying T = some .string := by
  obtain ⟨d, h1, h2⟩ := kindAt_spec ht h
  cases d <;> simp [kindOf] at h2
  exact h1
theorem kindAt_int {P : Program} {tab : List (Nat × TE)} (ht : TyTab P tab) {T : Nat} {k : IntKind} (h : kindAt tab T = some (.int k)) : P.underlying T = some (.int k) := by
  obtain ⟨d, h1, h2⟩ := kindAt_spec ht h
  cases d <;> simp [kindOf] at h2
  subst h2; exact h1
theorem kindAt_bool {P : Program} {tab : List (Nat × TE)} (ht : TyTab P tab) {T : Nat} (h : kindAt tab T = some .bool) : P.underlying T = some .bool := by
  obtain ⟨d, h1, h2⟩ := kindAt_spec ht h
  cases d <;> simp [kindOf] at h2
  exact h1
theorem kindAt_arr {P : Program} {tab : List (Nat × TE)} (ht : TyTab P tab) {T n e : Nat} (h : kindAt tab T = some (.array n e)) : P.underlying T = some (.array n e) := by
  obtain ⟨d, h1, h2⟩ := kindAt_spec ht h
  cases d <;> simp [kindOf] at h2
  obtain ⟨rfl, rfl⟩ := h2; exact h1
theorem P_elem {P : Program} {T e : Nat} (h : P.underlying T = some (.slice e)) : P.elem T = e := by simp [Program.elem, h]

section
variable {P : Program} {o : Oper} {M M' : List AB} {ρ : Operand → AV} {out : AV} {tab : List (Nat × TE)}

/-- len -/
theorem astep_len_s (ht : TyTab P tab) {T : Nat} {x : Operand} {s : ByteArray} (ho : o.op = .call { callee := .builtin .len, args := #[x], argTypes := #[T] }) (hT : kindAt tab T = some .str) (hx : ρ x = .val (.string s)) :
    AStep P o M ρ M (.val (.int .i64 s.size)) :=
  .value fun S B β a w _ hs => by
    have h1 := hs x (by simp [ho, Op.operands, Call.operands])
    rw [hx] at h1
    have h1 : a.eval x = .string s := h1
    exact ⟨_, by simp [execOp, ho, h1, resolve, invoke, builtin, Builtin.len_, run_underlying (kindAt_str ht hT), goInt], rfl⟩
theorem run_len_sl {T e : Nat} (hu : P.underlying T = some (.slice e)) (ty : TypeId) (A : Option Addr) (n c : Nat) (w : World) : (Builtin.len_ #[T] ty #[.slice A n c]).run P w = .ok (.int .i64 n) w := by
  simp [Builtin.len_, run_underlying hu, goInt]
theorem astep_len (ht : TyTab P tab) {T e : Nat} {ee : TE} {x : Operand} {k : Nat} {es : List D} (ho : o.op = .call { callee := .builtin .len, args := #[x], argTypes := #[T] }) (hT : elemOf_ tab T = some (e, ee)) (hx : ρ x = .sl k es) :
    AStep P o M ρ M (.val (.int .i64 es.length)) :=
  .value fun S B β a w _ hs => by
    have h1 := hs x (by simp [ho, Op.operands, Call.operands])
    rw [hx] at h1
    obtain ⟨A, n, c, h2, h3, _⟩ := h1
    simp at h2
    exact ⟨_, by simp [execOp, ho, h2, resolve, invoke, builtin, run_len_sl (elemOf_spec ht hT).1]; rfl, by rw [h3]; rfl⟩
theorem astep_len_nil (ht : TyTab P tab) {T e : Nat} {ee : TE} {x : Operand} (ho : o.op = .call { callee := .builtin .len, args := #[x], argTypes := #[T] }) (hT : elemOf_ tab T = some (e, ee)) (hx : ρ x = .val (.slice none 0 0)) :
    AStep P o M ρ M (.val (.int .i64 0)) :=
  .value fun S B β a w _ hs => by
    have h1 := hs x (by simp [ho, Op.operands, Call.operands])
    rw [hx] at h1
    have h1 : a.eval x = .slice none 0 0 := h1
    exact ⟨_, by simp [execOp, ho, h1, resolve, invoke, builtin, run_len_sl (elemOf_spec ht hT).1], rfl⟩
theorem rowVal_form (b : Option (Nat × Nat)) (n : Nat) (h : b = none → n = 0) : ∃ A c, rowVal b n = .slice A n c := by
  cases b with
  | none => rw [h rfl]; exact ⟨none, 0, rfl⟩
  | some gc => exact ⟨some ⟨gc.1, 0, none⟩, gc.2, rfl⟩
theorem row_val {S : Nat → Prop} {B : Nat} {β : Env} {w : World} (hm : MemSat S B M β w) {i ver e k : Nat} {es : List D} (hM : M[i]? = some (.row ver e k es)) {v : Value} (h : AVsat M β w (immOf S B M β w) (.row i ver) v) :
    v = rowVal (β i) es.length ∧ (β i = none → es = []) := by
  obtain ⟨ab, h1, h2⟩ := h
  rw [hM] at h1; cases h1
  refine ⟨h2.2 rfl, fun hn => ?_⟩
  rcases (hm.ent i _ hM).2 with ⟨_, h3⟩ | ⟨g, c, cs, h3, _⟩
  · exact h3
  · rw [hn] at h3; cases h3
theorem astep_len_row (ht : TyTab P tab) {T e : Nat} {ee : TE} {x : Operand} {i ver e' k : Nat} {es : List D} (ho : o.op = .call { callee := .builtin .len, args := #[x], argTypes := #[T] }) (hT : elemOf_ tab T = some (e, ee)) (hx : ρ x = .row i ver) (hM : M[i]? = some (.row ver e' k es)) :
    AStep P o M ρ M (.val (.int .i64 es.length)) :=
  .value fun S B β a w hm hs => by
    have h1 := hs x (by simp [ho, Op.operands, Call.operands])
    rw [hx] at h1
    obtain ⟨h2, h3⟩ := row_val hm hM h1
    obtain ⟨A, c, h4⟩ := rowVal_form (β i) es.length (fun h => by rw [h3 h]; rfl)
    rw [h4] at h2
    exact ⟨_, by simp [execOp, ho, h2, resolve, invoke, builtin, run_len_sl (elemOf_spec ht hT).1], rfl⟩

/-- min, max -/
theorem astep_min {x y : Operand} {ts : Array TypeId} {k k' : IntKind} {a b : Int} (ho : o.op = .call { callee := .builtin .min, args := #[x, y], argTypes := ts }) (hx : ρ x = .val (.int k a)) (hy : ρ y = .val (.int k' b)) : AStep P o M ρ M (.val (.int k (min a b))) :=
  .value fun S B β A w _ hs => by
    have h1 := hs x (by simp [ho, Op.operands, Call.operands])
    have h2 := hs y (by simp [ho, Op.operands, Call.operands])
    rw [hx] at h1; rw [hy] at h2
    have h1 : A.eval x = .int k a := h1
    have h2 : A.eval y = .int k' b := h2
    refine ⟨.int k (min a b), ?_, rfl⟩
    have := run_min_int2 (P := P) w ts o.type k k' a b
    simp only [execOp, ho, resolve, invoke, builtin]
    simp [h1, h2, this]
    omega
theorem astep_max {x y : Operand} {ts : Array TypeId} {k k' : IntKind} {a b : Int} (ho : o.op = .call { callee := .builtin .max, args := #[x, y], argTypes := ts }) (hx : ρ x = .val (.int k a)) (hy : ρ y = .val (.int k' b)) : AStep P o M ρ M (.val (.int k (max a b))) :=
  .value fun S B β A w _ hs => by
    have h1 := hs x (by simp [ho, Op.operands, Call.operands])
    have h2 := hs y (by simp [ho, Op.operands, Call.operands])
    rw [hx] at h1; rw [hy] at h2
    have h1 : A.eval x = .int k a := h1
    have h2 : A.eval y = .int k' b := h2
    refine ⟨.int k (max a b), ?_, rfl⟩
    have := run_max_int2 (P := P) w ts o.type k k' a b
    simp only [execOp, ho, resolve, invoke, builtin]
    simp [h1, h2, this]
    omega

/-- An element's place, in a slice that is data. -/
theorem astep_idx (ht : TyTab P tab) {T e : Nat} {ee : TE} {x y : Operand} {es : List D} {q : IntKind} {n : Int} {d : D} (ho : o.op = .indexAddr T x y) (hT : elemOf_ tab T = some (e, ee)) (hx : ρ x = .sl ee.size es) (hy : ρ y = .val (.int q n))
    (h0 : 0 ≤ n) (hd : es[n.toNat]? = some d) : AStep P o M ρ M (.dptr d.cells) :=
  .value fun S B β a w _ hs => by
    have h1 := hs x (by simp [ho, Op.operands])
    have h2 := hs y (by simp [ho, Op.operands])
    rw [hx] at h1; rw [hy] at h2
    have h2 : a.eval y = .int q n := h2
    obtain ⟨A, l, c, h3, h4, h5, h6, h7, h8⟩ := h1
    simp at h3
    obtain ⟨hu, he⟩ := elemOf_spec ht hT
    have hlt : n.toNat < es.length := (List.getElem?_eq_some_iff.1 hd).1
    obtain ⟨g, off, rows, h9, h10, h11, h12⟩ := h8 (by omega)
    subst h9
    have hcond : 0 ≤ n ∧ n < (l : Int) := by omega
    refine ⟨.pointer (some ⟨g, off + n.toNat * ee.size, none⟩), ?_, g, off + n.toNat * ee.size, _, rfl, h10, (h11.at_ h7 hd).cells_, fun j u hj => ?_⟩
    · simp [execOp, ho, h2, h3, Instr.indexAt, asIntOf, run_underlying hu, hcond, run_sizeOf he, addr_add]
    · rw [List.getElem?_take] at hj
      split at hj
      · rw [List.getElem?_drop] at hj
        rw [Nat.add_assoc]
        exact h12 _ _ hj
      · cases hj
/-- An element's place, in an own row. -/
theorem astep_idx_row (ht : TyTab P tab) {T e : Nat} {ee : TE} {x y : Operand} {i ver e' : Nat} {es : List D} {q : IntKind} {n : Int} (ho : o.op = .indexAddr T x y) (hT : elemOf_ tab T = some (e, ee)) (hx : ρ x = .row i ver) (hM : M[i]? = some (.row ver e' ee.size es)) (hy : ρ y = .val (.int q n))
    (h0 : 0 ≤ n) (hd : n.toNat < es.length) : AStep P o M ρ M (.eptr i ver n.toNat 0) :=
  .value fun S B β a w hm hs => by
    have h1 := hs x (by simp [ho, Op.operands])
    have h2 := hs y (by simp [ho, Op.operands])
    rw [hx] at h1; rw [hy] at h2
    have h2 : a.eval y = .int q n := h2
    obtain ⟨h3, h4⟩ := row_val hm hM h1
    obtain ⟨hu, he⟩ := elemOf_spec ht hT
    cases hb : β i with
    | none => rw [h4 hb] at hd; simp at hd
    | some gc =>
      obtain ⟨g, c⟩ := gc
      rw [hb] at h3
      have hcond : 0 ≤ n ∧ n < (es.length : Int) := by omega
      refine ⟨.pointer (some ⟨g, n.toNat * ee.size, none⟩), ?_, .row ver e' ee.size es, hM, Nat.le_refl _, fun _ => ⟨g, c, hb, by simp⟩⟩
      simp [execOp, ho, h2, h3, rowVal, Instr.indexAt, asIntOf, run_underlying hu, hcond, run_sizeOf he, addr_add]
theorem D_cells_len {w : World} {imm : Nat → Prop} {d : D} {cs : List Value} (h : DenC w imm d cs) : d.cells.length = d.width := by
  have := DenC.cells_ (M := []) (β := fun _ => none) d cs h
  rw [← this.len, h.len]
/-- A read of an own row's element. -/
theorem astep_load_e (ht : TyTab P tab) {T : Nat} {te : TE} {x : Operand} {i ver j off e k : Nat} {es : List D} {d : D} (ho : o.op = .load T x) (hT : tget tab T = some te) (hx : ρ x = .eptr i ver j off) (hM : M[i]? = some (.row ver e k es))
    (hd : es[j]? = some d) (hl : loadAV te (d.cells.drop off) = some out) : AStep P o M ρ M out :=
  .value fun S B β a w hm hs => by
    have h1 := hs x (by simp [ho, Op.operands])
    rw [hx] at h1
    obtain ⟨ab, h2, h3⟩ := h1
    rw [hM] at h2; cases h2
    obtain ⟨g, c, h4, h5⟩ := h3.2 rfl
    obtain ⟨hw, h6 | ⟨g', c', cs, h6, h7, h8, h9, h10, h11⟩⟩ := hm.ent i _ hM
    · rw [h4] at h6; cases h6.1
    · rw [h4] at h6; cases h6
      have h12 := (h11.at_ hw hd).cells_ (M := M) (β := β)
      obtain ⟨v, h13, h14⟩ := run_loadVar (P := P) (ht.get hT) (g := g) (off := j * k + off) (h12.drop_ off) (fun q u hq => by
        rw [List.getElem?_drop, List.getElem?_take] at hq
        split at hq
        · rw [List.getElem?_drop, List.getElem?_take] at hq
          split at hq
          · rw [Nat.add_assoc]
            rw [h7.cell]
            simpa using hq
          · cases hq
        · cases hq) hl
      exact ⟨v, by simp [execOp, ho, h5, Instr.loadAt, Instr.sureAddr, h13], h14⟩
/-- A datum out of cells. -/
def toD1 : AV → Option D
  | .val v => some (.val v)
  | .sl k es => some (.sl k es)
  | _ => none
def toDs : List AV → Option (List D)
  | [] => some []
  | x :: r => match toD1 x, toDs r with
    | some d, some ds => some (d :: ds)
    | _, _ => none
def toD : AV → Option D
  | .agg l => (toDs l).map .ag
  | x => toD1 x
def fine1 : AV → Bool
  | .val v => v.oneCell'
  | _ => true
theorem toDs_sat {β : Env} {w : World} {imm : Nat → Prop} : ∀ {l : List AV} {ds : List D} {cs : List Value}, toDs l = some ds → oneCs l = true → AVsats M β w imm l cs → DenCs w imm ds cs
  | [], _, _, h, _, hs => by cases h; exact hs
  | x :: r, ds, cs, h, h1, ⟨v, vs, h2, h3, h4⟩ => by
    simp only [toDs] at h
    split at h
    · rename_i d ds' hd hds
      cases h
      rw [oneCs, List.all_cons, Bool.and_eq_true] at h1
      refine ⟨[v], vs, h2, ?_, toDs_sat hds h1.2 h4⟩
      cases x with
      | val u => cases hd; cases h3; exact ⟨rfl, h1.1⟩
      | sl k es => cases hd; exact h3
      | _ => cases hd
    · cases h
theorem toD_sat {β : Env} {w : World} {imm : Nat → Prop} {x : AV} {d : D} {v : Value} (h : toD x = some d) (h1 : oneCs (cellsOf x) = true) (hs : AVsat M β w imm x v) : DenC w imm d v.cells.toList := by
  obtain ⟨h2, _⟩ := cellsOf_sat h1 hs
  cases x with
  | agg l =>
    obtain ⟨ds, h3, h4⟩ := Option.map_eq_some_iff.1 h
    subst h4
    exact toDs_sat h3 h1 h2
  | val u =>
    cases h
    cases hs
    have h3 : v.oneCell' = true := by simpa [oneCs, cellsOf, AV.oneC] using h1
    have h4 : v.cells = #[v] := by cases v <;> first | rfl | cases h3
    rw [h4]
    exact ⟨rfl, h3⟩
  | sl k es =>
    cases h
    obtain ⟨A, n, c, h3, h6⟩ := hs
    simp at h3
    rw [h3]
    exact ⟨A, n, c, rfl, h6⟩
  | _ => cases h
end

end Go.Proofs.Ytklodolkgdmhoaa
