import Derived.Test.YtiolnmfaeenlmaaGreatDoorEd
import Derived.RangeFuncLeaves
import Derived.Great.FillDense
import Derived.Maps.AppendAt
/- The engine, part 5: regions as code; types; contracts; the ends of bodies. -/
namespace Go.Proofs.YtiolnmfaeenlmaaGreatDoor
open Go Go.RowKit

section
variable {cx : Cx} {s : AS} {Q : Exit → AS → Prop}
theorem awp_region {id : Nat} {l : List Oper} {fl : List Nat} (h : Run cx.P l.toArray cx.N (fun s' => Q .normal s') l fl s) : AWp cx (.region id l.toArray false) s Q := by
  intro a w hs
  refine wpIn_region ?_
  have := Run.toF (fn := fun i => fl.getD i 0) l fl s 0 (fun j => by simp) (fun j => by simp) h
  rw [List.range_eq_range']
  simp only [List.size_toArray]
  exact RunF.in_order (fun M F a w ⟨G, hG, hq⟩ hs => ⟨⟨M, G⟩, hq, by subst hG; exact hs⟩) _ _ _ a w this hs
theorem awp_region_draw {id : Nat} {l : List Oper} {fl : List Nat} (hm : cx.P.follows .mixedOrders = true) (h : Run cx.P l.toArray cx.N (fun s' => Q .normal s') l fl s)
    (hok : ordOK l.toArray fl (ancs l []) = true) : AWp cx (.region id l.toArray true) s Q := by
  intro a w hs
  have := Run.toF (fn := fun i => fl.getD i 0) l fl s 0 (fun j => by simp) (fun j => by simp) h
  refine wp_region_runF hm hok (K := fun M F => ∃ G, F = look G ∧ Q .normal ⟨M, G⟩) ?_ hs (fun M F a w ⟨G, hG, hq⟩ hs => ⟨⟨M, G⟩, hq, by subst hG; exact hs⟩)
  rw [List.range_eq_range']
  exact this
theorem thenA_normal {K : AS → Prop} (h : K s) : thenA K Q .normal s := h
end

/-- Types, as far as walks ask for them. -/
inductive TK where
  | plain
  | str
  | int (k : IntKind)
  | bool
  | struct (fs : List (Nat × Nat))
  | array (n e : Nat)
  | slice (e : Nat)
  | ptr (e : Nat)
  | func
structure TE where
  kind : TK
  size : Nat
  bytes : Nat
  zero : List Value
def kindOf : TypeDesc → TK
  | .bool => .bool
  | .int k => .int k
  | .string => .str
  | .pointer e => .ptr e
  | .slice e => .slice e
  | .array n e => .array n e
  | .struct fs => .struct (fs.toList.map fun f => (f.offset, f.type))
  | .func _ _ _ => .func
  | _ => .plain
def teOf (P : Program) (t : TypeId) : Option TE :=
  match P.underlying t, P.info? t with
  | some d, some i => match i.zero with
    | some z => some ⟨kindOf d, i.size, i.bytes, z.cells.toList⟩
    | none => none
  | _, _ => none
def TK.agg : TK → Bool
  | .struct _ | .array _ _ => true
  | _ => false
def TyTab (P : Program) : List (Nat × TE) → Prop
  | [] => True
  | (t, e) :: r => teOf P t = some e ∧ TyTab P r
def tget : List (Nat × TE) → Nat → Option TE
  | [], _ => none
  | (t, e) :: r, n => bif Nat.beq t n then some e else tget r n
theorem TyTab.get {P : Program} {t : Nat} {e : TE} : ∀ {tab : List (Nat × TE)}, TyTab P tab → tget tab t = some e → teOf P t = some e
  | [], _, h => by cases h
  | (u, x) :: r, ⟨h1, h2⟩, h => by
    cases hb : Nat.beq u t with
    | true =>
      simp only [tget, hb, cond_true] at h
      cases h
      rw [← Nat.eq_of_beq_eq_true hb]
      exact h1
    | false =>
      simp only [tget, hb, cond_false] at h
      exact h2.get h
theorem teOf_spec {P : Program} {t : TypeId} {e : TE} (h : teOf P t = some e) : ∃ d i z, P.underlying t = some d ∧ kindOf d = e.kind ∧ P.info? t = some i ∧ i.size = e.size ∧ i.bytes = e.bytes ∧ i.zero = some z ∧ z.cells.toList = e.zero := by
  unfold teOf at h
  split at h
  · rename_i d i hd hi
    split at h
    · rename_i z hz
      cases h
      exact ⟨d, i, z, hd, rfl, hi, rfl, rfl, hz, rfl⟩
    · cases h
  · cases h
section
variable {P : Program} {t : TypeId} {e : TE} {w : World}
theorem run_sizeOf (h : teOf P t = some e) : (sizeOf t).run P w = .ok e.size w := by
  obtain ⟨d, i, z, _, _, hi, hs, _⟩ := teOf_spec h
  simp [sizeOf, typeInfo, hi, hs]
theorem run_isAgg (h : teOf P t = some e) : (isAgg t).run P w = .ok e.kind.agg w := by
  obtain ⟨d, i, z, hd, hk, _⟩ := teOf_spec h
  rw [← hk]
  cases d <;> simp [isAgg, run_underlying hd, kindOf, TK.agg]
theorem run_zeroCells (h : teOf P t = some e) : ∃ z, (zeroValue t).run P w = .ok z w ∧ z.cells.toList = e.zero := by
  obtain ⟨d, i, z, _, _, hi, _, _, hz, hc⟩ := teOf_spec h
  exact ⟨z, by simp [zeroValue, typeInfo, hi, hz], hc⟩
end

/-- What is read at a type from cells on. -/
def loadAV (te : TE) (cells : List AV) : Option AV :=
  bif te.kind.agg then (bif Nat.ble te.size cells.length then some (.agg (cells.take te.size)) else none) else cells[0]?

section
variable {M : List AB} {β : Env} {w : World} {imm : Nat → Prop} {P : Program}
theorem run_loadVar {t : TypeId} {te : TE} (ht : teOf P t = some te) {g off : Nat} {l : List AV} {cs : List Value} (hs : AVsats M β w imm l cs)
    (hc : ∀ (j : Nat) (u : Value), cs[j]? = some u → w.cell? ⟨g, off + j, none⟩ = some u) {x : AV} (hx : loadAV te l = some x) :
    ∃ v, (loadVar t ⟨g, off, none⟩).run P w = .ok v w ∧ AVsat M β w imm x v := by
  have hlen := hs.len
  unfold loadAV at hx
  cases hagg : te.kind.agg with
  | true =>
    rw [hagg] at hx
    simp only [cond_true] at hx
    cases hle : Nat.ble te.size l.length with
    | false => rw [hle] at hx; cases hx
    | true =>
      rw [hle] at hx
      cases hx
      have hle' := Nat.le_of_ble_eq_true hle
      have hr := run_loadCells_list (P := P) (w := w) ⟨g, off, none⟩ (cs.take te.size) (fun j v hj => by
        rw [List.getElem?_take] at hj
        split at hj
        · have := hc j v hj
          have e : (⟨g, off, none⟩ : Addr).add j = ⟨g, off + j, none⟩ := by unfold Addr.add; split <;> simp_all
          rw [e]; exact this
        · cases hj)
      rw [List.length_take, Nat.min_eq_left (by omega)] at hr
      refine ⟨_, ?_, (cs.take te.size).toArray, rfl, by simpa using hs.take_ te.size⟩
      simp [loadVar, run_isAgg ht, hagg, run_sizeOf ht, hr]
  | false =>
    rw [hagg] at hx
    simp only [cond_false] at hx
    obtain ⟨v, h1, h2⟩ := hs.get hx
    refine ⟨v, ?_, h2⟩
    have := hc 0 v h1
    simp only [Nat.add_zero] at this
    simp [loadVar, run_isAgg ht, hagg, this]
end

/-- One thing known says another. -/
def Sub (x y : AV) : Prop := ∀ M β w imm v, AVsat M β w imm x v → AVsat M β w imm y v
theorem Sub.refl (x : AV) : Sub x x := fun _ _ _ _ _ h => h
theorem Sub.any (x : AV) : Sub x .any := fun _ _ _ _ _ _ => trivial
theorem Sub.nil (k : Nat) : Sub (.val (.slice none 0 0)) (.sl k []) := by
  intro M β w imm v h
  cases h
  exact ⟨none, 0, 0, rfl, rfl, Nat.le_refl _, Nat.zero_le _, by simp [AllW], fun h => absurd h (by omega)⟩

-- Things known that name no own memory.
mutual
def AV.free : AV → Bool
  | .any => true
  | .val _ => true
  | .sl _ _ => true
  | .ptr _ _ => false
  | .row _ _ => false
  | .eptr _ _ _ _ => false
  | .dptr l => AV.frees l
  | .agg l => AV.frees l
  | .tup l => AV.frees l
  | .cnd _ x => x.free
  | .cl _ l => AV.frees l
  | .ub _ _ => true
  | .pr _ => true
  | .vw _ _ _ => false
  | .alt x y => x.free && y.free
def AV.frees : List AV → Bool
  | [] => true
  | x :: r => x.free && AV.frees r
end
section
variable {M M' : List AB} {β β' : Env} {w w' : World} {imm imm' : Nat → Prop}
mutual
theorem AVsat.free_ (hi : ∀ b, imm b → imm' b) (hc : ∀ b off, imm b → w'.cell? ⟨b, off, none⟩ = w.cell? ⟨b, off, none⟩) : ∀ (x : AV) (v : Value), x.free = true → AVsat M β w imm x v → AVsat M' β' w' imm' x v
  | .any, _, _, _ => trivial
  | .val _, _, _, hx => hx
  | .sl k es, v, _, hx => DenC.mono hi hc (.sl k es) [v] hx
  | .ptr _ _, _, hf, _ => by cases hf
  | .row _ _, _, hf, _ => by cases hf
  | .eptr _ _ _ _, _, hf, _ => by cases hf
  | .dptr l, v, hf, ⟨g, off, cs, h1, h2, h3, h4⟩ => ⟨g, off, cs, h1, hi _ h2, AVsats.free_ hi hc l cs hf h3, fun j u hj => (hc _ _ h2).trans (h4 j u hj)⟩
  | .agg l, v, hf, ⟨cs, h1, h2⟩ => ⟨cs, h1, AVsats.free_ hi hc l _ hf h2⟩
  | .tup l, v, hf, ⟨cs, h1, h2⟩ => ⟨cs, h1, AVsats.free_ hi hc l _ hf h2⟩
  | .cnd c x, v, hf, ⟨h1, h2⟩ => ⟨fun hcc => AVsat.free_ hi hc x v hf (h1 hcc), h2⟩
  | .cl f caps, v, hf, ⟨cs, h1, h2⟩ => ⟨cs, h1, AVsats.free_ hi hc caps _ hf h2⟩
  | .ub _ _, _, _, hx => hx
  | .pr _, _, _, hx => hx
  | .vw _ _ _, _, hf, _ => by cases hf
  | .alt x y, v, hf, hx => by
    rw [AV.free, Bool.and_eq_true] at hf
    exact hx.elim (fun k => .inl (AVsat.free_ hi hc x v hf.1 k)) (fun k => .inr (AVsat.free_ hi hc y v hf.2 k))
theorem AVsats.free_ (hi : ∀ b, imm b → imm' b) (hc : ∀ b off, imm b → w'.cell? ⟨b, off, none⟩ = w.cell? ⟨b, off, none⟩) : ∀ (l : List AV) (vs : List Value), AV.frees l = true → AVsats M β w imm l vs → AVsats M' β' w' imm' l vs
  | [], _, _, hx => hx
  | a :: as, _, hf, ⟨v, r, h1, h2, h3⟩ => by
    rw [AV.frees, Bool.and_eq_true] at hf
    exact ⟨v, r, h1, AVsat.free_ hi hc a v hf.1 h2, AVsats.free_ hi hc as r hf.2 h3⟩
end
end

def noE : Env := fun _ => none
inductive RetV (P : Program) (s : AS) : ResultVar → AV → Prop
  | tmp {t : Tmp} {x : AV} (h : Sub (look s.F t) x) (hf : x.free = true) : RetV P s (.tmp t) x
  | cell {t : Tmp} {ty : TypeId} {te : TE} {i off : Nat} {e : TypeId} {cells : List AV} {x : AV} (hte : teOf P ty = some te) (hp : look s.F t = .ptr i off) (hM : s.M[i]? = some (.box e cells))
      (hx : loadAV te (cells.drop off) = some x) (hf : x.free = true) : RetV P s (.cell t ty) x
  | row {t : Tmp} {i ver e k : Nat} {es : List D} (hp : look s.F t = .row i ver) (hM : s.M[i]? = some (.row ver e k es)) : RetV P s (.tmp t) (.sl k es)
inductive RetVs (P : Program) (s : AS) : List ResultVar → List AV → Prop
  | nil : RetVs P s [] []
  | cons {r : ResultVar} {rs : List ResultVar} {x : AV} {xs : List AV} (h : RetV P s r x) (hs : RetVs P s rs xs) : RetVs P s (r :: rs) (x :: xs)
def tupOf : List AV → AV
  | [x] => x
  | l => .tup l

def resSem (tmps : Array Value) : ResultVar → Sem Value
  | .tmp t => pure (tmps.getD t undef)
  | .cell a t => do loadVar t (← asAddr (tmps.getD a undef))
theorem results_eq (fn : Func) (tmps : Array Value) : results fn tmps = (Functor.map List.toArray (fn.results.toList.mapM (resSem tmps))) >>= fun (vs : Array Value) => pure (if h : vs.size = 1 then vs[0] else .tuple vs) := by
  rw [← Array.mapM_eq_mapM_toList]
  rfl

section
variable {cx : Cx} {s : AS} {a : Act} {w : World}
theorem box_cells {M : List AB} {β : Env} {S : Nat → Prop} {B : Nat} (h : MemSat S B M β w) {i e : Nat} {cells : List AV} (hi : M[i]? = some (.box e cells)) :
    ∃ g c cs, β i = some (g, c) ∧ w.heap[g]? = some (.cells cs e (0, 0)) ∧ AVsats M β w (immOf S B M β w) cells cs.toList := h.ent i _ hi
theorem cell_at {w : World} {g : Nat} {cs : Array Value} {e : TypeId} {f : Nat × Nat} (hg : w.heap[g]? = some (.cells cs e f)) (off j : Nat) (u : Value) (h : (cs.toList.drop off)[j]? = some u) :
    w.cell? ⟨g, off + j, none⟩ = some u := by
  rw [cell_of_row w g (off + j) cs e f hg]
  rw [List.getElem?_drop] at h
  simpa using h
/-- An own row, read as data by whom its block is open to. -/
theorem row_as_sl {M : List AB} {β : Env} {S : Nat → Prop} {B : Nat} {w : World} (hm : MemSat S B M β w) {imm : Nat → Prop} (hi : ∀ b, immOf S B M β w b → imm b) (hl : ∀ b, live M β b → imm b) {i ver e k : Nat} {es : List D} (hM : M[i]? = some (.row ver e k es)) {v : Value}
    (h : AVsat M β w (immOf S B M β w) (.row i ver) v) : DenC w imm (.sl k es) [v] := by
  obtain ⟨ab, h1, h2⟩ := h
  rw [hM] at h1; cases h1
  have h3 := h2.2 rfl
  obtain ⟨hw, ⟨h4, rfl⟩ | ⟨g, cap, cs, h4, h5, h6, h7, h8, h9⟩⟩ := hm.ent i _ hM
  · rw [h4] at h3
    exact ⟨none, 0, 0, by rw [h3]; rfl, rfl, Nat.le_refl _, Nat.zero_le _, hw, fun h => absurd h (by omega)⟩
  · rw [h4] at h3
    refine ⟨some ⟨g, 0, none⟩, es.length, cap, by rw [h3]; rfl, rfl, h6, h7, hw, fun _ => ⟨g, 0, _, rfl, hl g ⟨i, _, cap, hM, rfl, h4⟩, DenCs.mono hi (fun _ _ _ => rfl) _ _ h9, fun j u hj => ?_⟩⟩
    rw [List.getElem?_take] at hj
    split at hj
    · rw [Nat.zero_add, h5.cell]
      simpa using hj
    · cases hj
theorem run_ret {M : List AB} {β : Env} (hm : MemSat cx.S cx.w0.heap.size M β w) (hM : s.M = M) (hF : ∀ d, AVsat M β w (immOf cx.S cx.w0.heap.size M β w) (look s.F d) (a.tmps.getD d undef)) {imm : Nat → Prop}
    (hi : ∀ b, immOf cx.S cx.w0.heap.size M β w b → imm b) (hl : ∀ b, live M β b → imm b) {r : ResultVar} {x : AV} (h : RetV cx.P s r x) :
    ∃ v, (resSem a.tmps r).run cx.P w = .ok v w ∧ AVsat [] noE w imm x v := by
  cases h with
  | tmp h hf => exact ⟨_, rfl, AVsat.free_ hi (fun _ _ _ => rfl) _ _ hf (h _ _ _ _ _ (hF _))⟩
  | @cell t ty te i off e cells x hte hp hMi hx hf =>
    have h1 := hF t
    rw [hp] at h1
    obtain ⟨g, c, h2, h3, _⟩ := h1
    subst hM
    obtain ⟨g', c', cs, h4, h5, h6⟩ := box_cells hm hMi
    rw [h2] at h4; cases h4
    obtain ⟨v, h7, h8⟩ := run_loadVar hte (h6.drop_ off) (fun j u hj => cell_at h5 off j u hj) hx
    refine ⟨v, ?_, AVsat.free_ hi (fun _ _ _ => rfl) _ _ hf h8⟩
    simp only [resSem, h3]
    simp [asAddr, h7]
  | @row t i ver e k es hp hMi =>
    have h1 := hF t
    rw [hp] at h1
    subst hM
    exact ⟨_, rfl, row_as_sl hm hi hl hMi h1⟩
theorem run_rets {M : List AB} {β : Env} (hm : MemSat cx.S cx.w0.heap.size M β w) (hM : s.M = M) (hF : ∀ d, AVsat M β w (immOf cx.S cx.w0.heap.size M β w) (look s.F d) (a.tmps.getD d undef)) {imm : Nat → Prop}
    (hi : ∀ b, immOf cx.S cx.w0.heap.size M β w b → imm b) (hl : ∀ b, live M β b → imm b) {rs : List ResultVar} {xs : List AV} (h : RetVs cx.P s rs xs) :
    ∃ vs, (rs.mapM (resSem a.tmps)).run cx.P w = .ok vs w ∧ AVsats [] noE w imm xs vs := by
  induction h with
  | nil => exact ⟨[], by simp, rfl⟩
  | cons h hs ih =>
    obtain ⟨v, h1, h2⟩ := run_ret hm hM hF hi hl h
    obtain ⟨vs, h3, h4⟩ := ih
    exact ⟨v :: vs, by simp [List.mapM_cons, h1, h3], v, vs, rfl, h2, h4⟩
theorem run_results {fn : Func} {M : List AB} {β : Env} (hm : MemSat cx.S cx.w0.heap.size M β w) (hM : s.M = M) (hF : ∀ d, AVsat M β w (immOf cx.S cx.w0.heap.size M β w) (look s.F d) (a.tmps.getD d undef)) {imm : Nat → Prop}
    (hi : ∀ b, immOf cx.S cx.w0.heap.size M β w b → imm b) (hl : ∀ b, live M β b → imm b) {xs : List AV}
    (h : RetVs cx.P s fn.results.toList xs) : ∃ v, (results fn a.tmps).run cx.P w = .ok v w ∧ AVsat [] noE w imm (tupOf xs) v := by
  obtain ⟨vs, h1, h2⟩ := run_rets hm hM hF hi hl h
  rw [results_eq]
  refine ⟨if h : vs.toArray.size = 1 then vs.toArray[0] else .tuple vs.toArray, by simp [h1], ?_⟩
  have hl := h2.len
  match xs, vs, hl, h2 with
  | [], [], _, h2 => exact ⟨#[], rfl, h2⟩
  | [x], [v], _, ⟨_, _, e, h3, _⟩ => cases e; exact h3
  | x :: y :: xs, v :: u :: vs, _, h2 => exact ⟨_, rfl, h2⟩
end

def fresh (S : Nat → Prop) (w w' : World) (b : Nat) : Prop := S b ∨ (w.heap.size ≤ b ∧ b < w'.heap.size)

/-- A call that only answers: what it is given is data, what it answers is data; what was there is as it was. -/
def PCalls (P : Program) (f : FuncId) (args : List AV) (res : AV) : Prop :=
  ∀ (S : Nat → Prop) (w : World) (vs : Array Value), (∀ b, S b → b < w.heap.size) → GL S w → AVsats [] noE w S args vs.toList →
    Calls P f vs w fun e w' => ∃ v, e = .returned v ∧ Below w.heap.size w w' ∧ AVsat [] noE w' (fresh S w w') res v

def argF : Nat → List AV → List (Nat × AV)
  | _, [] => []
  | i, a :: r => (i, a) :: argF (i + 1) r
theorem argF_sat {M : List AB} {β : Env} {w : World} {imm : Nat → Prop} : ∀ {l : List AV} {vs tail : List Value} {pre : List Value} {d : Nat}, AVsats M β w imm l vs →
    AVsat M β w imm (look (argF pre.length l) d) (((pre ++ vs ++ tail)[d]?).getD undef)
  | [], _, _, _, _, _ => trivial
  | a :: as, _, tail, pre, d, ⟨v, r, h1, h2, h3⟩ => by
    subst h1
    cases hb : Nat.beq pre.length d with
    | true =>
      have hd := Nat.eq_of_beq_eq_true hb
      subst hd
      simp only [argF, look, hb, cond_true]
      simpa using h2
    | false =>
      simp only [argF, look, hb, cond_false]
      have := argF_sat (l := as) (vs := r) (tail := tail) (pre := pre ++ [v]) (d := d) h3
      simpa using this

def retQ (P : Program) (fn : Func) (res : AV) (e : Exit) (s : AS) : Prop := (e = .normal ∨ e = .ret) ∧ ∃ xs, RetVs P s fn.results.toList xs ∧ Sub (tupOf xs) res

theorem sat_start {P : Program} {S : Nat → Prop} {w : World} {vs : Array Value} {args : List AV} {N : Nat} (hS : ∀ b, S b → b < w.heap.size) (hG : GL S w) (hN : args.length ≤ N) (hvs : AVsats [] noE w S args vs.toList) :
    Sat ⟨P, N, S, w, [], noE, none⟩ ⟨[], argF 0 args⟩ { tmps := vs ++ Array.replicate (N - vs.size) undef, defers := [] } w := by
  have hlen := hvs.len
  refine ⟨by simp at hlen ⊢; omega, trivial, noE, ⟨Nat.le_refl _, fun i j ab ab' g c c' h => by simp at h, fun i ab h => by simp at h, fun b ⟨i, ab, c, h, _⟩ => by simp at h, hG.mono (fun b hb => ⟨.inl hb, hS b hb, fun ⟨i, ab, c, h, _⟩ => by simp at h⟩) (fun _ _ _ => rfl)⟩, Ev.refl _ _ _, fun d => ?_⟩
  have h2 : AVsats [] noE w (immOf S w.heap.size [] noE w) args vs.toList :=
    AVsats.mono (Ev.refl _ _ _) (fun b hb => ⟨.inl hb, hS b hb, fun ⟨i, ab, c, h, _⟩ => by simp at h⟩) (fun _ _ _ => rfl) _ _ hvs
  have := argF_sat (pre := []) (tail := List.replicate (N - vs.size) undef) (d := d) h2
  rw [Array.getD_eq_getD_getElem?]
  rw [← Array.getElem?_toList]
  simpa using this

theorem putObj_turned {M : List AB} {B D : Nat} {w : World} {o : Option (List Deferred)} (o' : Obj) (hD : w.heap[D]? = some (.deferred o)) (hB : B ≤ D) : Turned M B w (w.putObj D o') := by
  refine ⟨rfl, rfl, rfl, by simp, fun b hb => ?_⟩
  by_cases e : b = D
  · subst e
    exact .inr ⟨hB, _, hD, rfl, .inl fun _ _ h => by cases h⟩
  · exact .inl (World.putObj_heap_other e)
theorem DefOk.put {B D : Nat} {w : World} (o' : Obj) : ∀ {ds : List Deferred}, DefOk B ds w → (∀ d' ∈ ds, d' ≠ { target := .collected D, args := #[] }) → DefOk B ds (w.putObj D o')
  | [], _, _ => trivial
  | d :: ds, ⟨⟨D', h1, h2, h3, h4⟩, h5⟩, hne => ⟨⟨D', h1, h2, (World.putObj_heap_other (fun e => hne d (by simp) (by rw [h1, e]))).trans h3, h4⟩, DefOk.put o' h5 fun d' hd' => hne d' (by simp [hd'])⟩
theorem leave_ok {cx : Cx} {s : AS} {fn : Func} {t : Array Value} {R : Ending → World → Prop} (hfin : ∀ w', Sat cx s { tmps := t, defers := [] } w' → ∃ v, (results fn t).run cx.P w' = .ok v w' ∧ R (.returned v) w') :
    ∀ (ds : List Deferred) (w : World), Sat cx s { tmps := t, defers := ds } w → LeavesInM Fence.wide 0 cx.P fn t R ds .returning w
  | [], w, hs => hfin w hs
  | d :: ds, w, hs => by
    obtain ⟨h1, ⟨⟨D, h2, h6, h7, h8⟩, h9⟩, β, h3, h4, h5⟩ := hs
    subst h2
    have ht := putObj_turned (M := s.M) (.deferred none) h7 h6
    refine ⟨by simp, .inl ⟨D, _, rfl, run_takeDeferred h7, leave_ok hfin ds _ ⟨h1, h9.put _ h8, β, h3.turn ht, h4.turn ht (Nat.le_refl _), fun d => AVsat.on (fun _ => ht.imm) ht.cells _ _ (h5 d)⟩⟩⟩
/-- A function's contract from its body's walk, marks and all. -/
theorem calls_of_awp {cx : Cx} (hL : cx.L = none) {f : FuncId} {fn : Func} {c : Code} {args : Array Value} {s : AS} {w : World} {R : Ending → World → Prop} {Q : Exit → AS → Prop} (hf : cx.P.funcs[f]? = some fn) (hb : fn.body = some c) (h : AWp cx c s Q)
    (hs : Sat cx s { tmps := args ++ Array.replicate (fn.ntmps - args.size) undef, defers := [] } w)
    (hfin : ∀ e s' a' w', Q e s' → Sat cx s' a' w' → (e = .normal ∨ e = .ret) ∧ (a'.defers = [] → ∃ v, (results fn a'.tmps).run cx.P w' = .ok v w' ∧ R (.returned v) w')) : Calls cx.P f args w R := by
  refine (callsIn_wide (n := 0)).1 (callsIn_of_wp_marks hf hb trivial ?_)
  have h := h _ _ hs
  rw [hL] at h
  refine wpIn_mono h fun e a' w' ⟨s', h1, h2⟩ => ?_
  have h3 := (hfin e s' a' w' h1 h2).1
  have h4 : LeavesInM Fence.wide 0 cx.P fn a'.tmps R a'.defers .returning w' := leave_ok (fun w'' hs'' => (hfin e s' _ w'' h1 hs'').2 rfl) _ _ h2
  rcases h3 with rfl | rfl <;> exact h4

theorem pcalls_of {P : Program} {f : FuncId} {fn : Func} {c : Code} {args : List AV} {res : AV} {N : Nat} {F : List (Nat × AV)} (hf : P.funcs[f]? = some fn) (hN : fn.ntmps = N) (hb : fn.body = some c) (hF : argF 0 args = F) (hok : Nat.ble args.length N = true)
    (h : ∀ S w, AWp ⟨P, N, S, w, [], noE, none⟩ c ⟨[], F⟩ (retQ P fn res)) : PCalls P f args res := by
  intro S w vs hS hG hvs
  have hlen := Nat.le_of_ble_eq_true hok
  subst hN
  subst hF
  refine calls_of_awp (cx := ⟨P, fn.ntmps, S, w, [], noE, none⟩) rfl hf hb (h S w) (sat_start hS hG hlen hvs) fun e s' a' w' ⟨he, xs, hr, hsub⟩ ⟨h1, _, β, h3, h4, h5⟩ => ⟨he, fun _ => ?_⟩
  have hnew : ∀ b, live s'.M β b → w.heap.size ≤ b := fun b hb => by
    rcases h4.new b hb with ⟨i, ab, c, h, _⟩ | h
    · simp at h
    · exact h
  obtain ⟨v, h6, h7⟩ := run_results (cx := ⟨P, fn.ntmps, S, w, [], noE, none⟩) (imm := fresh S w w') h3 rfl h5 (fun b hb => by
      rcases hb.1 with h | h
      · exact .inl h
      · exact .inr ⟨h, hb.2.1⟩) (fun b hb => .inr ⟨hnew b hb, h3.lt hb⟩) hr
  have h8 := hsub _ _ _ _ _ h7
  have hbel : Below w.heap.size w w' := ⟨h4.os, h4.tape, h4.output, h4.size, fun k hk => h4.keep k hk fun ⟨i, ab, c, h, _⟩ => by simp at h⟩
  have h9 : ∃ v, (results fn a'.tmps).run P w' = .ok v w' ∧ ∃ v', Ending.returned v = .returned v' ∧ Below w.heap.size w w' ∧ AVsat [] noE w' (fresh S w w') res v' :=
    ⟨v, h6, v, rfl, hbel, h8⟩
  exact h9

end Go.Proofs.YtiolnmfaeenlmaaGreatDoor

/- The engine, part 6: single operations. -/
namespace Go.Proofs.YtiolnmfaeenlmaaGreatDoor
open Go Go.RowKit

section
variable {P : Program} {o : Oper} {M M' : List AB} {ρ : Operand → AV} {out : AV}

/-- An operation that yields a value and leaves the world. -/
theorem AStep.value (h : ∀ (S : Nat → Prop) (B : Nat) (β : Env) (a : Act) (w : World), MemSat S B M β w → (∀ x ∈ o.op.operands, AVsat M β w (immOf S B M β w) (ρ x) (a.eval x)) →
    ∃ v, (execOp a.eval o).run P w = .ok (.value v) w ∧ AVsat M β w (immOf S B M β w) out v) : AStep P o M ρ M out := by
  intro S B β a w hm hs K Q hK
  obtain ⟨v, h1, h2⟩ := h S B β a w hm hs
  unfold Oper.wp
  rw [h1]
  exact hK v β w (Ev.refl _ _ _) hm h2

theorem astep_move {x : Operand} (ho : o.op = .move x) : AStep P o M ρ M (ρ x) :=
  .value fun S B β a w _ hs => ⟨a.eval x, by simp [execOp, ho], hs x (by simp [ho, Op.operands])⟩
theorem astep_assign {x : Operand} (ho : o.op = .assign x) : AStep P o M ρ M (ρ x) :=
  .value fun S B β a w _ hs => ⟨a.eval x, by simp [execOp, ho], hs x (by simp [ho, Op.operands])⟩

theorem astep_pick {c x y : Operand} {b : Bool} (ho : o.op = .pick c x y) (hc : ρ c = .val (.bool b)) (hx : b = true → Sub (ρ x) out) (hy : b = false → Sub (ρ y) out) : AStep P o M ρ M out :=
  .value fun S B β a w _ hs => by
    have h1 := hs c (by simp [ho, Op.operands])
    rw [hc] at h1
    have h1 : a.eval c = .bool b := h1
    cases b with
    | true => exact ⟨a.eval x, by simp [execOp, ho, h1, asBool], hx rfl _ _ _ _ _ (hs x (by simp [ho, Op.operands]))⟩
    | false => exact ⟨a.eval y, by simp [execOp, ho, h1, asBool], hy rfl _ _ _ _ _ (hs y (by simp [ho, Op.operands]))⟩
theorem sub_cnd {c : Bool} {x y : AV} (hc : c = true) (h : Sub x y) : Sub (.cnd c x) y := fun _ _ _ _ _ ⟨h1, _⟩ => h _ _ _ _ _ (h1 hc)
theorem astep_or {c x y : Operand} {b d : Bool} (ho : o.op = .pick c x y) (hc : ρ c = .val (.bool b)) (hx : ρ x = .val (.bool true)) (hy : ρ y = .cnd (b == false) (.val (.bool d))) : AStep P o M ρ M (.val (.bool (b || d))) :=
  astep_pick ho hc (fun h => by rw [hx, h]; exact Sub.refl _) (fun h => by rw [hy, h]; exact sub_cnd rfl (Sub.refl _))
theorem astep_and {c x y : Operand} {b d : Bool} (ho : o.op = .pick c x y) (hc : ρ c = .val (.bool b)) (hx : ρ x = .cnd (b == true) (.val (.bool d))) (hy : ρ y = .val (.bool false)) : AStep P o M ρ M (.val (.bool (b && d))) :=
  astep_pick ho hc (fun h => by rw [hx, h]; exact sub_cnd rfl (Sub.refl _)) (fun h => by rw [hy, h]; exact Sub.refl _)

/-- Two values that are known. -/
theorem AStep.two {op : BinOp} {t u : TypeId} {x y : Operand} {vx vy v : Value} (ho : o.op = .binOp op t x y u) (hx : ρ x = .val vx) (hy : ρ y = .val vy)
    (hr : ∀ w, (do eqGuard op t x y vx vy; binOp op t vx vy : Sem Value).run P w = .ok v w) : AStep P o M ρ M (.val v) :=
  .value fun S B β a w _ hs => by
    have h1 := hs x (by simp [ho, Op.operands])
    have h2 := hs y (by simp [ho, Op.operands])
    rw [hx] at h1; rw [hy] at h2
    have h1 : a.eval x = vx := h1
    have h2 : a.eval y = vy := h2
    refine ⟨v, ?_, rfl⟩
    have := hr w
    simp only [execOp, ho, h1, h2]
    simp only [Sem.run_bind] at this ⊢
    rw [this]
    rfl

variable {t u : TypeId} {x y : Operand} {k : IntKind} {a b : Int}
theorem astep_add (ho : o.op = .binOp .add t x y u) (hx : ρ x = .val (.int k a)) (hy : ρ y = .val (.int k b)) : AStep P o M ρ M (.val (.int k (k.wrap (a + b)))) :=
  .two ho hx hy fun w => by simp [eqGuard, binOp, Op.intArith]
theorem astep_sub (ho : o.op = .binOp .sub t x y u) (hx : ρ x = .val (.int k a)) (hy : ρ y = .val (.int k b)) : AStep P o M ρ M (.val (.int k (k.wrap (a - b)))) :=
  .two ho hx hy fun w => by simp [eqGuard, binOp, Op.intArith]
theorem astep_mul (ho : o.op = .binOp .mul t x y u) (hx : ρ x = .val (.int k a)) (hy : ρ y = .val (.int k b)) : AStep P o M ρ M (.val (.int k (k.wrap (a * b)))) :=
  .two ho hx hy fun w => by simp [eqGuard, binOp, Op.intArith]
theorem astep_quo (ho : o.op = .binOp .quo t x y u) (hx : ρ x = .val (.int k a)) (hy : ρ y = .val (.int k b)) (hb : b ≠ 0) : AStep P o M ρ M (.val (.int k (k.wrap (a.tdiv b)))) :=
  .two ho hx hy fun w => by simp [eqGuard, binOp, Op.intDiv, hb]
theorem astep_rem (ho : o.op = .binOp .rem t x y u) (hx : ρ x = .val (.int k a)) (hy : ρ y = .val (.int k b)) (hb : b ≠ 0) : AStep P o M ρ M (.val (.int k (a.tmod b))) :=
  .two ho hx hy fun w => by simp [eqGuard, binOp, Op.intDiv, hb]
theorem astep_rem_pos (ho : o.op = .binOp .rem t x y u) (hx : ρ x = .val (.int k a)) (hy : ρ y = .val (.int k b)) (ha : 0 ≤ a) (hb : 0 < b) : AStep P o M ρ M (.val (.int k (a % b))) := by
  have := astep_rem (P := P) (M := M) ho hx hy (by omega)
  rwa [Int.tmod_eq_emod_of_nonneg ha] at this
theorem astep_eql (ho : o.op = .binOp .eql t x y u) (hx : ρ x = .val (.int k a)) (hy : ρ y = .val (.int k b)) : AStep P o M ρ M (.val (.bool (decide (a = b)))) :=
  .two ho hx hy fun w => by simp [eqGuard, binOp, Op.intCmp]; rfl
theorem astep_neq (ho : o.op = .binOp .neq t x y u) (hx : ρ x = .val (.int k a)) (hy : ρ y = .val (.int k b)) : AStep P o M ρ M (.val (.bool (!decide (a = b)))) :=
  .two ho hx hy fun w => by simp [eqGuard, binOp, Op.intCmp]; rfl
theorem astep_lss (ho : o.op = .binOp .lss t x y u) (hx : ρ x = .val (.int k a)) (hy : ρ y = .val (.int k b)) : AStep P o M ρ M (.val (.bool (decide (a < b)))) :=
  .two ho hx hy fun w => by simp [eqGuard, binOp, Op.intCmp]
theorem astep_leq (ho : o.op = .binOp .leq t x y u) (hx : ρ x = .val (.int k a)) (hy : ρ y = .val (.int k b)) : AStep P o M ρ M (.val (.bool (decide (a ≤ b)))) :=
  .two ho hx hy fun w => by simp [eqGuard, binOp, Op.intCmp]
theorem astep_gtr (ho : o.op = .binOp .gtr t x y u) (hx : ρ x = .val (.int k a)) (hy : ρ y = .val (.int k b)) : AStep P o M ρ M (.val (.bool (decide (b < a)))) :=
  .two ho hx hy fun w => by simp [eqGuard, binOp, Op.intCmp]
theorem astep_geq (ho : o.op = .binOp .geq t x y u) (hx : ρ x = .val (.int k a)) (hy : ρ y = .val (.int k b)) : AStep P o M ρ M (.val (.bool (decide (b ≤ a)))) :=
  .two ho hx hy fun w => by simp [eqGuard, binOp, Op.intCmp]

theorem astep_nil_eq {es : List D} {e n : Nat} (ht : P.underlying t = some (.slice e)) (ho : o.op = .binOp .eql t x y u) (hx : ρ x = .sl n es) (hy : ρ y = .val (.slice none 0 0)) : AStep P o M ρ M (.ub es.isEmpty true) :=
  .value fun S B β a w _ hs => by
    have h1 := hs x (by simp [ho, Op.operands])
    have h2 := hs y (by simp [ho, Op.operands])
    rw [hx] at h1; rw [hy] at h2
    have h2 : a.eval y = .slice none 0 0 := h2
    obtain ⟨A, l, c, h3, h4, _, _, _, h5⟩ := h1
    simp at h3
    have hr := Lib.run_eql_slice_nil (P := P) w t e A l c 0 0 ht
    refine ⟨.bool A.isNone, ?_, A.isNone, rfl, fun h => ?_, fun _ => rfl⟩
    · simp [execOp, ho, h2, h3, eqGuard, hr]
    · rcases Nat.eq_zero_or_pos l with h0 | h0
      · cases es with
        | nil => rfl
        | cons => simp at h4; omega
      · obtain ⟨g, off, rows, h6, _⟩ := h5 h0
        rw [h6] at h; cases h
theorem toList_beq (s r : ByteArray) : (s.toList == r.toList) = decide (s = r) := by
  rw [Bool.eq_iff_iff]
  simp only [beq_iff_eq, decide_eq_true_eq]
  constructor
  · intro h
    rw [ByteArray.toList_eq, ByteArray.toList_eq] at h
    exact ByteArray.ext (Array.toList_inj.1 h)
  · intro h
    rw [h]
variable {s r : ByteArray}
theorem astep_eqls (ho : o.op = .binOp .eql t x y u) (hx : ρ x = .val (.string s)) (hy : ρ y = .val (.string r)) : AStep P o M ρ M (.val (.bool (decide (s = r)))) :=
  .two ho hx hy fun w => by rw [← toList_beq]; simp [eqGuard, binOp, Op.stringOp]
theorem astep_neqs (ho : o.op = .binOp .neq t x y u) (hx : ρ x = .val (.string s)) (hy : ρ y = .val (.string r)) : AStep P o M ρ M (.val (.bool (!decide (s = r)))) :=
  .two ho hx hy fun w => by rw [← toList_beq]; simp [eqGuard, binOp, Op.stringOp]
theorem astep_adds (ho : o.op = .binOp .add t x y u) (hx : ρ x = .val (.string s)) (hy : ρ y = .val (.string r)) (h : s.size + r.size ≤ 9223372036854775807) : AStep P o M ρ M (.val (.string (s ++ r))) :=
  .two ho hx hy fun w => by
    have := run_string_add_sum (P := P) w s r h
    simp [eqGuard, binOp, this]
theorem astep_eqlb {p q : Bool} (ht : P.underlying t = some .bool) (ho : o.op = .binOp .eql t x y u) (hx : ρ x = .val (.bool p)) (hy : ρ y = .val (.bool q)) : AStep P o M ρ M (.val (.bool (p == q))) :=
  .two ho hx hy fun w => by
    have := run_eql_bool (P := P) w t p q ht
    simp [eqGuard, this]
theorem astep_neqb {p q : Bool} (ht : P.underlying t = some .bool) (ho : o.op = .binOp .neq t x y u) (hx : ρ x = .val (.bool p)) (hy : ρ y = .val (.bool q)) : AStep P o M ρ M (.val (.bool (!(p == q)))) :=
  .two ho hx hy fun w => by
    have := run_neq_bool (P := P) w t p q ht
    simp [eqGuard, this]
theorem astep_not {p : Bool} (ho : o.op = .unOp .not t x) (hx : ρ x = .val (.bool p)) : AStep P o M ρ M (.val (.bool (!p))) :=
  .value fun S B β a w _ hs => by
    have h1 := hs x (by simp [ho, Op.operands])
    rw [hx] at h1
    have h1 : a.eval x = .bool p := h1
    exact ⟨_, by simp [execOp, ho, h1, Op.unary], rfl⟩
theorem astep_neg (ho : o.op = .unOp .neg t x) (hx : ρ x = .val (.int k a)) : AStep P o M ρ M (.val (.int k (k.wrap (0 - a)))) :=
  .value fun S B β A w _ hs => by
    have h1 := hs x (by simp [ho, Op.operands])
    rw [hx] at h1
    have h1 : A.eval x = .int k a := h1
    exact ⟨_, by simp [execOp, ho, h1, Op.unary, Op.intArith], rfl⟩
end

end Go.Proofs.YtiolnmfaeenlmaaGreatDoor

/- The engine, part 7: operations on memory. -/
namespace Go.Proofs.YtiolnmfaeenlmaaGreatDoor
open Go Go.RowKit

def fieldOf (tab : List (Nat × TE)) (T i : Nat) : Option (Nat × TE) :=
  match tget tab T with
  | some te => match te.kind with
    | .struct fs => match fs[i]? with
      | some (off, ft) => match tget tab ft with
        | some fe => bif Nat.blt 0 fe.size then some (off, fe) else none
        | none => none
      | none => none
    | _ => none
  | none => none
theorem fieldOf_spec {P : Program} {tab : List (Nat × TE)} (ht : TyTab P tab) {T i off : Nat} {fe : TE} (h : fieldOf tab T i = some (off, fe)) :
    ∃ (fields : Array Field) (f : Field), P.underlying T = some (.struct fields) ∧ fields[i]? = some f ∧ f.offset = off ∧ teOf P f.type = some fe ∧ fe.size ≠ 0 := by
  unfold fieldOf at h
  split at h
  · rename_i te hte
    split at h
    · rename_i fs hk
      split at h
      · rename_i o ft hfs
        split at h
        · rename_i fe' hfe
          cases hb : Nat.blt 0 fe'.size with
          | false => rw [hb] at h; cases h
          | true =>
            rw [hb] at h
            cases h
            obtain ⟨d, i', z, hd, hkd, _⟩ := teOf_spec (ht.get hte)
            cases d <;> simp [kindOf, hk] at hkd
            rename_i fields
            subst hkd
            rw [List.getElem?_map] at hfs
            obtain ⟨f, hf, hp⟩ := Option.map_eq_some_iff.1 hfs
            simp only [Prod.mk.injEq] at hp
            refine ⟨fields, f, hd, by simpa using hf, hp.1, by rw [hp.2]; exact ht.get hfe, ?_⟩
            have hb' := hb
            rw [Nat.blt_eq] at hb'
            omega
        · cases h
      · cases h
    · cases h
  · cases h

def shiftP (n : Nat) : AV → Option AV
  | .ptr i o => some (.ptr i (o + n))
  | .eptr i v j o => some (.eptr i v j (o + n))
  | .dptr l => some (.dptr (l.drop n))
  | _ => none
theorem addr_add (g off n : Nat) : (⟨g, off, none⟩ : Addr).add n = ⟨g, off + n, none⟩ := by unfold Addr.add; split <;> simp_all
section
variable {M : List AB} {β : Env} {w : World} {imm : Nat → Prop}
theorem shiftP_sat {n : Nat} {x y : AV} {v : Value} (h : shiftP n x = some y) (hx : AVsat M β w imm x v) : ∃ g off, v = .pointer (some ⟨g, off, none⟩) ∧ AVsat M β w imm y (.pointer (some ⟨g, off + n, none⟩)) ∨ (∃ i ver j o, x = .eptr i ver j o) := by
  cases x with
  | ptr i o =>
    cases h
    obtain ⟨g, c, h1, h2, h3⟩ := hx
    exact ⟨g, o, .inl ⟨h2, g, c, h1, rfl, h3⟩⟩
  | eptr i ver j o => exact ⟨0, 0, .inr ⟨i, ver, j, o, rfl⟩⟩
  | dptr l =>
    cases h
    obtain ⟨g, off, cs, h1, h2, h3, h4⟩ := hx
    refine ⟨g, off, .inl ⟨h1, g, off + n, cs.drop n, rfl, h2, h3.drop_ n, fun j u hj => ?_⟩⟩
    rw [List.getElem?_drop] at hj
    rw [Nat.add_assoc]
    exact h4 _ _ hj
  | _ => cases h
end

section
variable {P : Program} {o : Oper} {M M' : List AB} {ρ : Operand → AV} {out : AV} {tab : List (Nat × TE)}

theorem run_fieldAt (ht : TyTab P tab) {T i off : Nat} {fe : TE} (h : fieldOf tab T i = some (off, fe)) (g o : Nat) (w : World) :
    (Instr.fieldAt T (.pointer (some ⟨g, o, none⟩)) i).run P w = .ok (.pointer (some ⟨g, o + off, none⟩)) w := by
  obtain ⟨fields, f, h1, h2, h3, h4, h5⟩ := fieldOf_spec ht h
  simp [Instr.fieldAt, run_underlying h1, h2, Instr.sureAddr, fieldPlace, run_sizeOf h4, h5, addr_add, h3]
theorem astep_fieldAddr (ht : TyTab P tab) {T i off : Nat} {fe : TE} {x : Operand} (ho : o.op = .fieldAddr T x i) (hf : fieldOf tab T i = some (off, fe)) (hx : shiftP off (ρ x) = some out) (hne : ∀ i ver j o, ρ x ≠ .eptr i ver j o) : AStep P o M ρ M out :=
  .value fun S B β a w _ hs => by
    have h1 := hs x (by simp [ho, Op.operands])
    obtain ⟨g, o', h2 | ⟨i, ver, j, o', h2⟩⟩ := shiftP_sat hx h1
    · exact ⟨_, by simp [execOp, ho, h2.1, run_fieldAt ht hf], h2.2⟩
    · exact absurd h2 (hne _ _ _ _)
/-- A struct's field, out of a value. -/
theorem astep_field (ht : TyTab P tab) {T i off : Nat} {fe : TE} {x : Operand} {l : List AV} (ho : o.op = .field T x i) (hf : fieldOf tab T i = some (off, fe)) (hx : ρ x = .agg l) (hl : loadAV fe (l.drop off) = some out) : AStep P o M ρ M out :=
  .value fun S B β a w _ hs => by
    have h1 := hs x (by simp [ho, Op.operands])
    rw [hx] at h1
    obtain ⟨cs, h2, h3⟩ := h1
    obtain ⟨fields, f, h4, h5, h6, h7, h8⟩ := fieldOf_spec ht hf
    have h9 := h3.drop_ off
    unfold loadAV at hl
    cases hagg : fe.kind.agg with
    | true =>
      rw [hagg] at hl
      simp only [cond_true] at hl
      cases hle : Nat.ble fe.size (l.drop off).length with
      | false => rw [hle] at hl; cases hl
      | true =>
        rw [hle] at hl
        cases hl
        refine ⟨.agg (cs.extract off (off + fe.size)), by simp [execOp, ho, h2, Instr.field, run_underlying h4, h5, part, asAgg, run_isAgg h7, hagg, run_sizeOf h7, h6], _, rfl, ?_⟩
        have := h9.take_ fe.size
        simpa [Array.toList_extract, List.extract_eq_take_drop] using this
    | false =>
      rw [hagg] at hl
      simp only [cond_false] at hl
      obtain ⟨v, h10, h11⟩ := h9.get hl
      rw [List.getElem?_drop] at h10
      have h12 : cs[off]? = some v := by simpa using h10
      exact ⟨v, by simp [execOp, ho, h2, Instr.field, run_underlying h4, h5, part, asAgg, run_isAgg h7, hagg, h6, h12], h11⟩

theorem astep_load (ht : TyTab P tab) {T i off e : Nat} {te : TE} {x : Operand} {cells : List AV} (ho : o.op = .load T x) (hT : tget tab T = some te) (hx : ρ x = .ptr i off) (hM : M[i]? = some (.box e cells))
    (hl : loadAV te (cells.drop off) = some out) : AStep P o M ρ M out :=
  .value fun S B β a w hm hs => by
    have h1 := hs x (by simp [ho, Op.operands])
    rw [hx] at h1
    obtain ⟨g, c, h2, h3, _⟩ := h1
    obtain ⟨g', c', cs, h4, h5, h6⟩ := box_cells hm hM
    rw [h2] at h4; cases h4
    obtain ⟨v, h7, h8⟩ := run_loadVar (ht.get hT) (h6.drop_ off) (fun j u hj => cell_at h5 off j u hj) hl
    exact ⟨v, by simp [execOp, ho, h3, Instr.loadAt, Instr.sureAddr, h7], h8⟩
/-- Out of memory that is data: no own memory is looked at. -/
theorem astep_load_d (ht : TyTab P tab) {T : Nat} {te : TE} {x : Operand} {l : List AV} (ho : o.op = .load T x) (hT : tget tab T = some te) (hx : ρ x = .dptr l) (hl : loadAV te l = some out) : AStep P o M ρ M out :=
  .value fun S B β a w _ hs => by
    have h1 := hs x (by simp [ho, Op.operands])
    rw [hx] at h1
    obtain ⟨g, off, cs, h2, _, h3, h4⟩ := h1
    obtain ⟨v, h7, h8⟩ := run_loadVar (ht.get hT) h3 h4 hl
    exact ⟨v, by simp [execOp, ho, h2, Instr.loadAt, Instr.sureAddr, h7], h8⟩

/-- The cells of a value that is put into memory. -/
def cellsOf : AV → List AV
  | .agg l => l
  | x => [x]
def AV.oneC : AV → Bool
  | .val v => v.oneCell'
  | .sl _ _ => true
  | .ptr _ _ => true
  | .cl _ _ => true
  | .dptr _ => true
  | _ => false
theorem oneC_sat {β : Env} {w : World} {imm : Nat → Prop} {x : AV} {v : Value} (h : x.oneC = true) (hx : AVsat M β w imm x v) : v.oneCell' = true := by
  cases x with
  | val u => cases hx; exact h
  | sl k es => obtain ⟨A, n, c, h1, _⟩ := hx; simp at h1; rw [h1]; rfl
  | ptr i off => obtain ⟨g, c, _, h2, _⟩ := hx; rw [h2]; rfl
  | cl f caps => obtain ⟨cs, h1, _⟩ := hx; rw [h1]; rfl
  | dptr l => obtain ⟨g, off, cs, h1, _⟩ := hx; rw [h1]; rfl
  | _ => cases h
def oneCs (l : List AV) : Bool := l.all AV.oneC
/-- Is a word on a row the last word? -/
def freshRow (M : List AB) (i ver : Nat) : Bool := match M[i]? with
  | some (.row ver' _ _ _) => Nat.beq ver' ver
  | some (.rowo ver' _ _ _ _ _) => Nat.beq ver' ver
  | _ => false
def oneCM (M : List AB) : AV → Bool
  | .row i ver => freshRow M i ver
  | x => x.oneC
def oneCsM (M : List AB) (l : List AV) : Bool := l.all (oneCM M)
theorem oneCM_sat {M : List AB} {β : Env} {w : World} {imm : Nat → Prop} {x : AV} {v : Value} (h : oneCM M x = true) (hx : AVsat M β w imm x v) : v.oneCell' = true := by
  cases x with
  | row i ver =>
    obtain ⟨ab, h1, h2⟩ := hx
    simp only [oneCM, freshRow, h1] at h
    cases ab with
    | row ver' e k es =>
      have := h2.2 (Nat.eq_of_beq_eq_true h)
      rw [this]
      cases β i <;> rfl
    | gone => cases h
    | box _ _ => cases h
    | iter _ _ => cases h
    | rowo ver' e k pre mo cells =>
      have := h2.2 (Nat.eq_of_beq_eq_true h)
      rw [this]
      cases β i <;> rfl
  | val u => exact oneC_sat (x := .val u) h hx
  | sl k es => exact oneC_sat (x := .sl k es) h hx
  | ptr i off => exact oneC_sat (x := .ptr i off) h hx
  | cl f caps => exact oneC_sat (x := .cl f caps) h hx
  | dptr l => exact oneC_sat (x := .dptr l) h hx
  | _ => cases h
theorem cellsOf_satM {M : List AB} {β : Env} {w : World} {imm : Nat → Prop} {x : AV} {v : Value} (h : oneCsM M (cellsOf x) = true) (hx : AVsat M β w imm x v) : AVsats M β w imm (cellsOf x) v.cells.toList ∧ ∀ u ∈ v.cells.toList, u.oneCell' = true := by
  have one : ∀ (x : AV) (v : Value), oneCM M x = true → AVsat M β w imm x v → AVsats M β w imm [x] v.cells.toList ∧ ∀ u ∈ v.cells.toList, u.oneCell' = true := by
    intro x v h1 h2
    have h3 := oneCM_sat h1 h2
    have h4 : v.cells = #[v] := by cases v <;> first | rfl | cases h3
    rw [h4]
    exact ⟨⟨v, [], rfl, h2, rfl⟩, fun u hu => by simp at hu; subst hu; exact h3⟩
  have many : ∀ (l : List AV) (vs : List Value), l.all (oneCM M) = true → AVsats M β w imm l vs → ∀ u ∈ vs, u.oneCell' = true := by
    intro l
    induction l with
    | nil => intro vs _ h u hu; rw [h] at hu; cases hu
    | cons a as ih =>
      rintro vs h1 ⟨v, r, rfl, h2, h3⟩ u hu
      rw [List.all_cons, Bool.and_eq_true] at h1
      rcases List.mem_cons.1 hu with h4 | h4
      · subst h4; exact oneCM_sat h1.1 h2
      · exact ih r h1.2 h3 u h4
  have other : (∀ l, x ≠ .agg l) → AVsats M β w imm (cellsOf x) v.cells.toList ∧ ∀ u ∈ v.cells.toList, u.oneCell' = true := by
    intro hne
    have e : cellsOf x = [x] := by cases x <;> first | rfl | exact absurd rfl (hne _)
    rw [e] at h ⊢
    simp only [oneCsM, List.all_cons, List.all_nil, Bool.and_true] at h
    exact one x v h hx
  cases x with
  | agg l =>
    obtain ⟨cs, h1, h2⟩ := hx
    subst h1
    exact ⟨h2, many l _ h h2⟩
  | _ => exact other (by intro l; simp)
theorem cellsOf_sat {β : Env} {w : World} {imm : Nat → Prop} {x : AV} {v : Value} (h : oneCs (cellsOf x) = true) (hx : AVsat M β w imm x v) : AVsats M β w imm (cellsOf x) v.cells.toList ∧ ∀ u ∈ v.cells.toList, u.oneCell' = true := by
  have one : ∀ (x : AV) (v : Value), x.oneC = true → AVsat M β w imm x v → AVsats M β w imm [x] v.cells.toList ∧ ∀ u ∈ v.cells.toList, u.oneCell' = true := by
    intro x v h1 h2
    have h3 := oneC_sat h1 h2
    have h4 : v.cells = #[v] := by cases v <;> first | rfl | cases h3
    rw [h4]
    exact ⟨⟨v, [], rfl, h2, rfl⟩, fun u hu => by simp at hu; subst hu; exact h3⟩
  have many : ∀ (l : List AV) (vs : List Value), l.all AV.oneC = true → AVsats M β w imm l vs → ∀ u ∈ vs, u.oneCell' = true := by
    intro l
    induction l with
    | nil => intro vs _ h u hu; rw [h] at hu; cases hu
    | cons a as ih =>
      rintro vs h1 ⟨v, r, rfl, h2, h3⟩ u hu
      rw [List.all_cons, Bool.and_eq_true] at h1
      rcases List.mem_cons.1 hu with h4 | h4
      · subst h4; exact oneC_sat h1.1 h2
      · exact ih r h1.2 h3 u h4
  cases x with
  | agg l =>
    obtain ⟨cs, h1, h2⟩ := hx
    subst h1
    exact ⟨h2, many l _ h h2⟩
  | any => simp [cellsOf, oneCs, AV.oneC] at h
  | row _ _ => simp [cellsOf, oneCs, AV.oneC] at h
  | eptr _ _ _ _ => simp [cellsOf, oneCs, AV.oneC] at h
  | tup _ => simp [cellsOf, oneCs, AV.oneC] at h
  | ub _ _ => simp [cellsOf, oneCs, AV.oneC] at h
  | alt _ _ => simp [cellsOf, oneCs, AV.oneC] at h
  | pr _ => simp [cellsOf, oneCs, AV.oneC] at h
  | vw _ _ _ => simp [cellsOf, oneCs, AV.oneC] at h
  | cnd _ _ => simp [cellsOf, oneCs, AV.oneC] at h
  | val u => exact one _ _ (by simpa [cellsOf, oneCs] using h) hx
  | sl k es => exact one _ _ rfl hx
  | ptr i off => exact one _ _ rfl hx
  | cl f caps => exact one _ _ rfl hx
  | dptr l => exact one _ _ rfl hx

/-- An operation that makes one new own block. -/
theorem AStep.newBox {e : TypeId} {cells : List AV} (h : ∀ (S : Nat → Prop) (B : Nat) (β : Env) (a : Act) (w : World), MemSat S B M β w → (∀ x ∈ o.op.operands, AVsat M β w (immOf S B M β w) (ρ x) (a.eval x)) →
    ∃ cs, (execOp a.eval o).run P w = .ok (.value (.pointer (some ⟨w.heap.size, 0, none⟩))) (w.alloc (.cells cs e)) ∧ AVsats M β w (immOf S B M β w) cells cs.toList) : AStep P o M ρ (M ++ [.box e cells]) (.ptr M.length 0) := by
  intro S B β a w hm hs K Q hK
  obtain ⟨cs, h1, h2⟩ := h S B β a w hm hs
  unfold Oper.wp
  rw [h1]
  have hb : Below w.heap.size w (w.alloc (.cells cs e)) := (Below.refl _ _).alloc (Nat.le_refl _) _
  obtain ⟨e1, e2⟩ := hm.push (ab := .box e cells) (x := some (w.heap.size, 0)) hb (fun g c h => by cases h; exact Nat.le_refl _)
    (fun hE => ⟨w.heap.size, 0, cs, rfl, heap_alloc_new w _, h2.ev hE⟩)
  exact hK _ _ _ e1 e2 ⟨w.heap.size, 0, by simp, rfl, .box e cells, by simp, rfl⟩
theorem astep_box {T : Nat} {x : Operand} (ho : o.op = .box T x) (hx : oneCsM M (cellsOf (ρ x)) = true) : AStep P o M ρ (M ++ [.box T (cellsOf (ρ x))]) (.ptr M.length 0) :=
  .newBox fun S B β a w _ hs => by
    have h1 := hs x (by simp [ho, Op.operands])
    refine ⟨(a.eval x).cells, ?_, (cellsOf_satM hx h1).1⟩
    simp [execOp, ho, Instr.box, newVar, newRow]
theorem astep_alloc (ht : TyTab P tab) {T : Nat} {te : TE} (ho : o.op = .alloc T) (hT : tget tab T = some te) : AStep P o M ρ (M ++ [.box T (te.zero.map .val)]) (.ptr M.length 0) :=
  .newBox fun S B β a w _ _ => by
    obtain ⟨z, h1, h2⟩ := run_zeroCells (P := P) (w := w) (ht.get hT)
    refine ⟨z.cells, by simp [execOp, ho, Instr.alloc, newVar, newRow, h1], ?_⟩
    rw [h2]
    have : ∀ (l : List Value), AVsats M β w (immOf S B M β w) (l.map .val) l := by
      intro l
      induction l with
      | nil => rfl
      | cons a as ih => exact ⟨a, as, rfl, rfl, ih⟩
    exact this _

/-- Cells written over cells, from a place on. -/
def putCells (cells : List AV) (off : Nat) (new : List AV) : List AV := cells.take off ++ new ++ cells.drop (off + new.length)
theorem run_storeVar (ht : TyTab P tab) {T : Nat} {te : TE} (hT : tget tab T = some te) {w : World} {g off : Nat} {cs : Array Value} {e : TypeId} {v : Value} (hg : w.heap[g]? = some (.cells cs e (0, 0)))
    (hsz : v.cells.size = te.size) (h1 : ∀ u ∈ v.cells.toList, u.oneCell' = true) (hfit : off + te.size ≤ cs.size) :
    (storeVar T ⟨g, off, none⟩ v).run P w = .ok () (w.setRow g (cs.toList.take off ++ v.cells.toList ++ cs.toList.drop (off + v.cells.toList.length)).toArray) := by
  have h := run_storeCells_at P g off e v.cells.toList 0 cs w hg (by simp; omega) h1
  simp only [Nat.add_zero] at h
  simp [storeVar, run_sizeOf (ht.get hT), hsz, h]
theorem putCells_sat {β : Env} {w : World} {imm : Nat → Prop} {cells new : List AV} {cs ns : List Value} {off : Nat} (h : AVsats M β w imm cells cs) (hn : AVsats M β w imm new ns) :
    AVsats M β w imm (putCells cells off new) (cs.take off ++ ns ++ cs.drop (off + ns.length)) := by
  unfold putCells
  rw [hn.len]
  exact ((h.take_ off).append hn).append (h.drop_ _)

theorem astep_store (ht : TyTab P tab) {T i off e : Nat} {te : TE} {x y : Operand} {cells : List AV} (ho : o.op = .store T x y) (hT : tget tab T = some te) (hx : ρ x = .ptr i off) (hM : M[i]? = some (.box e cells))
    (hy : oneCsM M (cellsOf (ρ y)) = true) (hsz : (cellsOf (ρ y)).length = te.size) (hfit : Nat.ble (off + te.size) cells.length = true) : AStep P o M ρ (M.set i (.box e (putCells cells off (cellsOf (ρ y))))) (.val undef) := by
  intro S B β a w hm hs K Q hK
  have h1 := hs x (by simp [ho, Op.operands])
  have h2 := hs y (by simp [ho, Op.operands])
  rw [hx] at h1
  obtain ⟨g, c, h3, h4, _⟩ := h1
  obtain ⟨g', c', cs, h5, h6, h7⟩ := box_cells hm hM
  rw [h3] at h5; cases h5
  obtain ⟨h8, h9⟩ := cellsOf_satM hy h2
  have hl8 := h8.len
  have hl7 := h7.len
  have hfit' := Nat.le_of_ble_eq_true hfit
  have hr := run_storeVar ht hT h6 (v := a.eval y) (off := off) (by simp at hl8; omega) h9 (by simp at hl7; omega)
  unfold Oper.wp
  have hrun : (execOp a.eval o).run P w = .ok .skip (w.setRow g (cs.toList.take off ++ (a.eval y).cells.toList ++ cs.toList.drop (off + (a.eval y).cells.toList.length)).toArray) := by
    simp only [execOp, ho, h4, Instr.storeAt, Instr.sureAddr]
    simp only [Sem.run_bind, Sem.run_pure, Result.andThen_ok, hr]
  rw [hrun]
  have hs : setE β i (some (g, c)) = β := by funext j; by_cases hj : j = i <;> simp [setE, hj, h3]
  have := hm.set_ (w' := w.setRow g (cs.toList.take off ++ (a.eval y).cells.toList ++ cs.toList.drop (off + (a.eval y).cells.toList.length)).toArray)
    (ab' := .box e (putCells cells off (cellsOf (ρ y)))) (x := some (g, c)) hM rfl rfl rfl rfl (by simp)
    (fun b _ hne => setRow_other w g b _ (fun e => hne c (by rw [h3, e]))) (fun g' c' h => by cases h; exact .inl ⟨c, h3⟩) ⟨rfl, h3.symm⟩
    (fun hE => ⟨g, c, _, rfl, setRow_heap w g cs _ e _ h6, by
      have := putCells_sat (off := off) (h7.ev hE) (h8.ev hE)
      simpa using this⟩)
  rw [hs] at this
  exact hK _ _ _ this.1 this.2 rfl
end

end Go.Proofs.YtiolnmfaeenlmaaGreatDoor

/- The engine, part 8: slices, strings, calls. -/
namespace Go.Proofs.YtiolnmfaeenlmaaGreatDoor
open Go Go.RowKit

/-- The element type of a slice type, and its size and bytes. -/
def elemOf_ (tab : List (Nat × TE)) (T : Nat) : Option (Nat × TE) :=
  match tget tab T with
  | some te => match te.kind with
    | .slice e => match tget tab e with
      | some ee => some (e, ee)
      | none => none
    | _ => none
  | none => none
theorem elemOf_spec {P : Program} {tab : List (Nat × TE)} (ht : TyTab P tab) {T e : Nat} {ee : TE} (h : elemOf_ tab T = some (e, ee)) : P.underlying T = some (.slice e) ∧ teOf P e = some ee := by
  unfold elemOf_ at h
  split at h
  · rename_i te hte
    split at h
    · rename_i e' hk
      split at h
      · rename_i ee' hee
        cases h
        obtain ⟨d, i', z, hd, hkd, _⟩ := teOf_spec (ht.get hte)
        cases d <;> simp [kindOf, hk] at hkd
        subst hkd
        exact ⟨hd, ht.get hee⟩
      · cases h
    · cases h
  · cases h
def kindAt (tab : List (Nat × TE)) (T : Nat) : Option TK := (tget tab T).map (·.kind)
theorem kindAt_spec {P : Program} {tab : List (Nat × TE)} (ht : TyTab P tab) {T : Nat} {k : TK} (h : kindAt tab T = some k) : ∃ d, P.underlying T = some d ∧ kindOf d = k := by
  unfold kindAt at h
  obtain ⟨te, h1, h2⟩ := Option.map_eq_some_iff.1 h
  obtain ⟨d, i, z, h3, h4, _⟩ := teOf_spec (ht.get h1)
  exact ⟨d, h3, h4.trans h2⟩
theorem kindAt_str {P : Program} {tab : List (Nat × TE)} (ht : TyTab P tab) {T : Nat} (h : kindAt tab T = some .str) : P.underlying T = some .string := by
  obtain ⟨d, h1, h2⟩ := kindAt_spec ht h
  cases d <;> simp [kindOf] at h2
  exact h1
theorem kindAt_int {P : Program} {tab : List (Nat × TE)} (ht : TyTab P tab) {T : Nat} {k : IntKind} (h : kindAt tab T = some (.int k)) : P.underlying T = some (.int k) := by
  obtain ⟨d, h1, h2⟩ := kindAt_spec ht h
  cases d <;> simp [kindOf] at h2
  subst h2; exact h1
theorem kindAt_bool {P : Program} {tab : List (Nat × TE)} (ht : TyTab P tab) {T : Nat} (h : kindAt tab T = some .bool) : P.underlying T = some .bool := by
  obtain ⟨d, h1, h2⟩ := kindAt_spec ht h
  cases d <;> simp [kindOf] at h2
  exact h1
section
variable {P : Program} {o : Oper} {M M' : List AB} {ρ : Operand → AV} {out : AV} {tab : List (Nat × TE)}

/-- len -/
theorem astep_len_s (ht : TyTab P tab) {T : Nat} {x : Operand} {s : ByteArray} (ho : o.op = .call { callee := .builtin .len, args := #[x], argTypes := #[T] }) (hT : kindAt tab T = some .str) (hx : ρ x = .val (.string s)) :
    AStep P o M ρ M (.val (.int .i64 s.size)) :=
  .value fun S B β a w _ hs => by
    have h1 := hs x (by simp [ho, Op.operands, Call.operands])
    rw [hx] at h1
    have h1 : a.eval x = .string s := h1
    exact ⟨_, by simp [execOp, ho, h1, resolve, invoke, builtin, Builtin.len_, run_underlying (kindAt_str ht hT), goInt], rfl⟩
theorem run_len_sl {T e : Nat} (hu : P.underlying T = some (.slice e)) (ty : TypeId) (A : Option Addr) (n c : Nat) (w : World) : (Builtin.len_ #[T] ty #[.slice A n c]).run P w = .ok (.int .i64 n) w := by
  simp [Builtin.len_, run_underlying hu, goInt]
theorem astep_len (ht : TyTab P tab) {T e : Nat} {ee : TE} {x : Operand} {k : Nat} {es : List D} (ho : o.op = .call { callee := .builtin .len, args := #[x], argTypes := #[T] }) (hT : elemOf_ tab T = some (e, ee)) (hx : ρ x = .sl k es) :
    AStep P o M ρ M (.val (.int .i64 es.length)) :=
  .value fun S B β a w _ hs => by
    have h1 := hs x (by simp [ho, Op.operands, Call.operands])
    rw [hx] at h1
    obtain ⟨A, n, c, h2, h3, _⟩ := h1
    simp at h2
    exact ⟨_, by simp [execOp, ho, h2, resolve, invoke, builtin, run_len_sl (elemOf_spec ht hT).1]; rfl, by rw [h3]; rfl⟩
theorem astep_len_nil (ht : TyTab P tab) {T e : Nat} {ee : TE} {x : Operand} (ho : o.op = .call { callee := .builtin .len, args := #[x], argTypes := #[T] }) (hT : elemOf_ tab T = some (e, ee)) (hx : ρ x = .val (.slice none 0 0)) :
    AStep P o M ρ M (.val (.int .i64 0)) :=
  .value fun S B β a w _ hs => by
    have h1 := hs x (by simp [ho, Op.operands, Call.operands])
    rw [hx] at h1
    have h1 : a.eval x = .slice none 0 0 := h1
    exact ⟨_, by simp [execOp, ho, h1, resolve, invoke, builtin, run_len_sl (elemOf_spec ht hT).1], rfl⟩
theorem rowVal_form (b : Option (Nat × Nat)) (n : Nat) (h : b = none → n = 0) : ∃ A c, rowVal b n = .slice A n c := by
  cases b with
  | none => rw [h rfl]; exact ⟨none, 0, rfl⟩
  | some gc => exact ⟨some ⟨gc.1, 0, none⟩, gc.2, rfl⟩
theorem row_val {S : Nat → Prop} {B : Nat} {β : Env} {w : World} (hm : MemSat S B M β w) {i ver e k : Nat} {es : List D} (hM : M[i]? = some (.row ver e k es)) {v : Value} (h : AVsat M β w (immOf S B M β w) (.row i ver) v) :
    v = rowVal (β i) es.length ∧ (β i = none → es = []) := by
  obtain ⟨ab, h1, h2⟩ := h
  rw [hM] at h1; cases h1
  refine ⟨h2.2 rfl, fun hn => ?_⟩
  rcases (hm.ent i _ hM).2 with ⟨_, h3⟩ | ⟨g, c, cs, h3, _⟩
  · exact h3
  · rw [hn] at h3; cases h3
theorem astep_len_row (ht : TyTab P tab) {T e : Nat} {ee : TE} {x : Operand} {i ver e' k : Nat} {es : List D} (ho : o.op = .call { callee := .builtin .len, args := #[x], argTypes := #[T] }) (hT : elemOf_ tab T = some (e, ee)) (hx : ρ x = .row i ver) (hM : M[i]? = some (.row ver e' k es)) :
    AStep P o M ρ M (.val (.int .i64 es.length)) :=
  .value fun S B β a w hm hs => by
    have h1 := hs x (by simp [ho, Op.operands, Call.operands])
    rw [hx] at h1
    obtain ⟨h2, h3⟩ := row_val hm hM h1
    obtain ⟨A, c, h4⟩ := rowVal_form (β i) es.length (fun h => by rw [h3 h]; rfl)
    rw [h4] at h2
    exact ⟨_, by simp [execOp, ho, h2, resolve, invoke, builtin, run_len_sl (elemOf_spec ht hT).1], rfl⟩

/-- min, max -/
theorem astep_min {x y : Operand} {ts : Array TypeId} {k k' : IntKind} {a b : Int} (ho : o.op = .call { callee := .builtin .min, args := #[x, y], argTypes := ts }) (hx : ρ x = .val (.int k a)) (hy : ρ y = .val (.int k' b)) : AStep P o M ρ M (.val (.int k (min a b))) :=
  .value fun S B β A w _ hs => by
    have h1 := hs x (by simp [ho, Op.operands, Call.operands])
    have h2 := hs y (by simp [ho, Op.operands, Call.operands])
    rw [hx] at h1; rw [hy] at h2
    have h1 : A.eval x = .int k a := h1
    have h2 : A.eval y = .int k' b := h2
    refine ⟨.int k (min a b), ?_, rfl⟩
    have := run_min_int2 (P := P) w ts o.type k k' a b
    simp only [execOp, ho, resolve, invoke, builtin]
    simp [h1, h2, this]
    omega
theorem astep_max {x y : Operand} {ts : Array TypeId} {k k' : IntKind} {a b : Int} (ho : o.op = .call { callee := .builtin .max, args := #[x, y], argTypes := ts }) (hx : ρ x = .val (.int k a)) (hy : ρ y = .val (.int k' b)) : AStep P o M ρ M (.val (.int k (max a b))) :=
  .value fun S B β A w _ hs => by
    have h1 := hs x (by simp [ho, Op.operands, Call.operands])
    have h2 := hs y (by simp [ho, Op.operands, Call.operands])
    rw [hx] at h1; rw [hy] at h2
    have h1 : A.eval x = .int k a := h1
    have h2 : A.eval y = .int k' b := h2
    refine ⟨.int k (max a b), ?_, rfl⟩
    have := run_max_int2 (P := P) w ts o.type k k' a b
    simp only [execOp, ho, resolve, invoke, builtin]
    simp [h1, h2, this]
    omega

/-- An element's place, in a slice that is data. -/
theorem astep_idx (ht : TyTab P tab) {T e : Nat} {ee : TE} {x y : Operand} {es : List D} {q : IntKind} {n : Int} {d : D} (ho : o.op = .indexAddr T x y) (hT : elemOf_ tab T = some (e, ee)) (hx : ρ x = .sl ee.size es) (hy : ρ y = .val (.int q n))
    (h0 : 0 ≤ n) (hd : es[n.toNat]? = some d) : AStep P o M ρ M (.dptr d.cells) :=
  .value fun S B β a w _ hs => by
    have h1 := hs x (by simp [ho, Op.operands])
    have h2 := hs y (by simp [ho, Op.operands])
    rw [hx] at h1; rw [hy] at h2
    have h2 : a.eval y = .int q n := h2
    obtain ⟨A, l, c, h3, h4, h5, h6, h7, h8⟩ := h1
    simp at h3
    obtain ⟨hu, he⟩ := elemOf_spec ht hT
    have hlt : n.toNat < es.length := (List.getElem?_eq_some_iff.1 hd).1
    obtain ⟨g, off, rows, h9, h10, h11, h12⟩ := h8 (by omega)
    subst h9
    have hcond : 0 ≤ n ∧ n < (l : Int) := by omega
    refine ⟨.pointer (some ⟨g, off + n.toNat * ee.size, none⟩), ?_, g, off + n.toNat * ee.size, _, rfl, h10, (h11.at_ h7 hd).cells_, fun j u hj => ?_⟩
    · simp [execOp, ho, h2, h3, Instr.indexAt, asIntOf, run_underlying hu, hcond, run_sizeOf he, addr_add]
    · rw [List.getElem?_take] at hj
      split at hj
      · rw [List.getElem?_drop] at hj
        rw [Nat.add_assoc]
        exact h12 _ _ hj
      · cases hj
/-- An element's place, in an own row. -/
theorem astep_idx_row (ht : TyTab P tab) {T e : Nat} {ee : TE} {x y : Operand} {i ver e' : Nat} {es : List D} {q : IntKind} {n : Int} (ho : o.op = .indexAddr T x y) (hT : elemOf_ tab T = some (e, ee)) (hx : ρ x = .row i ver) (hM : M[i]? = some (.row ver e' ee.size es)) (hy : ρ y = .val (.int q n))
    (h0 : 0 ≤ n) (hd : n.toNat < es.length) : AStep P o M ρ M (.eptr i ver n.toNat 0) :=
  .value fun S B β a w hm hs => by
    have h1 := hs x (by simp [ho, Op.operands])
    have h2 := hs y (by simp [ho, Op.operands])
    rw [hx] at h1; rw [hy] at h2
    have h2 : a.eval y = .int q n := h2
    obtain ⟨h3, h4⟩ := row_val hm hM h1
    obtain ⟨hu, he⟩ := elemOf_spec ht hT
    cases hb : β i with
    | none => rw [h4 hb] at hd; simp at hd
    | some gc =>
      obtain ⟨g, c⟩ := gc
      rw [hb] at h3
      have hcond : 0 ≤ n ∧ n < (es.length : Int) := by omega
      refine ⟨.pointer (some ⟨g, n.toNat * ee.size, none⟩), ?_, .row ver e' ee.size es, hM, Nat.le_refl _, fun _ => ⟨g, c, hb, by simp⟩⟩
      simp [execOp, ho, h2, h3, rowVal, Instr.indexAt, asIntOf, run_underlying hu, hcond, run_sizeOf he, addr_add]
theorem D_cells_len {w : World} {imm : Nat → Prop} {d : D} {cs : List Value} (h : DenC w imm d cs) : d.cells.length = d.width := by
  have := DenC.cells_ (M := []) (β := fun _ => none) d cs h
  rw [← this.len, h.len]
/-- A read of an own row's element. -/
theorem astep_load_e (ht : TyTab P tab) {T : Nat} {te : TE} {x : Operand} {i ver j off e k : Nat} {es : List D} {d : D} (ho : o.op = .load T x) (hT : tget tab T = some te) (hx : ρ x = .eptr i ver j off) (hM : M[i]? = some (.row ver e k es))
    (hd : es[j]? = some d) (hl : loadAV te (d.cells.drop off) = some out) : AStep P o M ρ M out :=
  .value fun S B β a w hm hs => by
    have h1 := hs x (by simp [ho, Op.operands])
    rw [hx] at h1
    obtain ⟨ab, h2, h3⟩ := h1
    rw [hM] at h2; cases h2
    obtain ⟨g, c, h4, h5⟩ := h3.2 rfl
    obtain ⟨hw, h6 | ⟨g', c', cs, h6, h7, h8, h9, h10, h11⟩⟩ := hm.ent i _ hM
    · rw [h4] at h6; cases h6.1
    · rw [h4] at h6; cases h6
      have h12 := (h11.at_ hw hd).cells_ (M := M) (β := β)
      obtain ⟨v, h13, h14⟩ := run_loadVar (P := P) (ht.get hT) (g := g) (off := j * k + off) (h12.drop_ off) (fun q u hq => by
        rw [List.getElem?_drop, List.getElem?_take] at hq
        split at hq
        · rw [List.getElem?_drop, List.getElem?_take] at hq
          split at hq
          · rw [Nat.add_assoc]
            rw [h7.cell]
            simpa using hq
          · cases hq
        · cases hq) hl
      exact ⟨v, by simp [execOp, ho, h5, Instr.loadAt, Instr.sureAddr, h13], h14⟩
/-- A datum out of cells. -/
def toD1 : AV → Option D
  | .val v => some (.val v)
  | .sl k es => some (.sl k es)
  | _ => none
def toDs : List AV → Option (List D)
  | [] => some []
  | x :: r => match toD1 x, toDs r with
    | some d, some ds => some (d :: ds)
    | _, _ => none
def toD : AV → Option D
  | .agg l => (toDs l).map .ag
  | x => toD1 x
def fine1 : AV → Bool
  | .val v => v.oneCell'
  | _ => true
theorem toDs_sat {β : Env} {w : World} {imm : Nat → Prop} : ∀ {l : List AV} {ds : List D} {cs : List Value}, toDs l = some ds → oneCs l = true → AVsats M β w imm l cs → DenCs w imm ds cs
  | [], _, _, h, _, hs => by cases h; exact hs
  | x :: r, ds, cs, h, h1, ⟨v, vs, h2, h3, h4⟩ => by
    simp only [toDs] at h
    split at h
    · rename_i d ds' hd hds
      cases h
      rw [oneCs, List.all_cons, Bool.and_eq_true] at h1
      refine ⟨[v], vs, h2, ?_, toDs_sat hds h1.2 h4⟩
      cases x with
      | val u => cases hd; cases h3; exact ⟨rfl, h1.1⟩
      | sl k es => cases hd; exact h3
      | _ => cases hd
    · cases h
theorem toD_sat {β : Env} {w : World} {imm : Nat → Prop} {x : AV} {d : D} {v : Value} (h : toD x = some d) (h1 : oneCs (cellsOf x) = true) (hs : AVsat M β w imm x v) : DenC w imm d v.cells.toList := by
  obtain ⟨h2, _⟩ := cellsOf_sat h1 hs
  cases x with
  | agg l =>
    obtain ⟨ds, h3, h4⟩ := Option.map_eq_some_iff.1 h
    subst h4
    exact toDs_sat h3 h1 h2
  | val u =>
    cases h
    cases hs
    have h3 : v.oneCell' = true := by simpa [oneCs, cellsOf, AV.oneC] using h1
    have h4 : v.cells = #[v] := by cases v <;> first | rfl | cases h3
    rw [h4]
    exact ⟨rfl, h3⟩
  | sl k es =>
    cases h
    obtain ⟨A, n, c, h3, h6⟩ := hs
    simp at h3
    rw [h3]
    exact ⟨A, n, c, rfl, h6⟩
  | _ => cases h
end

end Go.Proofs.YtiolnmfaeenlmaaGreatDoor

/- The engine, part 9: new slices, append, calls. -/
namespace Go.Proofs.YtiolnmfaeenlmaaGreatDoor
open Go Go.RowKit

section
variable {P : Program} {o : Oper} {M M' : List AB} {ρ : Operand → AV} {out : AV} {tab : List (Nat × TE)}

/-- An operation that answers, whose world has only grown. -/
theorem AStep.grows (h : ∀ (S : Nat → Prop) (B : Nat) (β : Env) (a : Act) (w : World), MemSat S B M β w → (∀ x ∈ o.op.operands, AVsat M β w (immOf S B M β w) (ρ x) (a.eval x)) →
    ∃ v w', (execOp a.eval o).run P w = .ok (.value v) w' ∧ Below w.heap.size w w' ∧ (Ev M β w M β w' → AVsat M β w' (immOf S B M β w') out v)) : AStep P o M ρ M out := by
  intro S B β a w hm hs K Q hK
  obtain ⟨v, w', h1, h2, h3⟩ := h S B β a w hm hs
  unfold Oper.wp
  rw [h1]
  exact hK v β w' (Ev.of_below h2) (hm.quiet h2) (h3 (Ev.of_below h2))

def toDall : List AV → Option (List D)
  | [] => some []
  | x :: r => match toD x, toDall r with
    | some d, some ds => some (d :: ds)
    | _, _ => none
def fitK (k : Nat) (l : List AV) (ds : List D) : Bool := l.all (fun x => oneCs (cellsOf x)) && ds.all fun d => Nat.beq d.width k
theorem toDall_sat {β : Env} {w : World} {imm : Nat → Prop} {k : Nat} : ∀ {l : List AV} {ds : List D} {vs : List Value}, toDall l = some ds → fitK k l ds = true → AVsats M β w imm l vs →
    DenCs w imm ds (vs.flatMap fun v => v.cells.toList) ∧ AllW k ds ∧ (∀ v ∈ vs, v.cells.size = k) ∧ ds.length = vs.length
  | [], ds, vs, h, _, hs => by cases h; rw [hs]; exact ⟨rfl, fun d hd => by simp at hd, fun v hv => by simp at hv, rfl⟩
  | x :: r, ds, vs, h, h1, ⟨v, us, h2, h3, h4⟩ => by
    simp only [toDall] at h
    split at h
    · rename_i d ds' hd hds
      cases h
      simp only [fitK, List.all_cons, Bool.and_eq_true] at h1
      obtain ⟨⟨a1, a2⟩, b1, b2⟩ := h1
      have hw := Nat.eq_of_beq_eq_true b1
      obtain ⟨c1, c2, c3, c4⟩ := toDall_sat (k := k) (l := r) hds (by simp [fitK, a2, b2]) h4
      subst h2
      have hden := toD_sat hd a1 h3
      refine ⟨⟨_, _, by simp, hden, c1⟩, fun e he => ?_, fun u hu => ?_, by simp [c4]⟩
      · rcases List.mem_cons.1 he with h5 | h5
        · rw [h5]; exact hw
        · exact c2 e h5
      · rcases List.mem_cons.1 hu with h5 | h5
        · rw [h5, ← hw]; have := hden.len; simpa using this
        · exact c3 u h5
    · cases h

theorem flat_get {k : Nat} (hk : 0 < k) : ∀ (vs : List Value) (j : Nat), (∀ v ∈ vs, v.cells.size = k) → (vs.flatMap fun v => v.cells.toList)[j]? = (vs[j / k]?).bind fun v => v.cells[j % k]?
  | [], j, _ => by simp
  | v :: vs, j, h => by
    have hv : v.cells.size = k := h v (by simp)
    have ih := fun j => flat_get hk vs j fun u hu => h u (by simp [hu])
    rw [List.flatMap_cons]
    rcases Nat.lt_or_ge j k with hlt | hge
    · rw [List.getElem?_append_left (by simp [hv, hlt]), Nat.div_eq_of_lt hlt, Nat.mod_eq_of_lt hlt]
      simp
    · rw [List.getElem?_append_right (by simp [hv, hge])]
      rw [Array.length_toList, hv, ih]
      have e1 : j / k = (j - k) / k + 1 := by rw [Nat.div_eq j k, if_pos ⟨hk, hge⟩]
      have e2 : j % k = (j - k) % k := by rw [Nat.mod_eq_sub_mod hge]
      rw [e1, e2, List.getElem?_cons_succ]

/-- The cells of a slice that is written out. -/
theorem run_buildSlice (ht : TyTab P tab) {T e n : Nat} {ee : TE} (hT : elemOf_ tab T = some (e, ee)) (_ : ee.zero.length = ee.size) (hs : 0 < ee.size) {vs : List Value} (hv : ∀ v ∈ vs, v.cells.size = ee.size) (hn : vs.length = n)
    (hsmall : n * ee.size ≤ 2 ^ 24) (w : World) :
    ∃ cs : Array Value, (Instr.buildSlice T n ((vs.zipIdx 0).map fun x => (x.2, x.1)).toArray).run P w = .ok (.slice (some ⟨w.heap.size, 0, none⟩) n n) (w.alloc (.cells cs e)) ∧ cs.toList = vs.flatMap fun v => v.cells.toList := by
  obtain ⟨hu, he⟩ := elemOf_spec ht hT
  obtain ⟨z, hz1, hz2⟩ := run_zeroCells (P := P) (w := w) he
  have hlen : ∀ (vs : List Value), (∀ v ∈ vs, v.cells.size = ee.size) → (vs.flatMap fun v => v.cells.toList).length = vs.length * ee.size := by
    intro vs
    induction vs with
    | nil => intro _; simp
    | cons v vs ih => intro h; rw [List.flatMap_cons, List.length_append, ih fun u hu => h u (by simp [hu]), Array.length_toList, h v (by simp), List.length_cons, Nat.add_mul]; omega
  have key : ∀ cells : Array Value, cells.size = n * ee.size → ∃ cs : Array Value, Instr.fill (fun i => some (i * ee.size, ee.size)) cells ((vs.zipIdx 0).map fun x => (x.2, x.1)) = some cs ∧ cs.toList = vs.flatMap fun v => v.cells.toList := by
    intro cells hc
    obtain ⟨r, hr, hsz, hk⟩ := Go.Great.fill_dense hs vs 0 cells hv (by rw [hc, ← hn]; simp)
    refine ⟨r, hr, ?_⟩
    apply List.ext_getElem?
    intro j
    rw [flat_get hs vs j hv, Array.getElem?_toList, hk j]
    by_cases hj : j < n * ee.size
    · rw [if_pos ⟨by omega, by rw [Nat.zero_add, hn]; exact hj⟩]; simp
    · rw [if_neg (by rw [Nat.zero_add, hn]; omega)]
      rw [Array.getElem?_eq_none (by omega)]
      have : vs.length ≤ j / ee.size := by rw [hn]; exact (Nat.le_div_iff_mul_le hs).2 (by omega)
      rw [List.getElem?_eq_none this]
      rfl
  by_cases h0 : n * ee.size = 0
  · obtain ⟨cs, h1, h2⟩ := key #[] (by simp [h0])
    refine ⟨cs, ?_, h2⟩
    simp [Instr.buildSlice, run_underlying hu, run_sizeOf he, h0, h1, newRow, Array.range_zero']
  · obtain ⟨cs, h1, h2⟩ := key ((Array.range (n * ee.size)).map (z.cells[· % z.cells.size]!)) (by simp)
    refine ⟨cs, ?_, h2⟩
    have hb : ¬ (n * ee.size > 2 ^ 24) := by omega
    simp only [Instr.buildSlice, Sem.run_bind, run_underlying hu, Result.andThen_ok, run_sizeOf he, hb, if_false, h0, Sem.run_pure, hz1, h1, newRow]
    simp

theorem map_sat {β : Env} {w : World} {imm : Nat → Prop} {a : Act} : ∀ {l : List Operand}, (∀ x ∈ l, AVsat M β w imm (ρ x) (a.eval x)) → AVsats M β w imm (l.map ρ) (l.map a.eval)
  | [], _ => rfl
  | x :: r, h => ⟨a.eval x, r.map a.eval, rfl, h x (by simp), map_sat fun y hy => h y (by simp [hy])⟩

/-- The parts of a slice that is written out, in order. -/
def partsOf (parts : Array (Nat × Operand)) : List Operand := parts.toList.map (·.2)
def inOrder : List (Nat × Operand) → Nat → Bool
  | [], _ => true
  | (i, _) :: r, n => Nat.beq i n && inOrder r (n + 1)
theorem inOrder_zip {a : Act} : ∀ {l : List (Nat × Operand)} {n : Nat}, inOrder l n = true → l.map (fun x => (x.1, a.eval x.2)) = (((l.map (·.2)).map a.eval).zipIdx n).map fun x => (x.2, x.1)
  | [], _, _ => rfl
  | (i, x) :: r, n, h => by
    simp only [inOrder, Bool.and_eq_true] at h
    have := Nat.eq_of_beq_eq_true h.1
    subst this
    simp only [List.map_cons, List.zipIdx_cons]
    rw [inOrder_zip h.2]
theorem mem_parts {parts : Array (Nat × Operand)} {x : Operand} {T n : Nat} (ho : o.op = .buildSlice T n parts) (hx : x ∈ partsOf parts) : x ∈ o.op.operands := by
  rw [ho]
  simp only [Op.operands, List.mem_toArray]
  exact hx

/-- A slice that is written out: data. -/
theorem astep_buildSlice (ht : TyTab P tab) {T n e : Nat} {ee : TE} {parts : Array (Nat × Operand)} {ds : List D} (ho : o.op = .buildSlice T n parts) (hT : elemOf_ tab T = some (e, ee))
    (hok : (Nat.blt 0 ee.size && Nat.beq ee.zero.length ee.size && Nat.beq (partsOf parts).length n && Nat.ble (n * ee.size) 16777216 && inOrder parts.toList 0) = true)
    (hd : toDall ((partsOf parts).map ρ) = some ds) (hf : fitK ee.size ((partsOf parts).map ρ) ds = true) : AStep P o M ρ M (.sl ee.size ds) :=
  .grows fun S B β a w hm hs => by
    simp only [Bool.and_eq_true, Nat.blt_eq] at hok
    obtain ⟨⟨⟨⟨o1, o2⟩, o3⟩, o4⟩, o5⟩ := hok
    have hsats := map_sat fun x hx => hs x (mem_parts ho hx)
    obtain ⟨c1, c2, c3, c4⟩ := toDall_sat hd hf hsats
    obtain ⟨cs, h1, h2⟩ := run_buildSlice ht hT (Nat.eq_of_beq_eq_true o2) o1 (vs := (partsOf parts).map a.eval) (n := n) c3 (by rw [List.length_map]; exact Nat.eq_of_beq_eq_true o3) (by have := Nat.le_of_ble_eq_true o4; omega) w
    have hb : Below w.heap.size w (w.alloc (.cells cs e)) := (Below.refl _ _).alloc (Nat.le_refl _) _
    have hlen : ds.length = n := by rw [c4, List.length_map]; exact Nat.eq_of_beq_eq_true o3
    refine ⟨_, _, ?_, hb, fun hE => ⟨some ⟨w.heap.size, 0, none⟩, n, n, rfl, hlen.symm, Nat.le_refl _, ?_, c2, fun hn => ⟨w.heap.size, 0, _, rfl, ⟨.inr hm.lo, by simp, fun hl => ?_⟩,
      DenCs.mono (fun _ => immOf.ev hE) (fun _ off => immOf.cell hE off) _ _ c1, fun j u hj => ?_⟩⟩⟩
    · simp only [execOp, ho, Sem.run_bind]
      have e : parts.map (fun x => (x.1, a.eval x.2)) = ((((partsOf parts).map a.eval).zipIdx 0).map fun x => (x.2, x.1)).toArray := by
        unfold partsOf
        rw [← inOrder_zip o5]
        exact Array.toList_inj.1 (Array.toList_map ..)
      rw [e, h1]
      rfl
    · have := Nat.le_of_ble_eq_true o4
      have h3 : n ≤ n * ee.size := Nat.le_mul_of_pos_right n o1
      simp only [maxLen]; omega
    · have := hm.lt hl; omega
    · rw [Nat.zero_add, World.cell?_alloc_new]
      rw [← h2] at hj
      simpa using hj
/-- A slice that is written out: an own row. -/
theorem astep_buildRow (ht : TyTab P tab) {T n e : Nat} {ee : TE} {parts : Array (Nat × Operand)} {ds : List D} (ho : o.op = .buildSlice T n parts) (hT : elemOf_ tab T = some (e, ee))
    (hok : (Nat.blt 0 ee.size && Nat.beq ee.zero.length ee.size && Nat.beq (partsOf parts).length n && Nat.ble (n * ee.size) 16777216 && inOrder parts.toList 0) = true)
    (hd : toDall ((partsOf parts).map ρ) = some ds) (hf : fitK ee.size ((partsOf parts).map ρ) ds = true) : AStep P o M ρ (M ++ [.row 0 e ee.size ds]) (.row M.length 0) := by
  intro S B β a w hm hs K Q hK
  simp only [Bool.and_eq_true, Nat.blt_eq] at hok
  obtain ⟨⟨⟨⟨o1, o2⟩, o3⟩, o4⟩, o5⟩ := hok
  have hsats := map_sat fun x hx => hs x (mem_parts ho hx)
  obtain ⟨c1, c2, c3, c4⟩ := toDall_sat hd hf hsats
  obtain ⟨cs, h1, h2⟩ := run_buildSlice ht hT (Nat.eq_of_beq_eq_true o2) o1 (vs := (partsOf parts).map a.eval) (n := n) c3 (by rw [List.length_map]; exact Nat.eq_of_beq_eq_true o3) (by have := Nat.le_of_ble_eq_true o4; omega) w
  have hb : Below w.heap.size w (w.alloc (.cells cs e)) := (Below.refl _ _).alloc (Nat.le_refl _) _
  have hlen : ds.length = n := by rw [c4, List.length_map]; exact Nat.eq_of_beq_eq_true o3
  have hrun : (execOp a.eval o).run P w = .ok (.value (.slice (some ⟨w.heap.size, 0, none⟩) n n)) (w.alloc (.cells cs e)) := by
    simp only [execOp, ho, Sem.run_bind]
    have e : parts.map (fun x => (x.1, a.eval x.2)) = ((((partsOf parts).map a.eval).zipIdx 0).map fun x => (x.2, x.1)).toArray := by
      unfold partsOf
      rw [← inOrder_zip o5]
      exact Array.toList_inj.1 (Array.toList_map ..)
    rw [e, h1]
    rfl
  have hcl : cs.toList.length = n * ee.size := by rw [h2]; have := c1.len; rw [this, widths_allW c2, hlen]
  have hn : n ≤ maxLen := by
    have := Nat.le_of_ble_eq_true o4
    have h3 : n ≤ n * ee.size := Nat.le_mul_of_pos_right n o1
    simp only [maxLen]; omega
  obtain ⟨e1, e2⟩ := hm.push (ab := .row 0 e ee.size ds) (x := some (w.heap.size, n)) hb (fun g c h => by cases h; exact Nat.le_refl _)
    (fun hE => ⟨c2, .inr ⟨w.heap.size, n, cs, rfl, .of0 (heap_alloc_new w _), by omega, hn, by simpa using hcl, by
      rw [hlen, List.take_of_length_le (by omega), h2]
      exact DenCs.mono (fun _ => immOf.ev hE) (fun _ off => immOf.cell hE off) _ _ c1⟩⟩)
  unfold Oper.wp
  rw [hrun]
  exact hK _ _ _ e1 e2 ⟨.row 0 e ee.size ds, by simp, Nat.le_refl _, fun _ => by simp [rowVal, hlen]⟩

/-- Calls. -/
def Callable (P : Program) (f : FuncId) : Prop := ∀ args w, (callFunc f args).run P w = .ok (.enter f args) w
theorem callable_of {f : FuncId} {fn : Func} {c : Code} (hf : P.funcs[f]? = some fn) (hb : fn.body = some c) (hn : (fn.name == "runtime.NumGoroutine") = false) : Callable P f := by
  intro args w
  have hn' : ¬ fn.name = "runtime.NumGoroutine" := by simpa using hn
  simp [callFunc, hf, hb, hn']
theorem run_call {f : FuncId} (hc : Callable P f) {xs : Array Operand} {ts : Array TypeId} (ho : o.op = .call { callee := .value (.func f), args := xs, argTypes := ts }) (a : Act) (w : World) :
    (execOp a.eval o).run P w = .ok (.enter f (xs.map a.eval)) w := by
  have h1 := hc (xs.map a.eval) w
  simp [execOp, ho, resolve, Deferred.ofValue, Act.eval, invoke, h1]

def Subs : List AV → List AV → Prop
  | [], [] => True
  | x :: xs, y :: ys => Sub x y ∧ Subs xs ys
  | _, _ => False
theorem Subs.sat {β : Env} {w : World} {imm : Nat → Prop} : ∀ {xs ys : List AV} {vs : List Value}, Subs xs ys → AVsats M β w imm xs vs → AVsats M β w imm ys vs
  | [], [], _, _, h => h
  | _ :: _, _ :: _, _, ⟨h1, h2⟩, ⟨v, r, h3, h4, h5⟩ => ⟨v, r, h3, h1 _ _ _ _ _ h4, Subs.sat h2 h5⟩
  | [], _ :: _, _, h, _ => h.elim
  | _ :: _, [], _, h, _ => h.elim
theorem mem_call {c : Call} {x : Operand} (ho : o.op = .call c) (hx : x ∈ c.args.toList) : x ∈ o.op.operands := by
  rw [ho]
  simp only [Op.operands, Call.operands]
  cases c.callee <;> simp_all

theorem fresh_imm {S : Nat → Prop} {B : Nat} {β : Env} {w w' : World} (hm : MemSat S B M β w) (hb : Below w.heap.size w w') {b : Nat} (h : fresh (immOf S B M β w) w w' b) : immOf S B M β w' b := by
  rcases h with h | ⟨h1, h2⟩
  · exact immOf.ev (Ev.of_below hb) h
  · exact ⟨.inr (Nat.le_trans hm.lo h1), h2, fun hl => by have := hm.lt hl; omega⟩

theorem astep_call {f : FuncId} {xs : Array Operand} {ts : Array TypeId} {cargs : List AV} {res : AV} (ho : o.op = .call { callee := .value (.func f), args := xs, argTypes := ts }) (hcall : Callable P f) (hc : PCalls P f cargs res)
    (hargs : Subs (xs.toList.map ρ) cargs) (hfa : AV.frees cargs = true) (hfr : res.free = true) : AStep P o M ρ M res := by
  intro S B β a w hm hs K Q hK
  unfold Oper.wp
  rw [run_call hcall ho]
  have h1 := map_sat (l := xs.toList) fun x hx => hs x (mem_call ho hx)
  have h2 := hargs.sat h1
  have h3 : AVsats [] noE w (immOf S B M β w) cargs (xs.toList.map a.eval) := AVsats.free_ (fun _ h => h) (fun _ _ _ => rfl) _ _ hfa h2
  refine (hc (immOf S B M β w) w (xs.map a.eval) (fun b hb => hb.2.1) hm.gl (by simpa using h3)).mono ?_
  rintro e w' ⟨v, rfl, hb, hv⟩
  exact hK v β w' (Ev.of_below hb) (hm.quiet hb) (AVsat.free_ (fun b hb' => fresh_imm hm hb hb') (fun _ _ _ => rfl) _ _ hfr hv)
end

end Go.Proofs.YtiolnmfaeenlmaaGreatDoor

/- The engine, part 10: append, cuts, strings' own operations, tuples, conversions. -/
namespace Go.Proofs.YtiolnmfaeenlmaaGreatDoor
open Go Go.RowKit

section
variable {P : Program} {o : Oper} {M M' : List AB} {ρ : Operand → AV} {out : AV} {tab : List (Nat × TE)}

/-- A slice that is data, as append reads it. -/
theorem src_of {w : World} {imm : Nat → Prop} {k : Nat} {xs : List D} {v : Value} (h : DenC w imm (.sl k xs) [v]) :
    ∃ A n c rows, v = .slice A n c ∧ n = xs.length ∧ AllW k xs ∧ DenCs w imm xs rows ∧ rows.length = n * k ∧ (0 < n → ∃ ad, A = some ad) ∧ ∀ ad, A = some ad → ∀ (j : Nat) (u : Value), rows[j]? = some u → w.cell? (ad.add j) = some u := by
  obtain ⟨A, n, c, h1, h2, _, _, h5, h6⟩ := h
  simp at h1
  rcases Nat.eq_zero_or_pos n with h0 | h0
  · have : xs = [] := List.eq_nil_of_length_eq_zero (by omega)
    subst this
    exact ⟨A, n, c, [], h1, h2, h5, rfl, by simp [h0], fun h => by omega, fun ad _ j u hj => by simp at hj⟩
  · obtain ⟨g, off, rows, h7, _, h9, h10⟩ := h6 h0
    refine ⟨A, n, c, rows, h1, h2, h5, h9, by rw [h9.len, widths_allW h5, h2], fun _ => ⟨_, h7⟩, fun ad had j u hj => ?_⟩
    rw [h7] at had
    cases had
    rw [addr_add]
    exact h10 j u hj

/-- A row that is owned: none of its cells is frozen. -/
def ownsC (w : World) (e : TypeId) (k q : Nat) (v : Value) (n : Nat) (xs : List Value) : Prop :=
  xs.length = n * k ∧ ((v = .slice none 0 0 ∧ n = 0) ∨ ∃ g cap cur, v = .slice (some ⟨g, 0, none⟩) n cap ∧ rowAt w g cur e q (n * k) ∧ n ≤ cap ∧ cap ≤ maxLen ∧ cur.size = cap * k ∧ cur.toList.take (n * k) = xs)
theorem ownsC.cells {w : World} {e k q n : Nat} {v : Value} {xs : List Value} (h : ownsC w e k q v n xs) {g : Nat} (hg : v.ownBlock = some g) : ∀ j u, xs[j]? = some u → w.cell? ((⟨g, 0, none⟩ : Addr).add j) = some u := by
  intro j u hu
  rcases h.2 with ⟨rfl, _⟩ | ⟨g', cap, cur, rfl, hgg, _, _, _, htake⟩
  · simp [Value.ownBlock] at hg
  · simp [Value.ownBlock] at hg
    subst hg
    rw [addr_add, Nat.zero_add, hgg.cell]
    rw [← htake, List.getElem?_take] at hu
    split at hu
    · simpa using hu
    · cases hu
theorem run_append_nil_src {w : World} (t ty e : TypeId) (i : TypeInfo) (size : Nat) (ht : P.underlying t = some (.slice e)) (hi : P.info? e = some i)
    (v : Value) (n : Nat) (xs : List Value) {q : Nat} (hown : ownsC w e size q v n xs) (c : Nat) : (Builtin.append_ #[t, t] ty #[v, .slice none 0 c]).run P w = .ok v w := by
  rcases hown.2 with ⟨rfl, rfl⟩ | ⟨g, cap, cur, rfl, _, hnc, _⟩
  · simp [Builtin.append_, run_underlying ht, sizeOf, typeInfo, hi, Builtin.lenOf, Builtin.firstCells]
  · simp [Builtin.append_, run_underlying ht, sizeOf, typeInfo, hi, Builtin.lenOf, Builtin.firstCells, hnc, storeCells]
/-- Cells stored into a row none of whose cells is frozen. -/
theorem run_storeCells_c (P : Program) (g o : Nat) (t : TypeId) (fz : Nat × Nat) : ∀ (vs : List Value) (i : Nat) (cur : Array Value) (w : World), w.heap[g]? = some (.cells cur t fz) → (∀ j, o + i ≤ j → j < cur.size → (decide (fz.1 ≤ j) && decide (j < fz.2)) = false) → o + i + vs.length ≤ cur.size → (∀ v ∈ vs, v.oneCell' = true) →
    (storeCells ⟨g, o, none⟩ vs i).run P w = .ok () (w.setRow g (cur.toList.take (o + i) ++ vs ++ cur.toList.drop (o + i + vs.length)).toArray)
  | [], i, cur, w, hg, _, _, _ => by
    simp only [storeCells, List.append_nil, List.length_nil, Nat.add_zero, List.take_append_drop, Array.toArray_toList]
    rw [setRow_self w g cur t fz hg]
    rfl
  | v :: rest, i, cur, w, hg, hfz, hl, h1 => by
    have hi : o + i < cur.size := by simp at hl; omega
    have hcell : w.cell? ⟨g, o + i, none⟩ = some cur[o + i] := by simp [World.cell?, hg, hi]
    have hfro : w.frozen? ⟨g, o + i, none⟩ = false := by
      have := hfz _ (Nat.le_refl _) hi
      simpa [World.frozen?, hg] using this
    have hst : (store ((⟨g, o, none⟩ : Addr).add i) v).run P w = .ok () (w.setRow g (cur.setIfInBounds (o + i) v)) := by
      rw [addr_add, run_store P w _ v _ (h1 v (by simp)), hcell]
      simp [hfro, setCell_eq_setRow w g (o + i) cur t fz v hg]
    have ih := run_storeCells_c P g o t fz rest (i + 1) (cur.setIfInBounds (o + i) v) (w.setRow g (cur.setIfInBounds (o + i) v)) (setRow_heap w g cur _ t _ hg) (fun j h1 h2 => hfz j (by omega) (by simpa using h2)) (by simp at hl ⊢; omega) (fun x hx => h1 x (by simp [hx]))
    simp only [storeCells, Sem.run_bind, hst, Result.andThen_ok, ih, setRow_setRow]
    congr 3
    have e := list_seg_step cur.toList (o + i) v rest (by simp at hl ⊢; omega)
    simpa [Array.toList_setIfInBounds, Nat.add_assoc] using e
/-- append onto an own row. -/
theorem run_append_c {w : World} (t ty e : TypeId) (i : TypeInfo) (z : Value) (size bytes : Nat) (ht : P.underlying t = some (.slice e)) (hi : P.info? e = some i) (hz : i.zero = some z)
    (hsize : i.size = size) (hby : i.bytes = bytes) (hzs : z.cells.size = size) (hsz : 0 < size)
    (v : Value) (n : Nat) (xs : List Value) {q : Nat} (hown : ownsC w e size q v n xs)
    (a : Addr) (m c : Nat) (news : List Value) (hl : news.length = m * size) (hnews : ∀ j u, news[j]? = some u → w.cell? (a.add j) = some u) (h1 : ∀ u ∈ news, u.oneCell' = true)
    (h63 : n + m ≤ maxLen) (hbytes : (n + m) * bytes ≤ 140737488355328) :
    ∃ v' w', (Builtin.append_ #[t, t] ty #[v, .slice (some a) m c]).run P w = .ok v' w' ∧ ownsC w' e size q v' (n + m) (xs ++ news) ∧ w.grownBy w' v.ownBlock ∧ (v'.ownBlock = v.ownBlock ∨ v'.ownBlock = some w.heap.size) := by
  subst hsize
  subst hby
  have hsmall : n + m ≤ 9223372036854775807 := by simp only [maxLen] at h63; omega
  have hlen : (xs ++ news).length = (n + m) * i.size := by rw [List.length_append, hown.1, hl, Nat.add_mul]
  have grown : ∀ (old : Nat), old < n + m → ∀ (row : Option Nat),
      ownsC (w.drew.alloc (.cells (xs.toArray ++ news.toArray ++ Builtin.zeroCells z.cells (grownCap w (n + m) old e - (n + m))) e)) e i.size q
        (.slice (some ⟨w.heap.size, 0, none⟩) (n + m) (grownCap w (n + m) old e)) (n + m) (xs ++ news) ∧
      w.grownBy (w.drew.alloc (.cells (xs.toArray ++ news.toArray ++ Builtin.zeroCells z.cells (grownCap w (n + m) old e - (n + m))) e)) row := by
    intro old ho row
    have hge := grownCap_ge w (n + m) old e
    have hcm : grownCap w (n + m) old e ≤ maxLen := grownCap_le_maxLen w (n + m) old e h63
    refine ⟨⟨hlen, .inr ⟨w.heap.size, _, _, rfl, .of0 (heap_alloc_new w.drew _), hge, hcm, ?_, ?_⟩⟩, ⟨rfl, rfl, rfl, by simp, fun k hk _ => heap_alloc_old w.drew _ hk⟩⟩
    · simp only [Array.size_append, List.size_toArray, size_zeroCells, hzs, hown.1, hl, ← Nat.add_mul]
      congr 1
      omega
    · simp only [Array.toList_append, List.append_assoc]
      rw [← List.append_assoc, ← hlen]
      exact List.take_left
  rcases hown.2 with ⟨rfl, rfl⟩ | ⟨g, cap, cur, rfl, hg, hnc, hcm, hcs, htake⟩
  · have hx : xs = [] := List.eq_nil_of_length_eq_zero (by simpa using hown.1)
    subst hx
    by_cases hm : m = 0
    · subst hm
      have hn : news = [] := List.eq_nil_of_length_eq_zero (by simpa using hl)
      subst hn
      refine ⟨.slice none 0 0, w, ?_, ⟨by simp, .inl ⟨rfl, rfl⟩⟩, ⟨rfl, rfl, rfl, Nat.le_refl _, fun _ _ _ => rfl⟩, Or.inl rfl⟩
      simp [Builtin.append_, run_underlying ht, sizeOf, typeInfo, hi, Builtin.lenOf, Builtin.firstCells, loadCells, loadCellsFrom]
    · have hr := run_append_nil (P := P) w t ty e i z ht hi hz a m c news hl hnews (by omega) (by omega) (by have hb := hbytes; simp only [Nat.zero_add] at hb; omega)
      have hgr := grown 0 (by omega) (Value.ownBlock (.slice none 0 0))
      simp only [Nat.zero_add, List.nil_append, Array.empty_append] at hgr ⊢
      exact ⟨_, _, hr, hgr.1, hgr.2, Or.inr rfl⟩
  · by_cases hroom : n + m ≤ cap
    · have hfit : n * i.size + news.length ≤ cur.size := by rw [hl, hcs, ← Nat.add_mul]; exact Nat.mul_le_mul_right _ hroom
      obtain ⟨fz, hg1, hg2⟩ := hg
      have hf := run_firstCells_some (P := P) w i.size m a m c news hl hnews
      have hst := run_storeCells_c P g (n * i.size) e fz news 0 cur w hg1 (fun j h1 h2 => hg2.from_ j h1 h2) (by simpa using hfit) h1
      simp only [Nat.add_zero] at hst
      refine ⟨.slice (some ⟨g, 0, none⟩) (n + m) cap, w.setRow g (cur.toList.take (n * i.size) ++ news ++ cur.toList.drop (n * i.size + news.length)).toArray, ?_, ⟨hlen, .inr ⟨g, cap, _, rfl, ⟨fz, setRow_heap w g cur _ e _ hg1, ?_⟩, hroom, hcm, ?_, ?_⟩⟩, ⟨rfl, rfl, rfl, by simp, fun k _ hk => setRow_other w g k _ (fun e => hk (by simp [Value.ownBlock, e]))⟩, Or.inl rfl⟩
      · simp [Builtin.append_, run_underlying ht, sizeOf, typeInfo, hi, Builtin.lenOf, hroom, hf, Addr.add_lit, hst]
      · refine hg2.mono rfl (Nat.mul_le_mul_right _ (Nat.le_add_right _ _)) ?_
        simp only [List.size_toArray, List.length_append, List.length_take, List.length_drop, Array.length_toList]
        omega
      · simp only [List.size_toArray, List.length_append, List.length_take, List.length_drop, Array.length_toList]
        omega
      · rw [htake, ← hlen]
        exact List.take_left
    · have holds : ∀ j u, xs[j]? = some u → w.cell? ((⟨g, 0, none⟩ : Addr).add j) = some u := hown.cells (g := g) rfl
      have hr := run_append_grow (P := P) w t ty e i z ht hi hz ⟨g, 0, none⟩ n cap xs hown.1 holds a m c news hl hnews (by omega) (by omega) (growslice_fits (by omega) hbytes)
      have hgr := grown cap (by omega) (Value.ownBlock (.slice (some ⟨g, 0, none⟩) n cap))
      exact ⟨_, _, hr, hgr.1, hgr.2, Or.inr rfl⟩

/-- append onto an own row, whatever the source is. -/
theorem run_append_src (ht : TyTab P tab) {T e : Nat} {ee : TE} (hT : elemOf_ tab T = some (e, ee)) (hok : (Nat.blt 0 ee.size && Nat.beq ee.zero.length ee.size && Nat.blt 0 ee.bytes) = true) (ty : TypeId) {w : World}
    {v : Value} {n : Nat} {xs : List Value} {q : Nat} (hown : ownsC w e ee.size q v n xs) {A : Option Addr} {m c : Nat} {rows : List Value} (hl : rows.length = m * ee.size) (hA : 0 < m → ∃ ad, A = some ad)
    (hr : ∀ ad, A = some ad → ∀ (j : Nat) (u : Value), rows[j]? = some u → w.cell? (ad.add j) = some u) (h1 : ∀ u ∈ rows, u.oneCell' = true) (hb : (n + m) * ee.bytes ≤ 140737488355328) :
    ∃ v' w', (Builtin.append_ #[T, T] ty #[v, .slice A m c]).run P w = .ok v' w' ∧ ownsC w' e ee.size q v' (n + m) (xs ++ rows) ∧ w.grownBy w' v.ownBlock ∧ (v'.ownBlock = v.ownBlock ∨ v'.ownBlock = some w.heap.size) := by
  simp only [Bool.and_eq_true, Nat.blt_eq] at hok
  obtain ⟨⟨o1, o2⟩, o3⟩ := hok
  obtain ⟨hu, he⟩ := elemOf_spec ht hT
  obtain ⟨d, i, z, _, _, hi, hs, hby, hz, hzc⟩ := teOf_spec he
  have hle : n + m ≤ maxLen := by
    have : n + m ≤ (n + m) * ee.bytes := Nat.le_mul_of_pos_right _ o3
    simp only [maxLen]; omega
  have hzs : z.cells.size = ee.size := by rw [← Array.length_toList, hzc]; exact Nat.eq_of_beq_eq_true o2
  rcases A with _ | ad
  · have hm : m = 0 := by
      rcases Nat.eq_zero_or_pos m with h0 | h0
      · exact h0
      · obtain ⟨ad, h⟩ := hA h0; cases h
    subst hm
    have hn : rows = [] := List.eq_nil_of_length_eq_zero (by simpa using hl)
    subst hn
    exact ⟨v, w, run_append_nil_src T ty e i ee.size hu hi v n xs hown c, by simpa using hown, World.grownBy.refl w _, .inl rfl⟩
  · obtain ⟨v', w', hrun, h2, h3, h5⟩ := run_append_c (P := P) T ty e i z ee.size ee.bytes hu hi hz hs hby hzs o1 v n xs hown ad m c rows hl (hr ad rfl) h1 hle hb
    exact ⟨v', w', hrun, h2, h3, h5⟩

/-- An entry of own memory out of an owned row, and back. -/
def envOf : Value → Option (Nat × Nat)
  | .slice (some a) _ c => some (a.block, c)
  | _ => none
theorem ent_of_owns {M : List AB} {β : Env} {w : World} {imm : Nat → Prop} {e k q n ver : Nat} {v : Value} {xs : List Value} {es : List D} (hk : 0 < k) (h : ownsC w e k q v n xs) (hq : sealed ver = sealed q) (hn : n = es.length) (hw : AllW k es) (hd : DenCs w imm es xs) :
    EntSat M β w imm (envOf v) (.row ver e k es) ∧ v = rowVal (envOf v) es.length ∧ (envOf v).map (·.1) = v.ownBlock := by
  obtain ⟨h1, h2⟩ := h
  rcases h2 with ⟨rfl, rfl⟩ | ⟨g, cap, cur, rfl, hg, hnc, hcm, hcs, htake⟩
  · have h0 : es = [] := by
      have := hd.len
      rw [widths_allW hw] at this
      refine List.eq_nil_of_length_eq_zero ?_
      rcases Nat.eq_zero_or_pos es.length with h | h
      · exact h
      · have := Nat.mul_pos h hk
        simp at *
        omega
    subst h0
    exact ⟨⟨hw, .inl ⟨rfl, rfl⟩⟩, rfl, rfl⟩
  · refine ⟨⟨hw, .inr ⟨g, cap, cur, rfl, hg.mono hq (by rw [hn]; exact Nat.le_refl _), by omega, hcm, hcs, ?_⟩⟩, by simp [envOf, rowVal, hn], rfl⟩
    rw [← hn, ← h1]
    rw [h1, htake]
    exact hd
theorem owns_of_ent {M : List AB} {β : Env} {w : World} {imm : Nat → Prop} {b : Option (Nat × Nat)} {ver e k : Nat} {es : List D} (h : EntSat M β w imm b (.row ver e k es)) :
    ∃ xs, ownsC w e k ver (rowVal b es.length) es.length xs ∧ DenCs w imm es xs ∧ (rowVal b es.length).ownBlock = b.map (·.1) := by
  obtain ⟨hw, ⟨rfl, rfl⟩ | ⟨g, cap, cs, rfl, h1, h2, h3, h4, h5⟩⟩ := h
  · exact ⟨[], ⟨by simp, .inl ⟨rfl, rfl⟩⟩, rfl, rfl⟩
  · have hl := h5.len
    rw [widths_allW hw] at hl
    exact ⟨_, ⟨hl, .inr ⟨g, cap, cs, rfl, h1, h2, h3, h4, rfl⟩⟩, h5, rfl⟩

theorem astep_append (ht : TyTab P tab) {T e : Nat} {ee : TE} {x y : Operand} {i ver : Nat} {es xs : List D} (ho : o.op = .call { callee := .builtin .append, args := #[x, y], argTypes := #[T, T] }) (hT : elemOf_ tab T = some (e, ee))
    (hok : (Nat.blt 0 ee.size && Nat.beq ee.zero.length ee.size && Nat.blt 0 ee.bytes) = true) (hx : ρ x = .row i ver) (hM : M[i]? = some (.row ver e ee.size es)) (hy : ρ y = .sl ee.size xs) (hb : (es.length + xs.length) * ee.bytes ≤ 140737488355328) :
    AStep P o M ρ (M.set i (.row (ver + 2) e ee.size (es ++ xs))) (.row i (ver + 2)) := by
  intro S B β a w hm hs K Q hK
  have hlt : i < M.length := (List.getElem?_eq_some_iff.1 hM).1
  have h1 := hs x (by simp [ho, Op.operands, Call.operands])
  have h2 := hs y (by simp [ho, Op.operands, Call.operands])
  rw [hx] at h1; rw [hy] at h2
  obtain ⟨h3, h4⟩ := row_val hm hM h1
  obtain ⟨A, m, c, rows, s1, s2, s3, s4, s5, s6, s7⟩ := src_of h2
  obtain ⟨xs0, w1, w2, w3⟩ := owns_of_ent (hm.ent i _ hM)
  rw [← h3] at w1 w3
  have hsz : 0 < ee.size := by simp only [Bool.and_eq_true, Nat.blt_eq] at hok; exact hok.1.1
  obtain ⟨v', w', r1, r2, r3, r4⟩ := run_append_src (P := P) (c := c) ht hT hok o.type w1 s5 s6 s7 (s4.one) (by rw [s2]; exact hb)
  have hrun : (execOp a.eval o).run P w = .ok (.value v') w' := by
    simp [execOp, ho, resolve, invoke, builtin, s1, r1]
  unfold Oper.wp
  rw [hrun]
  have hWes := (hm.ent i _ hM).1
  have hWall : AllW ee.size (es ++ xs) := fun d hd => by
    rcases List.mem_append.1 hd with h | h
    · exact hWes d h
    · exact s3 d h
  have hfit : ∀ (M1 : List AB) (β1 : Env) (imm1 : Nat → Prop), DenCs w' imm1 (es ++ xs) (xs0 ++ rows) → EntSat M1 β1 w' imm1 (envOf v') (.row (ver + 2) e ee.size (es ++ xs)) ∧ v' = rowVal (envOf v') (es ++ xs).length ∧ (envOf v').map (·.1) = v'.ownBlock :=
    fun M1 β1 imm1 hd => ent_of_owns hsz r2 rfl (by rw [List.length_append, s2]) hWall hd
  have hblk : ∀ g c, envOf v' = some (g, c) → v'.ownBlock = some g := by
    intro g c h
    rcases r2.2 with ⟨rfl, _⟩ | ⟨g', cap, cur, rfl, _⟩
    · cases h
    · simp [envOf] at h
      rw [← h.1]; rfl
  have := hm.set_ (w' := w') (ab' := .row (ver + 2) e ee.size (es ++ xs)) (x := envOf v') hM rfl r3.os r3.tape r3.output r3.size
    (fun b hb hne => r3.block b hb (fun e' => by
      rw [w3] at e'
      cases hβ : β i with
      | none => rw [hβ] at e'; cases e'
      | some gc => rw [hβ] at e'; cases e'; exact hne gc.2 hβ))
    (fun g c h => by
      have h5 := hblk g c h
      rcases r4 with r4 | r4
      · rw [r4, w3] at h5
        cases hβ : β i with
        | none => rw [hβ] at h5; cases h5
        | some gc => rw [hβ] at h5; cases h5; exact .inl ⟨gc.2, rfl⟩
      · rw [r4] at h5; cases h5; exact .inr (Nat.le_refl _))
    ⟨by omega, rfl, fun h => by omega⟩
    (fun hE => (hfit _ _ _ ((DenCs.mono (fun _ => immOf.ev hE) (fun _ off => immOf.cell hE off) _ _ w2).append (DenCs.mono (fun _ => immOf.ev hE) (fun _ off => immOf.cell hE off) _ _ s4))).1)
  refine hK v' _ w' this.1 this.2 ⟨.row (ver + 2) e ee.size (es ++ xs), by rw [List.getElem?_set_self hlt], Nat.le_refl _, fun _ => ?_⟩
  rw [setE_same]
  exact (hfit M β (immOf S B (M.set i (.row (ver + 2) e ee.size (es ++ xs))) (setE β i (envOf v')) w')
    ((DenCs.mono (fun _ => immOf.ev this.1) (fun _ off => immOf.cell this.1 off) _ _ w2).append (DenCs.mono (fun _ => immOf.ev this.1) (fun _ off => immOf.cell this.1 off) _ _ s4))).2.1

/-- A tuple's part. -/
theorem astep_extract {x : Operand} {n : Nat} {l : List AV} (ho : o.op = .extract x n) (hx : ρ x = .tup l) (hl : l[n]? = some out) : AStep P o M ρ M out :=
  .value fun S B β a w _ hs => by
    have h1 := hs x (by simp [ho, Op.operands])
    rw [hx] at h1
    obtain ⟨cs, h2, h3⟩ := h1
    obtain ⟨v, h4, h5⟩ := h3.get hl
    have h6 : cs[n]? = some v := by simpa using h4
    exact ⟨v, by simp [execOp, ho, h2, Instr.extract, h6], h5⟩

/-- A string's byte. -/
theorem astep_index_s (ht : TyTab P tab) {T : Nat} {x y : Operand} {s : ByteArray} {q : IntKind} {n : Int} {b : UInt8} (ho : o.op = .index T x y) (hT : kindAt tab T = some .str) (hx : ρ x = .val (.string s)) (hy : ρ y = .val (.int q n))
    (h0 : 0 ≤ n) (hb : s.data.toList[n.toNat]? = some b) : AStep P o M ρ M (.val (.int .u8 b.toNat)) :=
  .value fun S B β a w _ hs => by
    have h1 := hs x (by simp [ho, Op.operands])
    have h2 := hs y (by simp [ho, Op.operands])
    rw [hx] at h1; rw [hy] at h2
    have h1 : a.eval x = .string s := h1
    have h2 : a.eval y = .int q n := h2
    have h3 : s[n.toNat]? = some b := by
      obtain ⟨hlt, he⟩ := List.getElem?_eq_some_iff.1 hb
      have hlt' : n.toNat < s.size := by simpa using hlt
      rw [getElem?_pos s n.toNat hlt']
      have he' : s.data[n.toNat] = b := by simpa using he
      exact congrArg some he'
    exact ⟨_, by simp [execOp, ho, h1, h2, Instr.index, asIntOf, run_underlying (kindAt_str ht hT), h0, h3], rfl⟩
/-- A conversion between integers. -/
theorem astep_conv_int (ht : TyTab P tab) {T U : Nat} {x : Operand} {k q : IntKind} {n : Int} {tk : TK} (ho : o.op = .convert T U x) (hT : kindAt tab T = some tk) (hU : kindAt tab U = some (.int k)) (hx : ρ x = .val (.int q n)) : AStep P o M ρ M (.val (.int k (k.wrap n))) :=
  .value fun S B β a w _ hs => by
    have h1 := hs x (by simp [ho, Op.operands])
    rw [hx] at h1
    have h1 : a.eval x = .int q n := h1
    obtain ⟨d, hd, _⟩ := kindAt_spec ht hT
    have hk : P.intKind U = k := by simp [Program.intKind, kindAt_int ht hU]
    have := run_convert_int (P := P) w T U q n (by rw [hd]; rfl) (by rw [hk]; exact kindAt_int ht hU)
    rw [hk] at this
    exact ⟨_, by simp [execOp, ho, h1, this], rfl⟩
end

end Go.Proofs.YtiolnmfaeenlmaaGreatDoor
