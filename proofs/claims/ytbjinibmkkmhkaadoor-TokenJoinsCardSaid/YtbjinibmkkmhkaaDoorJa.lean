import Derived.Test.YtbjinibmkkmhkaaDoorZ
import Derived.Lib.MakeNoZero
import Derived.Laws.IdiomCopy
import Derived.Test.YtbjinibmkkmhkaaDoorCb
/- The engine, part 24: an own row whose last element lies open: its cells may hold own rows. -/
namespace Go.Proofs.YtbjinibmkkmhkaaDoor
open Go Go.RowKit

section
variable {cx : Cx}
end
section
variable {P : Program} {o : Oper} {M M' : List AB} {ρ : Operand → AV} {out : AV} {tab : List (Nat × TE)}
end
section
variable {P : Program} {ops : Array Oper} {N : Nat} {K : AS → Prop} {o : Oper} {r : List Oper} {fo fo' : Option (List Nat)} {M M' : List AB} {F : List (Nat × AV)} {dt : Tmp} {tab : List (Nat × TE)} {out : AV}
end
end Go.Proofs.YtbjinibmkkmhkaaDoor

/- The engine: places in arrays; results that are cells; blocks without zeros; closures let go. -/
namespace Go.Proofs.YtbjinibmkkmhkaaDoor
open Go Go.RowKit

def arrOf (tab : List (Nat × TE)) (T : Nat) : Option (Nat × Nat × TE) :=
  match tget tab T with
  | some te => match te.kind with
    | .array n e => match tget tab e with
      | some ee => some (n, e, ee)
      | none => none
    | _ => none
  | none => none
theorem arrOf_spec {P : Program} {tab : List (Nat × TE)} (ht : TyTab P tab) {T n e : Nat} {ee : TE} (h : arrOf tab T = some (n, e, ee)) : P.underlying T = some (.array n e) ∧ teOf P e = some ee := by
  unfold arrOf at h
  split at h
  · rename_i te hte
    split at h
    · rename_i n' e' hk
      split at h
      · rename_i ee' hee
        cases h
        obtain ⟨d, i', z, hd, hkd, _⟩ := teOf_spec (ht.get hte)
        cases d <;> simp [kindOf, hk] at hkd
        obtain ⟨rfl, rfl⟩ := hkd
        exact ⟨hd, ht.get hee⟩
      · cases h
    · cases h
  · cases h
section
variable {P : Program} {o : Oper} {M M' : List AB} {ρ : Operand → AV} {out : AV} {tab : List (Nat × TE)}
theorem astep_idxa (ht : TyTab P tab) {T n e : Nat} {ee : TE} {x y : Operand} {q : IntKind} {c : Int} (ho : o.op = .indexAddr T x y) (hT : arrOf tab T = some (n, e, ee)) (hy : ρ y = .val (.int q c)) (hc : 0 ≤ c ∧ c < n)
    (hx : shiftP (c.toNat * ee.size) (ρ x) = some out) (hne : ∀ i ver j o, ρ x ≠ .eptr i ver j o) : AStep P o M ρ M out :=
  .value fun S B β a w _ hs => by
    have h1 := hs x (by simp [ho, Op.operands])
    have h2 := hs y (by simp [ho, Op.operands])
    rw [hy] at h2
    have h2 : a.eval y = .int q c := h2
    obtain ⟨hu, he⟩ := arrOf_spec ht hT
    obtain ⟨g, o', h3 | ⟨i, ver, j, o', h3⟩⟩ := shiftP_sat hx h1
    · refine ⟨_, ?_, h3.2⟩
      simp [execOp, ho, h2, h3.1, Instr.indexAt, asIntOf, run_underlying hu, Instr.sureAddr, hc, run_sizeOf he, addr_add]
    · exact absurd h3 (hne _ _ _ _)
/-- A block of whatever bytes, none of which is looked at. -/
def nzV (n : Nat) : Nat → Option (Nat × Nat) → Nat → Value → Prop := fun _ b _ v => ∃ g c, b = some (g, c) ∧ v = .slice (some ⟨g, 0, none⟩) n c
end
section
variable {P : Program} {ops : Array Oper} {N : Nat} {K : AS → Prop} {o : Oper} {r : List Oper} {fo fo' : Option (List Nat)} {M M' : List AB} {F : List (Nat × AV)} {dt : Tmp} {tab : List (Nat × TE)} {out : AV}
theorem r_idxa (ht : TyTab P tab) {T n e : Nat} {ee : TE} {x y : Operand} {q : IntKind} {c : Int} (hg : o.guard = none) (ho : o.op = .indexAddr T x y) (hT : arrOf tab T = some (n, e, ee)) (hy : aval (look F) y = .val (.int q c)) (hc : (Nat.ble 0 0 && decide (0 ≤ c) && decide (c < n)) = true)
    (hx : shiftP (c.toNat * ee.size) (aval (look F) x) = some out) (hdd : o.dst = some dt) (hd : dstB o.dst N = true) (hp : popF fo 0 = some fo') (k : RunX P ops N K r fo' M ((dt, out) :: F)) (hne : ∀ i ver j o, aval (look F) x ≠ .eptr i ver j o := by intro _ _ _ _ h; cases h) : RunX P ops N K (o :: r) fo M F :=
  RunX.mk (fun _ k => Run.pure_ hd (fun _ => StepG.plain hg (astep_idxa ht ho hT hy (by simpa using hc) hx hne)) (by rw [put_eq hdd]; exact k)) hp k
end
end Go.Proofs.YtbjinibmkkmhkaaDoor

/- The engine: a row with open elements grows, and is cut. -/
namespace Go.Proofs.YtbjinibmkkmhkaaDoor
open Go Go.RowKit

section
variable {P : Program} {o : Oper} {M M' : List AB} {ρ : Operand → AV} {out : AV} {tab : List (Nat × TE)}
end
section
variable {P : Program} {ops : Array Oper} {N : Nat} {K : AS → Prop} {o : Oper} {r : List Oper} {fo fo' : Option (List Nat)} {M M' : List AB} {F : List (Nat × AV)} {dt : Tmp} {tab : List (Nat × TE)} {out : AV}
end
section
variable {P : Program} {ops : Array Oper} {N : Nat} {K : AS → Prop} {o : Oper} {r : List Oper} {fo fo' : Option (List Nat)} {M M' : List AB} {F : List (Nat × AV)} {dt : Tmp} {tab : List (Nat × TE)} {out : AV} {jg : Nat} {want c0 : Bool} {g : Tmp}
end
end Go.Proofs.YtbjinibmkkmhkaaDoor

/- The engine: a region whose orders differ; two stores, whichever comes last. -/
namespace Go.Proofs.YtbjinibmkkmhkaaDoor
open Go Go.RowKit

/-- Whichever is taken next. -/
def AnyR (P : Program) (ops : Array Oper) (N : Nat) (K : AS → Prop) : Nat → Array Bool → AS → Prop
  | 0, listed, s => Region.ready .any ops listed = [] ∧ K s
  | f + 1, listed, s => (Region.ready .any ops listed = [] → K s) ∧ ∀ i ∈ Region.ready .any ops listed, ∃ o M' out, ops[i]? = some o ∧ dstB o.dst N = true ∧ StepG P ops o s.M (look s.F) M' out ∧ AnyR P ops N K f (listed.setIfInBounds i true) ⟨M', putF s.F o.dst out⟩
end Go.Proofs.YtbjinibmkkmhkaaDoor

/- The engine: a field of an own row's element (from the texts of law15). -/
namespace Go.Proofs.YtbjinibmkkmhkaaDoor
open Go Go.RowKit

section
variable {P : Program} {o : Oper} {M M' : List AB} {ρ : Operand → AV} {out : AV} {tab : List (Nat × TE)}
end
section
variable {P : Program} {ops : Array Oper} {N : Nat} {K : AS → Prop} {o : Oper} {r : List Oper} {fo fo' : Option (List Nat)} {M M' : List AB} {F : List (Nat × AV)} {dt : Tmp} {tab : List (Nat × TE)} {out : AV}
end
end Go.Proofs.YtbjinibmkkmhkaaDoor

/- The engine: a call that is handed all own memory as it is. -/
namespace Go.Proofs.YtbjinibmkkmhkaaDoor
open Go Go.RowKit

section
variable {P : Program} {o : Oper} {M M' : List AB} {ρ : Operand → AV}
variable {ops : Array Oper} {N : Nat} {K : AS → Prop} {r : List Oper} {fo fo' : Option (List Nat)} {F : List (Nat × AV)} {dt : Tmp} {out : AV}
end
end Go.Proofs.YtbjinibmkkmhkaaDoor

/- The engine: a cut of a row with open elements, taken as a word first and as the row later. -/
namespace Go.Proofs.YtbjinibmkkmhkaaDoor
open Go Go.RowKit

def cutV (m : Nat) : Nat → Option (Nat × Nat) → Nat → Value → Prop := fun _ b _ v => ∃ g c, b = some (g, c) ∧ v = .slice (some ⟨g, 0, none⟩) m c
section
variable {P : Program} {o : Oper} {M M' : List AB} {ρ : Operand → AV} {out : AV} {tab : List (Nat × TE)}
end
end Go.Proofs.YtbjinibmkkmhkaaDoor

/- The engine: operations that turn the first entry alone, and those that read all but the first. -/
namespace Go.Proofs.YtbjinibmkkmhkaaDoor
open Go Go.RowKit

section
variable {P : Program} {ops : Array Oper} {N : Nat} {K : AS → Prop} {o : Oper} {r : List Oper} {fo fo' : Option (List Nat)} {M M' : List AB} {F : List (Nat × AV)} {dt : Tmp} {out : AV}
end
end Go.Proofs.YtbjinibmkkmhkaaDoor

/- The engine: a row of blocks that lie open, each with an own row within it. -/
namespace Go.Proofs.YtbjinibmkkmhkaaDoor
open Go Go.RowKit

theorem fits_tr {cx : Cx} {s s' s'' : AS} (h : Fits cx s s') (k : Fits cx s' s'') : Fits cx s s'' := fun a w hs => k a w (h a w hs)
/-- Plain data cells. -/
def AV.plain : AV → Bool
  | .val _ => true
  | .sl _ _ => true
  | _ => false
/-- A block: what lies ahead of its own row, the row, what lies behind it. -/
structure Bl where
  a : List AV
  kids : List D
  b : List AV
def Bl.ok (na nb : Nat) (f : Bl) : Prop := f.a.length = na ∧ f.b.length = nb ∧ f.a.all AV.plain = true ∧ f.b.all AV.plain = true
def blC (o j v : Nat) (f : Bl) : List AV := f.a ++ .row (o + j) v :: f.b
def blCs (o : Nat) (v : Nat → Nat) : Nat → List Bl → List AV
  | _, [] => []
  | j, f :: r => blC o j (v j) f ++ blCs o v (j + 1) r
def blRs (kt kw : Nat) (v : Nat → Nat) : Nat → List Bl → List AB
  | _, [] => []
  | j, f :: r => .row (v j) kt kw f.kids :: blRs kt kw v (j + 1) r
def v0 : Nat → Nat := fun _ => 0
def v1 (p n : Nat) : Nat → Nat := fun k => if k = p then n else 0
/-- The whole memory: a box, the blocks, their rows. -/
def mB (nb : AB) (E W ver mo kt kw : Nat) (v : Nat → Nat) (gs : List Bl) (c : List AV) (rest : List AB) : List AB := nb :: .rowo ver E W [] mo (blCs 2 v 0 gs ++ c) :: (blRs kt kw v 0 gs ++ rest)
section
variable {nb nb' : AB} {E W ver ver' mo kt kw : Nat} {v v' : Nat → Nat} {gs : List Bl} {c c' : List AV} {rest rest' : List AB}
/-- All rows become data. -/
def blD (kw : Nat) (f : Bl) : List AV := f.a ++ .sl kw f.kids :: f.b
end
end Go.Proofs.YtbjinibmkkmhkaaDoor

/- The engine: a row of blocks within a box: renumbered, made longer, let go as data. -/
namespace Go.Proofs.YtbjinibmkkmhkaaDoor
open Go Go.RowKit

section
variable {P : Program} {N : Nat} {S : Nat → Prop} {w0 : World} {β0 : Env} {L : Option Nat} {F F' : List (Nat × AV)} {T E W kt kw na nb : Nat}
def tBx (T v : Nat) : AB := .box T [.row 1 v]
def allM (T E W kt kw : Nat) (gs : List Bl) : List AB := mB (tBx T 0) E W 0 gs.length kt kw v0 gs [] []
/-- All of it is data. -/
def blN (kw : Nat) (f : Bl) : D → Prop := fun d => d.cells = blD kw f ∧ d.fine
end
end Go.Proofs.YtbjinibmkkmhkaaDoor

/- The engine: a guard that is known to hold is let go. -/
namespace Go.Proofs.YtbjinibmkkmhkaaDoor
open Go Go.RowKit

def unG (o : Oper) : Oper := { o with guard := none }
section
variable {P : Program} {ops : Array Oper} {N : Nat} {K : AS → Prop} {o : Oper} {r : List Oper} {fo : Option (List Nat)} {M M' : List AB} {F : Nat → AV} {out : AV} {j : Nat} {want : Bool} {g : Tmp}
theorem unG_looks {t : Tmp} (h : t ∈ (unG o).looksAt ops) : t ∈ o.looksAt ops := by
  unfold Oper.looksAt at *
  rw [List.mem_append] at *
  rcases h with h | h
  · exact .inl h
  · simp [unG] at h
theorem StepG.unguard (hg : o.guard = some (j, want)) (hj : dstOf ops j = some g) (hF : F g = .val (.bool want)) (h : StepG P ops (unG o) M F M' out) : StepG P ops o M F M' out := by
  intro S B β a w hm hs K Q hK
  have h1 := hs g (guard_mem hg hj)
  rw [hF] at h1
  have hy := yielded_of (a := a) hj h1
  have hw : Region.wanted o (yielded ops a.tmps) = true := by simp [Region.wanted, hg, hy, boolOf]
  rw [if_pos hw]
  have h2 := h S B β a w hm (fun t ht => hs t (unG_looks ht)) K Q hK
  have hw2 : Region.wanted (unG o) (yielded ops a.tmps) = true := by simp [Region.wanted, unG]
  rw [if_pos hw2] at h2
  exact h2
theorem StepK.unguard {k : Nat} (hg : o.guard = some (j, want)) (hj : dstOf ops j = some g) (hF : F g = .val (.bool want)) (h : StepK P ops k (unG o) M F M' out) : StepK P ops k o M F M' out := by
  have hu : ∀ {M M' : List AB}, StepG P ops (unG o) M F M' out → StepG P ops o M F M' out := fun h => StepG.unguard hg hj hF h
  unfold StepK at *
  split at h
  · exact ⟨h.1, fun M => hu (h.2 M)⟩
  · exact ⟨h.1, hu h.2⟩
  · exact ⟨h.1, h.2.1, hu h.2.2⟩
  · exact ⟨h.1, fun M2 h2 => hu (h.2 M2 h2)⟩
  · exact ⟨h.1, hu h.2⟩
  · exact ⟨h.1, fun M2 h2 => hu (h.2 M2 h2)⟩
  · exact ⟨h.1, hu h.2⟩
  · exact ⟨h.1, fun M2 h2 => hu (h.2 M2 h2)⟩
  · unfold StepM at *
    split at h
    · rename_i hk
      rw [if_pos hk]
      exact ⟨h.1, fun M2 h2 => hu (h.2 M2 h2)⟩
    · rename_i hk
      rw [if_neg hk]
      exact ⟨h.1, hu h.2⟩
  · exact hu h
theorem r_g {F : List (Nat × AV)} (hg : o.guard = some (j, want)) (hj : dstOf ops j = some g) (hF : look F g = .val (.bool want)) (k : RunX P ops N K (unG o :: r) fo M F) : RunX P ops N K (o :: r) fo M F := by
  have key : ∀ fl, Run P ops N K (unG o :: r) fl ⟨M, F⟩ → Run P ops N K (o :: r) fl ⟨M, F⟩ := by
    rintro fl ⟨k, fl', M', out, h1, h2, h3, h4⟩
    exact ⟨k, fl', M', out, h1, h2, h3.unguard hg hj hF, h4⟩
  cases fo with
  | none => exact k.imp key
  | some l => exact key _ k
end
end Go.Proofs.YtbjinibmkkmhkaaDoor

/- The engine: own rows lent to calls that take data. -/
namespace Go.Proofs.YtbjinibmkkmhkaaDoor
open Go Go.RowKit

mutual
/-- Known of a value without a word on memory. -/
def AV.bare : AV → Bool
  | .any => true
  | .val _ => true
  | .ub _ _ => true
  | .tup l => AV.bares l
  | .agg l => AV.bares l
  | _ => false
def AV.bares : List AV → Bool
  | [] => true
  | x :: r => x.bare && AV.bares r
end
section
variable {M M' : List AB} {β β' : Env} {w w' : World} {imm imm' : Nat → Prop}
mutual
theorem bare_sat : ∀ (x : AV) (v : Value), x.bare = true → AVsat M β w imm x v → AVsat M' β' w' imm' x v
  | .any, _, _, _ => trivial
  | .val _, _, _, h => h
  | .ub _ _, _, _, h => h
  | .tup l, _, hb, ⟨cs, h1, h2⟩ => ⟨cs, h1, bares_sat l _ hb h2⟩
  | .agg l, _, hb, ⟨cs, h1, h2⟩ => ⟨cs, h1, bares_sat l _ hb h2⟩
  | .sl _ _, _, h, _ => by cases h
  | .ptr _ _, _, h, _ => by cases h
  | .row _ _, _, h, _ => by cases h
  | .eptr _ _ _ _, _, h, _ => by cases h
  | .dptr _, _, h, _ => by cases h
  | .cnd _ _, _, h, _ => by cases h
  | .cl _ _, _, h, _ => by cases h
  | .alt _ _, _, h, _ => by cases h
  | .pr _, _, h, _ => by cases h
  | .vw _ _ _, _, h, _ => by cases h
theorem bares_sat : ∀ (l : List AV) (vs : List Value), AV.bares l = true → AVsats M β w imm l vs → AVsats M' β' w' imm' l vs
  | [], _, _, h => h
  | x :: r, _, hb, ⟨v, s, h1, h2, h3⟩ => by
    rw [AV.bares, Bool.and_eq_true] at hb
    exact ⟨v, s, h1, bare_sat x v hb.1 h2, bares_sat r s hb.2 h3⟩
end
end
/-- What is handed to a call that takes data: data, or an own row as it is. -/
def Lends (M : List AB) : List AV → List AV → Prop
  | [], [] => True
  | x :: xs, y :: ys => ((x = y ∧ x.free = true) ∨ (∃ i ver e k es, x = .row i ver ∧ y = .sl k es ∧ M[i]? = some (.row ver e k es))) ∧ Lends M xs ys
  | _, _ => False
end Go.Proofs.YtbjinibmkkmhkaaDoor
