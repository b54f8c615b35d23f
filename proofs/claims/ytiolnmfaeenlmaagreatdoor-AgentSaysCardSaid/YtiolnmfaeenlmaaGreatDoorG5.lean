import Derived.RangeFuncBox
import Derived.RangeFuncLeaves
import Derived.WalkKit
import Derived.OwnWalkIn
import Derived.TacticsInMore
import Derived.LoopNIn
import Derived.LoopIn
import Derived.Test.YtiolnmfaeenlmaaGreatDoorCb
import Derived.Test.YtiolnmfaeenlmaaGreatDoorTy
import Derived.RangeFuncFrom
import Derived.Test.YtiolnmfaeenlmaaGreatDoorJa
/- slices.Backward's closure over ints: a promise for whatever the loop's body is. -/
namespace Go.Proofs.YtiolnmfaeenlmaaGreatDoor
open Go Go.RowKit

attribute [local go_sem] Oper.semAt_some

def revs (n : Nat) : List (Fin n) := (List.finRange n).reverse
end Go.Proofs.YtiolnmfaeenlmaaGreatDoor

/- The engine: ranges over slices.Backward. -/
namespace Go.Proofs.YtiolnmfaeenlmaaGreatDoor
open Go Go.RowKit

def iD (i : Int) : D := .val (.int .i64 i)
/-- What the closure of slices.Backward promises. -/
def BackSeq (P : Program) (f : FuncId) (k : Nat) (es : List D) (n : Nat) (val : Fin n → Value) : Prop :=
  ∀ (g0 off0 : Nat) (w : World) (imm : Nat → Prop) (sv : Value), imm g0 → w.cell? ⟨g0, off0, none⟩ = some sv → DenC w imm (.sl k es) [sv] →
    SeqStopsK Fence.wide 1 P f #[.pointer (some ⟨g0, off0, none⟩)] (fun x : Fin n => #[.int .i64 (x.1 : Int), val x]) (fun A B => ∀ b, imm b → B.heap[b]? = A.heap[b]?) (fun ys => ys = revs n) (fun pre => ∃ k, k ≤ n ∧ pre = (revs n).take k) n w

section
variable {M : List AB} {β : Env} {w w' : World} {S : Nat → Prop} {B : Nat}
def NoIter (M : List AB) : Prop := ∀ ab ∈ M, ab.isIter = false
theorem MemSat.up (hm : MemSat S B M β w) : MemSat (fun b => S b ∨ B ≤ b) w.heap.size M β w :=
  have hi0 : ∀ b, immOf S B M β w b → immOf (fun b => S b ∨ B ≤ b) w.heap.size M β w b := fun b hb => ⟨.inl hb.1, hb.2⟩
  ⟨Nat.le_refl _, hm.inj, fun i ab hi => EntSat.on hi0 (fun _ _ _ h => h) (fun _ _ _ _ => rfl) (hm.ent i ab hi), fun b hl => .inl (hm.own b hl), hm.gl.mono hi0 (fun _ _ _ => rfl)⟩
end

end Go.Proofs.YtiolnmfaeenlmaaGreatDoor

/- The engine: a range over slices.Backward that takes the value alone. -/
namespace Go.Proofs.YtiolnmfaeenlmaaGreatDoor
open Go Go.RowKit

section
variable {P : Program} {ops : Array Oper} {N : Nat} {K : AS → Prop} {o : Oper} {r : List Oper} {fo fo' : Option (List Nat)} {M M' : List AB} {F : List (Nat × AV)} {dt : Tmp} {tab : List (Nat × TE)} {out : AV}
/-- A row's word stored in a box: its number may be any. -/
theorem r_st_row (ht : TyTab P tab) {T i off e iy ver ey k' : Nat} {te : TE} {x y : Operand} {cells l : List AV} {es : List D} (hg : o.guard = none) (ho : o.op = .store T x y) (hx : aval (look F) x = .ptr i off) (hM : M[i]? = some (.box e cells)) (hT : tget tab T = some te) (hsz : te.size = 1) (hoff : Nat.ble (off + 1) cells.length = true)
    (hy : aval (look F) y = .row iy ver) (hMy : M[iy]? = some (.row ver ey k' es)) (hl : nfs (putCells cells off [.row iy ver]) = some l) (hdd : o.dst = none) (hp : popF fo 2 = some fo') (k : RunX P ops N K r fo' (M.set i (.box e l)) F) : RunX P ops N K (o :: r) fo M F := by
  refine r_st ht (out := .val undef) hg ?_ hdd hp k
  have e1 : oneCsM M (cellsOf (aval (look F) y)) = true := by
    rw [hy]
    simp [cellsOf, oneCsM, oneCM, freshRow, hMy]
  have e2 : cellsOf (aval (look F) y) = [.row iy ver] := by rw [hy]; rfl
  rw [ho]
  rw [e2] at e1
  simp only [wrM, hx, hM, hT, e2]
  rw [hsz, hoff, hl, e1]
  rfl
end
theorem okFz.freeze {v m n : Nat} {fz : Nat × Nat} (h : okFz v m fz n) (hv : sealed v = true) : okFz v m (if fz.1 == fz.2 then (0, 0 + m) else (min fz.1 0, max fz.2 (0 + m))) n := by
  unfold okFz at h ⊢
  rw [hv] at h ⊢
  have h : fz.2 ≤ m := h
  show (if fz.1 == fz.2 then (0, 0 + m) else (min fz.1 0, max fz.2 (0 + m))).2 ≤ m
  split
  · simp
  · simp; omega
section
variable {P : Program} {ops : Array Oper} {N : Nat} {K : AS → Prop} {o : Oper} {r : List Oper} {fo fo' : Option (List Nat)} {M M' : List AB} {F : List (Nat × AV)} {dt : Tmp} {tab : List (Nat × TE)} {out : AV}
end
end Go.Proofs.YtiolnmfaeenlmaaGreatDoor

/- The engine: cuts of strings, the least of three. -/
namespace Go.Proofs.YtiolnmfaeenlmaaGreatDoor
open Go Go.RowKit
section
variable {P : Program} {o : Oper} {M M' : List AB} {ρ : Operand → AV} {out : AV} {tab : List (Nat × TE)}
theorem astep_scut (ht : TyTab P tab) {T : Nat} {x : Operand} {lo hi : Option Operand} {l h : Option Int} {s : ByteArray} (ho : o.op = .slice T x lo hi none) (hT : kindAt tab T = some .str) (hx : ρ x = .val (.string s)) (hlo : cutLo ρ lo = some l) (hhi : cutLo ρ hi = some h)
    (hb : 0 ≤ l.getD 0 ∧ l.getD 0 ≤ h.getD s.size ∧ h.getD s.size ≤ (s.size : Int)) : AStep P o M ρ M (.val (.string (s.extract (l.getD 0).toNat (h.getD s.size).toNat))) :=
  .value fun S B β a w _ hs => by
    obtain ⟨h0, h1, h2⟩ := hb
    have hx1 := hs x (by simp [ho, Op.operands])
    rw [hx] at hx1
    have hx1 : a.eval x = .string s := hx1
    have hu := kindAt_str ht hT
    refine ⟨.string (s.extract (l.getD 0).toNat (h.getD s.size).toNat), ?_, rfl⟩
    have elo : ∀ y, lo = some y → ∃ q n, l = some n ∧ a.eval y = .int q n := fun y hy => by
      subst hy
      have h3 := hs y (by simp [ho, Op.operands])
      simp only [cutLo] at hlo
      split at hlo
      · rename_i q n hq; cases hlo; rw [hq] at h3; exact ⟨q, n, rfl, h3⟩
      · cases hlo
    have ehi : ∀ y, hi = some y → ∃ q n, h = some n ∧ a.eval y = .int q n := fun y hy => by
      subst hy
      have h3 := hs y (by cases lo <;> simp [ho, Op.operands])
      simp only [cutLo] at hhi
      split at hhi
      · rename_i q n hq; cases hhi; rw [hq] at h3; exact ⟨q, n, rfl, h3⟩
      · cases hhi
    cases lo with
    | none =>
      cases hlo
      cases hi with
      | none =>
        cases hhi
        have := run_slice_string_all (P := P) w T s hu
        simp [execOp, ho, hx1, run_sliceAt_string _ _ _ _ _ _ hu, this]
      | some y =>
        obtain ⟨q, n, rfl, e1⟩ := ehi y rfl
        have := run_slice_string_h (P := P) w T s hu q n (by simpa using h1) (by simpa using h2)
        simp [execOp, ho, hx1, e1, run_sliceAt_string _ _ _ _ _ _ hu, this]
    | some z =>
      obtain ⟨q, n, rfl, e1⟩ := elo z rfl
      cases hi with
      | none =>
        cases hhi
        have := run_slice_string_l (P := P) w T s hu q n (by simpa using h0) (by simpa using h1)
        simp [execOp, ho, hx1, e1, run_sliceAt_string _ _ _ _ _ _ hu, this]
      | some y =>
        obtain ⟨q', n', rfl, e2⟩ := ehi y rfl
        have := run_slice_string (P := P) (w := w) T s q q' n n' hu (by simpa using h0) (by simpa using h1) (by simpa using h2)
        simp [execOp, ho, hx1, e1, e2, run_sliceAt_string _ _ _ _ _ _ hu, this]
end
section
variable {P : Program} {ops : Array Oper} {N : Nat} {K : AS → Prop} {o : Oper} {r : List Oper} {fo fo' : Option (List Nat)} {M M' : List AB} {F : List (Nat × AV)} {dt : Tmp} {tab : List (Nat × TE)} {out : AV}
theorem r_scut (ht : TyTab P tab) {T : Nat} {x : Operand} {lo hi : Option Operand} {a b : Option Int} {s : ByteArray} (hg : o.guard = none) (ho : o.op = .slice T x lo hi none) (hT : kindAt tab T = some .str) (hx : aval (look F) x = .val (.string s)) (hlo : cutLo (aval (look F)) lo = some a) (hhi : cutLo (aval (look F)) hi = some b)
    (hdd : o.dst = some dt) (hd : dstB o.dst N = true) (hb : 0 ≤ a.getD 0 ∧ a.getD 0 ≤ b.getD s.size ∧ b.getD s.size ≤ (s.size : Int)) (hp : popF fo 0 = some fo') (k : RunX P ops N K r fo' M ((dt, .val (.string (s.extract (a.getD 0).toNat (b.getD s.size).toNat))) :: F)) : RunX P ops N K (o :: r) fo M F :=
  RunX.mk (fun _ k => Run.pure_ hd (fun _ => StepG.plain hg (astep_scut ht ho hT hx hlo hhi hb)) (by rw [put_eq hdd]; exact k)) hp k
theorem r_scut_cnd (ht : TyTab P tab) {j : Nat} {want c0 : Bool} {g : Tmp} {T : Nat} {x : Operand} {lo hi : Option Operand} {a b : Option Int} {s : ByteArray} (hg : o.guard = some (j, want)) (hj : dstOf ops j = some g) (hF : guardOf want (look F g) = some c0) (ho : o.op = .slice T x lo hi none) (hT : kindAt tab T = some .str)
    (hx : aval (fun t => strip (look F t)) x = .val (.string s)) (hlo : cutLo (aval fun t => strip (look F t)) lo = some a) (hhi : cutLo (aval fun t => strip (look F t)) hi = some b) (hcs : c0 = true → condsOf (look F) o.op.operands.toList = true)
    (hdd : o.dst = some dt) (hd : dstB o.dst N = true) (hb : c0 = true → 0 ≤ a.getD 0 ∧ a.getD 0 ≤ b.getD s.size ∧ b.getD s.size ≤ (s.size : Int)) (hp : popF fo 0 = some fo') (k : RunX P ops N K r fo' M ((dt, .cnd c0 (.val (.string (s.extract (a.getD 0).toNat (b.getD s.size).toNat)))) :: F)) : RunX P ops N K (o :: r) fo M F :=
  RunX.mk (fun _ k => Run.pure_ hd (fun _ => StepG.cnd hg hj hF hcs fun h => astep_scut ht ho hT hx hlo hhi (hb h)) (by rw [put_eq hdd]; exact k)) hp k
end
end Go.Proofs.YtiolnmfaeenlmaaGreatDoor
