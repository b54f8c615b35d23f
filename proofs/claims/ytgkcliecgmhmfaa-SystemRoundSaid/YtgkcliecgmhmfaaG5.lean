/- The engine: cuts of strings, the least of three. -/
import Derived.Test.YtgkcliecgmhmfaaG4
namespace Go.Proofs.Ytgkcliecgmhmfaa
open Go Go.RowKit
section
variable {P : Program} {o : Oper} {M M' : List AB} {ρ : Operand → AV} {out : AV} {tab : List (Nat × TE)}
theorem astep_scut (ht : TyTab P tab) {T : Nat} {x : Operand} {lo hi : Option Operand} {l h : Option Int} {s : ByteArray} (ho : o.op = .slice T x lo hi none) (hT : kindAt tab T = some .str) (hx : ρ x = .val (.string s)) (hlo : cutLo ρ lo = some l) (hhi : cutLo ρ hi = some h)
    (hb : 0 ≤ l.getD 0 ∧ l.getD 0 ≤ h.getD s.size ∧ h.getD s.size ≤ (s.size : Int)) : AStep P o M ρ M (.val (.string (s.extract (l.getD 0).toNat (h.getD s.size).toNat))) :=
  .value fun S B β a w _ hs => by
    obtain ⟨h0, h1, h2⟩ := hb
    have hx1 := hs x (by simp [ho, Op.operands])
    rw [hx] at hx1
    have hx1 : a.eval x = .string s := hx1
    have hu := kindAt_str ht hT
    refine ⟨.string (s.extract (l.getD 0).toNat (h.getD s.size).toNat), ?_, rfl⟩
    have elo : ∀ y, lo = some y → ∃ q n, l = some n ∧ a.eval y = .int q n := fun y hy => by
      subst hy
      have h3 := hs y (by simp [ho, Op.operands])
      simp only [cutLo] at hlo
      split at hlo
      · rename_i q n hq; cases hlo; rw [hq] at h3; exact ⟨q, n, rfl, h3⟩
      · cases hlo
    have ehi : ∀ y, hi = some y → ∃ q n, h = some n ∧ a.eval y = .int q n := fun y hy => by
      subst hy
      have h3 := hs y (by cases lo <;> simp [ho, Op.operands])
      simp only [cutLo] at hhi
      split at hhi
      · rename_i q n hq; cases hhi; rw [hq] at h3; exact ⟨q, n, rfl, h3⟩
      · cases hhi
    cases lo with
    | none =>
      cases hlo
      cases hi with
      | none =>
        cases hhi
        have := run_slice_string_all (P := P) w T s hu
        simp [execOp, ho, hx1, run_sliceAt_string _ _ _ _ _ _ hu, this]
      | some y =>
        obtain ⟨q, n, rfl, e1⟩ := ehi y rfl
        have := run_slice_string_h (P := P) w T s hu q n (by simpa using h1) (by simpa using h2)
        simp [execOp, ho, hx1, e1, run_sliceAt_string _ _ _ _ _ _ hu, this]
    | some z =>
      obtain ⟨q, n, rfl, e1⟩ := elo z rfl
      cases hi with
      | none =>
        cases hhi
        have := run_slice_string_l (P := P) w T s hu q n (by simpa using h0) (by simpa using h1)
        simp [execOp, ho, hx1, e1, run_sliceAt_string _ _ _ _ _ _ hu, this]
      | some y =>
        obtain ⟨q', n', rfl, e2⟩ := ehi y rfl
        have := run_slice_string (P := P) (w := w) T s q q' n n' hu (by simpa using h0) (by simpa using h1) (by simpa using h2)
        simp [execOp, ho, hx1, e1, e2, run_sliceAt_string _ _ _ _ _ _ hu, this]
theorem run_min3 {w : World} (ts : Array TypeId) (t : TypeId) (k k' k'' : IntKind) (x y z : Int) : (Builtin.min_ ts t #[.int k x, .int k' y, .int k'' z]).run P w = .ok (.int k (min (min x y) z)) w := by
  simp [Builtin.min_, Builtin.min2]
  omega
theorem astep_min3 {x y z : Operand} {ts : Array TypeId} {k k' k'' : IntKind} {a b c : Int} (ho : o.op = .call { callee := .builtin .min, args := #[x, y, z], argTypes := ts }) (hx : ρ x = .val (.int k a)) (hy : ρ y = .val (.int k' b)) (hz : ρ z = .val (.int k'' c)) : AStep P o M ρ M (.val (.int k (min (min a b) c))) :=
  .value fun S B β A w _ hs => by
    have h1 := hs x (by simp [ho, Op.operands, Call.operands])
    have h2 := hs y (by simp [ho, Op.operands, Call.operands])
    have h3 := hs z (by simp [ho, Op.operands, Call.operands])
    rw [hx] at h1; rw [hy] at h2; rw [hz] at h3
    have h1 : A.eval x = .int k a := h1
    have h2 : A.eval y = .int k' b := h2
    have h3 : A.eval z = .int k'' c := h3
    refine ⟨.int k (min (min a b) c), ?_, rfl⟩
    have := run_min3 (P := P) (w := w) ts o.type k k' k'' a b c
    simp only [execOp, ho, resolve, invoke, builtin]
    simp [h1, h2, h3, this]
end
section
variable {P : Program} {ops : Array Oper} {N : Nat} {K : AS → Prop} {o : Oper} {r : List Oper} {fo fo' : Option (List Nat)} {M M' : List AB} {F : List (Nat × AV)} {dt : Tmp} {tab : List (Nat × TE)} {out : AV}
theorem r_scut (ht : TyTab P tab) {T : Nat} {x : Operand} {lo hi : Option Operand} {a b : Option Int} {s : ByteArray} (hg : o.guard = none) (ho : o.op = .slice T x lo hi none) (hT : kindAt tab T = some .str) (hx : aval (look F) x = .val (.string s)) (hlo : cutLo (aval (look F)) lo = some a) (hhi : cutLo (aval (look F)) hi = some b)
    (hdd : o.dst = some dt) (hd : dstB o.dst N = true) (hb : 0 ≤ a.getD 0 ∧ a.getD 0 ≤ b.getD s.size ∧ b.getD s.size ≤ (s.size : Int)) (hp : popF fo 0 = some fo') (k : RunX P ops N K r fo' M ((dt, .val (.string (s.extract (a.getD 0).toNat (b.getD s.size).toNat))) :: F)) : RunX P ops N K (o :: r) fo M F :=
  RunX.mk (fun _ k => Run.pure_ hd (fun _ => StepG.plain hg (astep_scut ht ho hT hx hlo hhi hb)) (by rw [put_eq hdd]; exact k)) hp k
theorem r_scut_cnd (ht : TyTab P tab) {j : Nat} {want c0 : Bool} {g : Tmp} {T : Nat} {x : Operand} {lo hi : Option Operand} {a b : Option Int} {s : ByteArray} (hg : o.guard = some (j, want)) (hj : dstOf ops j = some g) (hF : guardOf want (look F g) = some c0) (ho : o.op = .slice T x lo hi none) (hT : kindAt tab T = some .str)
    (hx : aval (fun t => strip (look F t)) x = .val (.string s)) (hlo : cutLo (aval fun t => strip (look F t)) lo = some a) (hhi : cutLo (aval fun t => strip (look F t)) hi = some b) (hcs : c0 = true → condsOf (look F) o.op.operands.toList = true)
    (hdd : o.dst = some dt) (hd : dstB o.dst N = true) (hb : c0 = true → 0 ≤ a.getD 0 ∧ a.getD 0 ≤ b.getD s.size ∧ b.getD s.size ≤ (s.size : Int)) (hp : popF fo 0 = some fo') (k : RunX P ops N K r fo' M ((dt, .cnd c0 (.val (.string (s.extract (a.getD 0).toNat (b.getD s.size).toNat)))) :: F)) : RunX P ops N K (o :: r) fo M F :=
  RunX.mk (fun _ k => Run.pure_ hd (fun _ => StepG.cnd hg hj hF hcs fun h => astep_scut ht ho hT hx hlo hhi (hb h)) (by rw [put_eq hdd]; exact k)) hp k
/-- An entry is added: the first entry may be read ahead of it, or behind. -/
theorem r_push {ab : AB} {x : AV} (hs : AStep P o M (aval (look F)) (M ++ [ab]) x) (hg : o.guard = none) (hx : nf x = some out) (hl : Nat.blt 0 M.length = true) (hdd : o.dst = some dt) (hd : dstB o.dst N = true) (hp : popF fo 3 = some fo') (k : RunX P ops N K r fo' (M ++ [ab]) ((dt, out) :: F)) : RunX P ops N K (o :: r) fo M F :=
  RunX.mk (fun _ k => Run.push hd (by rw [Nat.blt_eq] at hl; exact hl) (StepG.plain hg hs) (by rw [put_eq hdd, nf_eq hx]; exact k)) hp k
theorem ldM_0 {tab : List (Nat × TE)} {M1 M2 : List AB} {ρ : Operand → AV} {T off : Nat} {x : Operand} (hx : ρ x = .ptr 0 off) (h : M2[0]? = M1[0]?) : ldM tab M2 ρ (.load T x) = ldM tab M1 ρ (.load T x) := by
  simp only [ldM, hx, h]
theorem r_ld0 (ht : TyTab P tab) {T off : Nat} {x : Operand} (hg : o.guard = none) (ho : o.op = .load T x) (hx : aval (look F) x = .ptr 0 off) (he : ldM tab M (aval (look F)) o.op = some out) (hdd : o.dst = some dt) (hd : dstB o.dst N = true) (hp : popF fo 4 = some fo') (k : RunX P ops N K r fo' M ((dt, out) :: F)) : RunX P ops N K (o :: r) fo M F :=
  RunX.mk (fun _ k => Run.read0 hd (fun M2 h => StepG.plain hg (ldM_sound ht (by rw [ho] at he ⊢; rw [ldM_0 hx h]; exact he))) (by rw [put_eq hdd]; exact k)) hp k
theorem take3_get {M1 M2 : List AB} (h : M2.take 3 = M1.take 3) {i : Nat} (hi : i < 3) : M2[i]? = M1[i]? := by
  have := congrArg (fun l => l[i]?) h
  simpa [List.getElem?_take, hi] using this
theorem ldM_i {tab : List (Nat × TE)} {M1 M2 : List AB} {ρ : Operand → AV} {T i off : Nat} {x : Operand} (hx : ρ x = .ptr i off) (h : M2[i]? = M1[i]?) : ldM tab M2 ρ (.load T x) = ldM tab M1 ρ (.load T x) := by
  simp only [ldM, hx, h]
/-- A load out of one of the first three entries, that may be drawn ahead of what turns none of them. -/
theorem r_ld3 (ht : TyTab P tab) {T i off : Nat} {x : Operand} (hg : o.guard = none) (ho : o.op = .load T x) (hx : aval (look F) x = .ptr i off) (hi : Nat.blt i 3 = true) (he : ldM tab M (aval (look F)) o.op = some out) (hdd : o.dst = some dt) (hd : dstB o.dst N = true) (hp : popF fo 6 = some fo') (k : RunX P ops N K r fo' M ((dt, out) :: F)) : RunX P ops N K (o :: r) fo M F :=
  RunX.mk (fun _ k => Run.read3 hd (fun M2 h => StepG.plain hg (ldM_sound ht (by rw [Nat.blt_eq] at hi; rw [ho] at he ⊢; rw [ldM_i hx (take3_get h hi)]; exact he))) (by rw [put_eq hdd]; exact k)) hp k
/-- An append onto a row behind the first three entries. -/
theorem r_append3 (ht : TyTab P tab) {T e : Nat} {ee : TE} {x y : Operand} {i ver : Nat} {es xs : List D} (hg : o.guard = none) (ho : o.op = .call { callee := .builtin .append, args := #[x, y], argTypes := #[T, T] }) (hT : elemOf_ tab T = some (e, ee))
    (hok : (Nat.blt 0 ee.size && Nat.beq ee.zero.length ee.size && Nat.blt 0 ee.bytes) = true) (hx : aval (look F) x = .row i ver) (hM : M[i]? = some (.row ver e ee.size es)) (hy : aval (look F) y = .sl ee.size xs)
    (hi : Nat.ble 3 i = true) (hdd : o.dst = some dt) (hd : dstB o.dst N = true) (hb : (es.length + xs.length) * ee.bytes ≤ 140737488355328) (hp : popF fo 5 = some fo') (k : RunX P ops N K r fo' (M.set i (.row (ver + 2) e ee.size (es ++ xs))) ((dt, (.row i (ver + 2))) :: F)) : RunX P ops N K (o :: r) fo M F :=
  RunX.mk (fun _ k => Run.behind3 hd (by have := Nat.le_of_ble_eq_true hi; exact List.take_set_of_le this) (StepG.plain hg (astep_append ht ho hT hok hx hM hy hb)) (by rw [put_eq hdd]; exact k)) hp k
/-- A slice written out, that looks at no memory. -/
theorem r_builtp (ht : TyTab P tab) {T n e : Nat} {ee : TE} {parts : Array (Nat × Operand)} {ds : List D} (hg : o.guard = none) (ho : o.op = .buildSlice T n parts) (hT : elemOf_ tab T = some (e, ee))
    (hok : (Nat.blt 0 ee.size && Nat.beq ee.zero.length ee.size && Nat.beq (partsOf parts).length n && Nat.ble (n * ee.size) 16777216 && inOrder parts.toList 0) = true)
    (hds : toDall ((partsOf parts).map (aval (look F))) = some ds) (hf : fitK ee.size ((partsOf parts).map (aval (look F))) ds = true)
    (hdd : o.dst = some dt) (hd : dstB o.dst N = true) (hp : popF fo 0 = some fo') (k : RunX P ops N K r fo' (M) ((dt, (.sl ee.size ds)) :: F)) : RunX P ops N K (o :: r) fo M F :=
  RunX.mk (fun _ k => Run.pure_ hd (fun _ => StepG.plain hg (astep_buildSlice ht ho hT hok hds hf)) (by rw [put_eq hdd]; exact k)) hp k
end
end Go.Proofs.Ytgkcliecgmhmfaa
