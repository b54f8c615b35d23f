/- Theorems that the rules' later texts need. -/
import Derived.Test.YtiolnmfaeenlmaaGreatDoorRl
import Derived.Test.YtiolnmfaeenlmaaGreatDoorr5
import Derived.Test.YtiolnmfaeenlmaaGreatDoorc0
namespace Go.Proofs.YtiolnmfaeenlmaaGreatDoor
open Go Go.RowKit
set_option maxRecDepth 20000

section
variable {P : Program} {ops : Array Oper} {N : Nat} {K : AS → Prop} {o : Oper} {r : List Oper} {fo fo' : Option (List Nat)} {M M' : List AB} {F : List (Nat × AV)} {dt : Tmp} {tab : List (Nat × TE)} {out : AV}
theorem r_by2 {x : AV} (hs : AStep P o M (aval (look F)) M' x) (hg : o.guard = none) (hx : nf x = some out) (hdd : o.dst = some dt) (hd : dstB o.dst N = true) (hp : popF fo 2 = some fo') (k : RunX P ops N K r fo' M' ((dt, out) :: F)) : RunX P ops N K (o :: r) fo M F :=
  RunX.mk (fun _ k => Run.eff hd (StepG.plain hg hs) (by rw [put_eq hdd, nf_eq hx]; exact k)) hp k
theorem r_fielde_cnd (ht : TyTab P tab) {jg : Nat} {want c0 : Bool} {g : Tmp} {T f off i ver j off0 e k' : Nat} {fe : TE} {x : Operand} {es : List D} (hg : o.guard = some (jg, want)) (hj : dstOf ops jg = some g) (hF : guardOf want (look F g) = some c0) (ho : o.op = .fieldAddr T x f) (hf : fieldOf tab T f = some (off, fe))
    (hx : aval (fun t => strip (look F t)) x = .eptr i ver j off0) (hM : M[i]? = some (.row ver e k' es)) (hcs : c0 = true → condsOf (look F) o.op.operands.toList = true) (hdd : o.dst = some dt) (hd : dstB o.dst N = true) (hp : popF fo 1 = some fo') (k : RunX P ops N K r fo' M ((dt, .cnd c0 (.eptr i ver j (off0 + off))) :: F)) : RunX P ops N K (o :: r) fo M F :=
  RunX.mk (fun _ k => Run.quiet hd (StepG.cnd hg hj hF hcs fun _ => astep_field_e ht ho hf hx hM) (by rw [put_eq hdd]; exact k)) hp k
theorem r_idxa_cnd (ht : TyTab P tab) {j : Nat} {want c0 : Bool} {g : Tmp} {T n e : Nat} {ee : TE} {x y : Operand} {q : IntKind} {c : Int} (hg : o.guard = some (j, want)) (hj : dstOf ops j = some g) (hF : guardOf want (look F g) = some c0) (ho : o.op = .indexAddr T x y) (hT : arrOf tab T = some (n, e, ee)) (hy : aval (fun t => strip (look F t)) y = .val (.int q c)) (hc : (Nat.ble 0 0 && decide (0 ≤ c) && decide (c < n)) = true)
    (hx : shiftP (c.toNat * ee.size) (aval (fun t => strip (look F t)) x) = some out) (hdd : o.dst = some dt) (hd : dstB o.dst N = true) (hcs : c0 = true → condsOf (look F) o.op.operands.toList = true) (hp : popF fo 0 = some fo') (k : RunX P ops N K r fo' M ((dt, .cnd c0 out) :: F)) (hne : ∀ i ver j o, aval (fun t => strip (look F t)) x ≠ .eptr i ver j o := by intro _ _ _ _ h; cases h) : RunX P ops N K (o :: r) fo M F :=
  RunX.mk (fun _ k => Run.pure_ hd (fun _ => StepG.cnd hg hj hF hcs fun _ => astep_idxa ht ho hT hy (by simpa using hc) hx hne) (by rw [put_eq hdd]; exact k)) hp k
end
theorem denCs_replicate {w : World} {imm : Nat → Prop} {v : Value} (h : v.oneCell' = true) : ∀ d : Nat, DenCs w imm (List.replicate d (.val v)) (List.replicate d v)
  | 0 => rfl
  | d + 1 => by
    rw [List.replicate_succ, List.replicate_succ]
    exact DenCs.append (a := [.val v]) (x := [v]) ⟨[v], [], rfl, ⟨rfl, h⟩, rfl⟩ (denCs_replicate h d)
section
variable {P : Program} {tab : List (Nat × TE)} {o : Oper} {M : List AB} {ρ : Operand → AV}
theorem made_words {z : Array Value} {v : Value} (hz : z.toList = [v]) (n : Nat) : (madeCells z n).toList = List.replicate n v := by
  have hz : z = #[v] := Array.toList_inj.1 hz
  subst hz
  rw [List.eq_replicate_iff]
  constructor
  · simp [madeCells]
  · intro b hb
    simp only [madeCells, Array.toList_map, List.mem_map] at hb
    obtain ⟨i, _, rfl⟩ := hb
    have : i % #[v].size = 0 := by simp [Nat.mod_one]
    rw [this]; rfl
theorem astep_make_row (ht : TyTab P tab) {T e : Nat} {ee : TE} {x y : Operand} {k k' : IntKind} {n c : Int} {es : List D} (ho : o.op = .makeSlice T x y) (hT : elemOf_ tab T = some (e, ee)) (hx : ρ x = .val (.int k n)) (hy : ρ y = .val (.int k' c))
    (h0 : 0 ≤ n) (hnc : n ≤ c) (hb : (ee.bytes : Int) * c ≤ 281474976710656) (h63 : c ≤ 4611686018427387904) (hl : es.length = n.toNat) (hw : AllW ee.size es)
    (hd : ∀ (w : World) (imm : Nat → Prop) (z : Array Value), z.toList = ee.zero → DenCs w imm es ((madeCells z (c.toNat * ee.size)).toList.take (es.length * ee.size))) : AStep P o M ρ (M ++ [.row 0 e ee.size es]) (.row M.length 0) := by
  intro S B β a w hm hs' K Q hK
  obtain ⟨hu, he⟩ := elemOf_spec ht hT
  obtain ⟨dd, i, z, _, _, hi, h1, h2, hz1, hz2⟩ := teOf_spec he
  have e1 : a.eval x = .int k n := by have := hs' x (by simp [ho, Op.operands]); rw [hx] at this; exact this
  have e2 : a.eval y = .int k' c := by have := hs' y (by simp [ho, Op.operands]); rw [hy] at this; exact this
  have hr := Go.run_make (P := P) w T e i z hu hi hz1 k k' n c h0 hnc (by rw [h2]; exact hb) (by omega)
  rw [h1] at hr
  have hb' : Below w.heap.size w (w.alloc (.cells (madeCells z.cells (c.toNat * ee.size)) e)) := (Below.refl _ _).alloc (Nat.le_refl _) _
  have hrun : (execOp a.eval o).run P w = .ok (.value (.slice (some ⟨w.heap.size, 0, none⟩) n.toNat c.toNat)) (w.alloc (.cells (madeCells z.cells (c.toNat * ee.size)) e)) := by
    simp only [execOp, ho, e1, e2]
    rw [Sem.run_bind, hr]
    rfl
  obtain ⟨q1, q2⟩ := hm.push (ab := .row 0 e ee.size es) (x := some (w.heap.size, c.toNat)) hb' (fun g c h => by cases h; exact Nat.le_refl _)
    (fun hE => ⟨hw, .inr ⟨w.heap.size, c.toNat, _, rfl, .of0 (heap_alloc_new w _), by omega, by simp only [maxLen]; omega, by rw [size_madeCells], hd _ _ _ hz2⟩⟩)
  unfold Oper.wp
  rw [hrun]
  exact hK _ _ _ q1 q2 ⟨.row 0 e ee.size es, by simp, Nat.le_refl _, fun _ => by simp [rowVal, hl]⟩
theorem astep_make_words (ht : TyTab P tab) {T e : Nat} {ee : TE} {x y : Operand} {k k' : IntKind} {n : Nat} {v : Value} (ho : o.op = .makeSlice T x y) (hT : elemOf_ tab T = some (e, ee)) (hsz : ee.size = 1) (hz : ee.zero = [v]) (hv : v.oneCell' = true) (hx : ρ x = .val (.int k (n : Int))) (hy : ρ y = .val (.int k' (n : Int)))
    (hb : ee.bytes * n ≤ 281474976710656) (h63 : n ≤ 4611686018427387904) : AStep P o M ρ (M ++ [.row 0 e ee.size (List.replicate n (.val v))]) (.row M.length 0) := by
  refine astep_make_row ht ho hT hx hy (by omega) (Int.le_refl _) (by rw [← Int.natCast_mul]; omega) (by omega) (by rw [List.length_replicate]; rfl) (fun d hd => by rw [List.eq_of_mem_replicate hd, hsz]; rfl) (fun w imm z hz' => ?_)
  rw [made_words (by rw [hz', hz]), List.length_replicate, Int.toNat_natCast, List.take_replicate, Nat.min_self, hsz, Nat.mul_one]
  exact denCs_replicate hv n
end
theorem call23 : Callable Tryz.prog 23 := callable_of Tryz.func23 rfl (by kernel_rfl)
theorem open_bool {n : Nat} {x : D} (h : DT tab (n + 1) 4 x) : ∃ b : Bool, x = .val (.bool b) := h
theorem c_less : Less cStepL := less_of c_same cStep_goes
theorem shtR_Q (l : List Nd) : ∀ (f i : Nat), shtQ f (l.drop i) = shtR f l i
  | 0, _ => rfl
  | f + 1, i => by
    rcases Nat.lt_or_ge i l.length with h | h
    · rw [nd_drop h, shtQ, shtR, if_pos h]
      split
      · exact shtR_Q l f (i + 1)
      have hm : (if atKB (ndAt l i) = true then l.drop (i + 1) else ndAt l i :: l.drop (i + 1)) = l.drop (frI l i) := by
        rw [frI]
        split
        · rfl
        · exact (nd_drop h).symm
      have hfl : frI l i ≤ l.length := by rw [frI]; split <;> omega
      rw [hm, ← runE_drop, ← take_runE]
      have hen : runE (goB (atKB (ndAt l i))) l (frI l i) = enI l i := rfl
      rw [hen, emI, rlAt]
      have hel : enI l i ≤ l.length := runE_le hfl
      rcases Nat.lt_or_ge (enI l i) l.length with h2 | h2
      · have hb : blI l (enI l i) = blkB (ndAt l (enI l i)) := by rw [blI, decide_eq_true h2, Bool.true_and]
        rw [nd_drop h2, hb]
        simp only
        rw [shtR_Q l f]
      · have hb : blI l (enI l i) = false := by rw [blI, decide_eq_false (by omega), Bool.false_and]
        have hz : shtR f l (enI l i + 1) = [] := by
          cases f with
          | zero => rfl
          | succ f => rw [shtR, if_neg (by omega)]
        rw [List.drop_eq_nil_of_le (by omega), hb, hz]
        simp only [Bool.or_false, List.append_nil]
        rfl
    · rw [List.drop_eq_nil_of_le h, shtQ, shtR, if_neg (by omega)]
theorem shtA_Ls (l : List Nd) : shtA l 0 = shtLs l := by
  rw [shtA, ← shtR_Q, List.drop_zero]
  rfl
end Go.Proofs.YtiolnmfaeenlmaaGreatDoor
