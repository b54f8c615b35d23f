/- The engine, part 6: single operations. -/
import Derived.Test.YtajbbcnfohbieaaEe
namespace Go.Proofs.Ytajbbcnfohbieaa
open Go Go.RowKit

section
variable {P : Program} {o : Oper} {M M' : List AB} {ρ : Operand → AV} {out : AV}

/-- An operation that yields a value and leaves the world. -/
theorem AStep.value (h : ∀ (S : Nat → Prop) (B : Nat) (β : Env) (a : Act) (w : World), MemSat S B M β w → (∀ x ∈ o.op.operands, AVsat M β w (immOf S B M β w) (ρ x) (a.eval x)) →
    ∃ v, (execOp a.eval o).run P w = .ok (.value v) w ∧ AVsat M β w (immOf S B M β w) out v) : AStep P o M ρ M out := by
  intro S B β a w hm hs K Q hK
  obtain ⟨v, h1, h2⟩ := h S B β a w hm hs
  unfold Oper.wp
  rw [h1]
  exact hK v β w (Ev.refl _ _ _) hm h2

theorem astep_move {x : Operand} (ho : o.op = .move x) : AStep P o M ρ M (ρ x) :=
  .value fun S B β a w _ hs => ⟨a.eval x, by simp [execOp, ho], hs x (by simp [ho, Op.operands])⟩
theorem astep_assign {x : Operand} (ho : o.op = .assign x) : AStep P o M ρ M (ρ x) :=
  .value fun S B β a w _ hs => ⟨a.eval x, by simp [execOp, ho], hs x (by simp [ho, Op.operands])⟩

theorem astep_pick {c x y : Operand} {b : Bool} (ho : o.op = .pick c x y) (hc : ρ c = .val (.bool b)) (hx : b = true → Sub (ρ x) out) (hy : b = false → Sub (ρ y) out) : AStep P o M ρ M out :=
  .value fun S B β a w _ hs => by
    have h1 := hs c (by simp [ho, Op.operands])
    rw [hc] at h1
    have h1 : a.eval c = .bool b := h1
    cases b with
    | true => exact ⟨a.eval x, by simp [execOp, ho, h1, asBool], hx rfl _ _ _ _ _ (hs x (by simp [ho, Op.operands]))⟩
    | false => exact ⟨a.eval y, by simp [execOp, ho, h1, asBool], hy rfl _ _ _ _ _ (hs y (by simp [ho, Op.operands]))⟩
theorem sub_cnd {c : Bool} {x y : AV} (hc : c = true) (h : Sub x y) : Sub (.cnd c x) y := fun _ _ _ _ _ ⟨h1, _⟩ => h _ _ _ _ _ (h1 hc)
theorem astep_or {c x y : Operand} {b d : Bool} (ho : o.op = .pick c x y) (hc : ρ c = .val (.bool b)) (hx : ρ x = .val (.bool true)) (hy : ρ y = .cnd (b == false) (.val (.bool d))) : AStep P o M ρ M (.val (.bool (b || d))) :=
  astep_pick ho hc (fun h => by rw [hx, h]; exact Sub.refl _) (fun h => by rw [hy, h]; exact sub_cnd rfl (Sub.refl _))
theorem astep_and {c x y : Operand} {b d : Bool} (ho : o.op = .pick c x y) (hc : ρ c = .val (.bool b)) (hx : ρ x = .cnd (b == true) (.val (.bool d))) (hy : ρ y = .val (.bool false)) : AStep P o M ρ M (.val (.bool (b && d))) :=
  astep_pick ho hc (fun h => by rw [hx, h]; exact sub_cnd rfl (Sub.refl _)) (fun h => by rw [hy, h]; exact Sub.refl _)

/-- Two values that are known. -/
theorem AStep.two {op : BinOp} {t u : TypeId} {x y : Operand} {vx vy v : Value} (ho : o.op = .binOp op t x y u) (hx : ρ x = .val vx) (hy : ρ y = .val vy)
    (hr : ∀ w, (do eqGuard op t x y vx vy; binOp op t vx vy : Sem Value).run P w = .ok v w) : AStep P o M ρ M (.val v) :=
  .value fun S B β a w _ hs => by
    have h1 := hs x (by simp [ho, Op.operands])
    have h2 := hs y (by simp [ho, Op.operands])
    rw [hx] at h1; rw [hy] at h2
    have h1 : a.eval x = vx := h1
    have h2 : a.eval y = vy := h2
    refine ⟨v, ?_, rfl⟩
    have := hr w
    simp only [execOp, ho, h1, h2]
    simp only [Sem.run_bind] at this ⊢
    rw [this]
    rfl

variable {t u : TypeId} {x y : Operand} {k : IntKind} {a b : Int}
theorem astep_add (ho : o.op = .binOp .add t x y u) (hx : ρ x = .val (.int k a)) (hy : ρ y = .val (.int k b)) : AStep P o M ρ M (.val (.int k (k.wrap (a + b)))) :=
  .two ho hx hy fun w => by simp [eqGuard, binOp, Op.intArith]
theorem astep_sub (ho : o.op = .binOp .sub t x y u) (hx : ρ x = .val (.int k a)) (hy : ρ y = .val (.int k b)) : AStep P o M ρ M (.val (.int k (k.wrap (a - b)))) :=
  .two ho hx hy fun w => by simp [eqGuard, binOp, Op.intArith]
theorem astep_mul (ho : o.op = .binOp .mul t x y u) (hx : ρ x = .val (.int k a)) (hy : ρ y = .val (.int k b)) : AStep P o M ρ M (.val (.int k (k.wrap (a * b)))) :=
  .two ho hx hy fun w => by simp [eqGuard, binOp, Op.intArith]
theorem wrap_i64_eq {a : Int} (h0 : -9223372036854775808 ≤ a) (h1 : a ≤ 9223372036854775807) : IntKind.i64.wrap a = a := IntWalk.i64_in a ⟨h0, h1⟩
theorem astep_add64 (ho : o.op = .binOp .add t x y u) (hx : ρ x = .val (.int .i64 a)) (hy : ρ y = .val (.int .i64 b)) (h0 : -9223372036854775808 ≤ a + b) (h1 : a + b ≤ 9223372036854775807) : AStep P o M ρ M (.val (.int .i64 (a + b))) := by
  have := astep_add (P := P) (M := M) ho hx hy; rwa [wrap_i64_eq h0 h1] at this
theorem astep_sub64 (ho : o.op = .binOp .sub t x y u) (hx : ρ x = .val (.int .i64 a)) (hy : ρ y = .val (.int .i64 b)) (h0 : -9223372036854775808 ≤ a - b) (h1 : a - b ≤ 9223372036854775807) : AStep P o M ρ M (.val (.int .i64 (a - b))) := by
  have := astep_sub (P := P) (M := M) ho hx hy; rwa [wrap_i64_eq h0 h1] at this
theorem astep_mul64 (ho : o.op = .binOp .mul t x y u) (hx : ρ x = .val (.int .i64 a)) (hy : ρ y = .val (.int .i64 b)) (h0 : -9223372036854775808 ≤ a * b) (h1 : a * b ≤ 9223372036854775807) : AStep P o M ρ M (.val (.int .i64 (a * b))) := by
  have := astep_mul (P := P) (M := M) ho hx hy; rwa [wrap_i64_eq h0 h1] at this
theorem astep_quo (ho : o.op = .binOp .quo t x y u) (hx : ρ x = .val (.int k a)) (hy : ρ y = .val (.int k b)) (hb : b ≠ 0) : AStep P o M ρ M (.val (.int k (k.wrap (a.tdiv b)))) :=
  .two ho hx hy fun w => by simp [eqGuard, binOp, Op.intDiv, hb]
theorem astep_quo64 (ho : o.op = .binOp .quo t x y u) (hx : ρ x = .val (.int .i64 a)) (hy : ρ y = .val (.int .i64 b)) (ha : 0 ≤ a) (hb : 0 < b) (h1 : a ≤ 9223372036854775807) : AStep P o M ρ M (.val (.int .i64 (a / b))) := by
  have := astep_quo (P := P) (M := M) ho hx hy (by omega)
  rw [Int.tdiv_eq_ediv_of_nonneg ha] at this
  have h2 : 0 ≤ a / b := Int.ediv_nonneg ha (by omega)
  have h3 : a / b ≤ a := Int.ediv_le_self _ ha
  rwa [wrap_i64_eq (by omega) (by omega)] at this
theorem astep_rem (ho : o.op = .binOp .rem t x y u) (hx : ρ x = .val (.int k a)) (hy : ρ y = .val (.int k b)) (hb : b ≠ 0) : AStep P o M ρ M (.val (.int k (a.tmod b))) :=
  .two ho hx hy fun w => by simp [eqGuard, binOp, Op.intDiv, hb]
theorem astep_rem_pos (ho : o.op = .binOp .rem t x y u) (hx : ρ x = .val (.int k a)) (hy : ρ y = .val (.int k b)) (ha : 0 ≤ a) (hb : 0 < b) : AStep P o M ρ M (.val (.int k (a % b))) := by
  have := astep_rem (P := P) (M := M) ho hx hy (by omega)
  rwa [Int.tmod_eq_emod_of_nonneg ha] at this
theorem astep_eql (ho : o.op = .binOp .eql t x y u) (hx : ρ x = .val (.int k a)) (hy : ρ y = .val (.int k b)) : AStep P o M ρ M (.val (.bool (decide (a = b)))) :=
  .two ho hx hy fun w => by simp [eqGuard, binOp, Op.intCmp]; rfl
theorem astep_neq (ho : o.op = .binOp .neq t x y u) (hx : ρ x = .val (.int k a)) (hy : ρ y = .val (.int k b)) : AStep P o M ρ M (.val (.bool (!decide (a = b)))) :=
  .two ho hx hy fun w => by simp [eqGuard, binOp, Op.intCmp]; rfl
theorem astep_lss (ho : o.op = .binOp .lss t x y u) (hx : ρ x = .val (.int k a)) (hy : ρ y = .val (.int k b)) : AStep P o M ρ M (.val (.bool (decide (a < b)))) :=
  .two ho hx hy fun w => by simp [eqGuard, binOp, Op.intCmp]
theorem astep_leq (ho : o.op = .binOp .leq t x y u) (hx : ρ x = .val (.int k a)) (hy : ρ y = .val (.int k b)) : AStep P o M ρ M (.val (.bool (decide (a ≤ b)))) :=
  .two ho hx hy fun w => by simp [eqGuard, binOp, Op.intCmp]
theorem astep_gtr (ho : o.op = .binOp .gtr t x y u) (hx : ρ x = .val (.int k a)) (hy : ρ y = .val (.int k b)) : AStep P o M ρ M (.val (.bool (decide (b < a)))) :=
  .two ho hx hy fun w => by simp [eqGuard, binOp, Op.intCmp]
theorem astep_geq (ho : o.op = .binOp .geq t x y u) (hx : ρ x = .val (.int k a)) (hy : ρ y = .val (.int k b)) : AStep P o M ρ M (.val (.bool (decide (b ≤ a)))) :=
  .two ho hx hy fun w => by simp [eqGuard, binOp, Op.intCmp]

theorem astep_nil_eq {es : List D} {e n : Nat} (ht : P.underlying t = some (.slice e)) (ho : o.op = .binOp .eql t x y u) (hx : ρ x = .sl n es) (hy : ρ y = .val (.slice none 0 0)) : AStep P o M ρ M (.ub es.isEmpty true) :=
  .value fun S B β a w _ hs => by
    have h1 := hs x (by simp [ho, Op.operands])
    have h2 := hs y (by simp [ho, Op.operands])
    rw [hx] at h1; rw [hy] at h2
    have h2 : a.eval y = .slice none 0 0 := h2
    obtain ⟨A, l, c, h3, h4, _, _, _, h5⟩ := h1
    simp at h3
    have hr := Lib.run_eql_slice_nil (P := P) w t e A l c 0 0 ht
    refine ⟨.bool A.isNone, ?_, A.isNone, rfl, fun h => ?_, fun _ => rfl⟩
    · simp [execOp, ho, h2, h3, eqGuard, hr]
    · rcases Nat.eq_zero_or_pos l with h0 | h0
      · cases es with
        | nil => rfl
        | cons => simp at h4; omega
      · obtain ⟨g, off, rows, h6, _⟩ := h5 h0
        rw [h6] at h; cases h
theorem toList_beq (s r : ByteArray) : (s.toList == r.toList) = decide (s = r) := by
  rw [Bool.eq_iff_iff]
  simp only [beq_iff_eq, decide_eq_true_eq]
  constructor
  · intro h
    rw [ByteArray.toList_eq, ByteArray.toList_eq] at h
    exact ByteArray.ext (Array.toList_inj.1 h)
  · intro h
    rw [h]
variable {s r : ByteArray}
theorem astep_eqls (ho : o.op = .binOp .eql t x y u) (hx : ρ x = .val (.string s)) (hy : ρ y = .val (.string r)) : AStep P o M ρ M (.val (.bool (decide (s = r)))) :=
  .two ho hx hy fun w => by rw [← toList_beq]; simp [eqGuard, binOp, Op.stringOp]
theorem astep_neqs (ho : o.op = .binOp .neq t x y u) (hx : ρ x = .val (.string s)) (hy : ρ y = .val (.string r)) : AStep P o M ρ M (.val (.bool (!decide (s = r)))) :=
  .two ho hx hy fun w => by rw [← toList_beq]; simp [eqGuard, binOp, Op.stringOp]
theorem astep_adds (ho : o.op = .binOp .add t x y u) (hx : ρ x = .val (.string s)) (hy : ρ y = .val (.string r)) (h : s.size + r.size ≤ 9223372036854775807) : AStep P o M ρ M (.val (.string (s ++ r))) :=
  .two ho hx hy fun w => by
    have := run_string_add_sum (P := P) w s r h
    simp [eqGuard, binOp, this]
theorem astep_eqlb {p q : Bool} (ht : P.underlying t = some .bool) (ho : o.op = .binOp .eql t x y u) (hx : ρ x = .val (.bool p)) (hy : ρ y = .val (.bool q)) : AStep P o M ρ M (.val (.bool (p == q))) :=
  .two ho hx hy fun w => by
    have := run_eql_bool (P := P) w t p q ht
    simp [eqGuard, this]
theorem astep_neqb {p q : Bool} (ht : P.underlying t = some .bool) (ho : o.op = .binOp .neq t x y u) (hx : ρ x = .val (.bool p)) (hy : ρ y = .val (.bool q)) : AStep P o M ρ M (.val (.bool (!(p == q)))) :=
  .two ho hx hy fun w => by
    have := run_neq_bool (P := P) w t p q ht
    simp [eqGuard, this]
theorem astep_not {p : Bool} (ho : o.op = .unOp .not t x) (hx : ρ x = .val (.bool p)) : AStep P o M ρ M (.val (.bool (!p))) :=
  .value fun S B β a w _ hs => by
    have h1 := hs x (by simp [ho, Op.operands])
    rw [hx] at h1
    have h1 : a.eval x = .bool p := h1
    exact ⟨_, by simp [execOp, ho, h1, Op.unary], rfl⟩
theorem astep_neg (ho : o.op = .unOp .neg t x) (hx : ρ x = .val (.int k a)) : AStep P o M ρ M (.val (.int k (k.wrap (0 - a)))) :=
  .value fun S B β A w _ hs => by
    have h1 := hs x (by simp [ho, Op.operands])
    rw [hx] at h1
    have h1 : A.eval x = .int k a := h1
    exact ⟨_, by simp [execOp, ho, h1, Op.unary, Op.intArith], rfl⟩
end

end Go.Proofs.Ytajbbcnfohbieaa
