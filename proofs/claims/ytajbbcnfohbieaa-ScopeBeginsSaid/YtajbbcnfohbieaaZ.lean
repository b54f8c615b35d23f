/- The engine, part 21: the rules of strings, elements, cuts, calls with own memory; strings.Builder's operations. -/
import Derived.Test.YtajbbcnfohbieaaM
import Derived.Lib.UnsafeStr
namespace Go.Proofs.Ytajbbcnfohbieaa
open Go Go.RowKit

section
variable {P : Program} {o : Oper} {M M' : List AB} {ρ : Operand → AV} {out : AV} {tab : List (Nat × TE)}
/-- A part of a slice that is data. -/
theorem elem_of {P : Program} {T e : Nat} (h : P.underlying T = some (.slice e)) : P.underlying T = some (.slice (P.elem T)) ∧ P.elem T = e := by
  have : P.elem T = e := by simp [Program.elem, h]
  rw [this]
  exact ⟨h, rfl⟩
def cutLo (ρ : Operand → AV) : Option Operand → Option (Option Int)
  | none => some none
  | some x => match ρ x with
    | .val (.int _ n) => some (some n)
    | _ => none
theorem cut_sat {w : World} {imm : Nat → Prop} {k l h m c : Nat} {es : List D} {A : Option Addr} (hd : DenC w imm (.sl k es) [.slice A m c]) (hl : l ≤ h) (hh : h ≤ es.length) : DenC w imm (.sl k ((es.take h).drop l)) [sliced A l h c k] := by
  obtain ⟨A', n', c', e1, e2, e3, e4, e5, e6⟩ := hd
  simp only [List.cons.injEq, Value.slice.injEq, and_true] at e1
  obtain ⟨rfl, rfl, rfl⟩ := e1
  have hlen : ((es.take h).drop l).length = h - l := by simp; omega
  refine ⟨_, h - l, c - l, rfl, hlen.symm, by omega, by omega, fun d hd => e5 d (List.mem_of_mem_take (List.mem_of_mem_drop hd)), fun hp => ?_⟩
  obtain ⟨g, off, rows, rfl, k2, k3, k4⟩ := e6 (by omega)
  have hcl : ¬ c = l := by omega
  refine ⟨g, off + l * k, (rows.take (h * k)).drop (l * k), by simp [hcl, addr_add], k2, (k3.take_ e5).drop_ (fun d hd => e5 d (List.mem_of_mem_take hd)), fun j u hj => ?_⟩
  rw [List.getElem?_drop, List.getElem?_take] at hj
  split at hj
  · rw [Nat.add_assoc]; exact k4 _ _ hj
  · cases hj
theorem astep_cut (ht : TyTab P tab) {T e : Nat} {ee : TE} {x : Operand} {lo hi : Option Operand} {l h : Option Int} {es : List D} (ho : o.op = .slice T x lo hi none) (hT : elemOf_ tab T = some (e, ee)) (hx : ρ x = .sl ee.size es) (hlo : cutLo ρ lo = some l) (hhi : cutLo ρ hi = some h)
    (h0 : 0 ≤ l.getD 0) (h1 : l.getD 0 ≤ h.getD es.length) (h2 : h.getD es.length ≤ (es.length : Int)) : AStep P o M ρ M (.sl ee.size ((es.take (h.getD es.length).toNat).drop (l.getD 0).toNat)) :=
  .value fun S B β a w _ hs => by
    have hx1 := hs x (by simp [ho, Op.operands])
    rw [hx] at hx1
    have hd := hx1
    obtain ⟨A, n, c, e1, e2, e3, e4, e5, e6⟩ := hx1
    subst e2
    simp only [List.cons.injEq, and_true] at e1
    rw [e1] at hd
    obtain ⟨hu, he⟩ := elemOf_spec ht hT
    obtain ⟨hu', he'⟩ := elem_of hu
    have hsz := run_sizeOf (P := P) (w := w) he
    rw [← he'] at hsz
    have hcut := cut_sat hd (l := (l.getD 0).toNat) (h := (h.getD es.length).toNat) (by omega) (by omega)
    refine ⟨_, ?_, hcut⟩
    have elo : ∀ y, lo = some y → ∃ q n, l = some n ∧ a.eval y = .int q n := fun y hy => by
      subst hy
      have h3 := hs y (by simp [ho, Op.operands])
      simp only [cutLo] at hlo
      split at hlo
      · rename_i q n hq; cases hlo; rw [hq] at h3; exact ⟨q, n, rfl, h3⟩
      · cases hlo
    have ehi : ∀ y, hi = some y → ∃ q n, h = some n ∧ a.eval y = .int q n := fun y hy => by
      subst hy
      have h3 := hs y (by cases lo <;> simp [ho, Op.operands])
      simp only [cutLo] at hhi
      split at hhi
      · rename_i q n hq; cases hhi; rw [hq] at h3; exact ⟨q, n, rfl, h3⟩
      · cases hhi
    simp only [execOp, ho, e1]
    simp only [Sem.run_bind, run_sliceAt_slice _ _ _ _ _ _ hu']
    cases lo with
    | none =>
      simp only [cutLo, Option.some.injEq] at hlo
      subst hlo
      cases hi with
      | none =>
        simp only [cutLo, Option.some.injEq] at hhi
        subst hhi
        have e := run_slice_all (P := P) w T A es.length c hu'
        simp [e, hsz]
      | some y =>
        obtain ⟨q, n', rfl, h3⟩ := ehi y rfl
        simp only [Option.getD_some, Option.getD_none] at h0 h1 h2
        have e := run_slice_h (P := P) w T A es.length c hu' q n' (by omega) (by omega)
        simp [h3, e, hsz]
    | some z =>
      obtain ⟨q0, n0, rfl, h3⟩ := elo z rfl
      cases hi with
      | none =>
        simp only [cutLo, Option.some.injEq] at hhi
        subst hhi
        simp only [Option.getD_some, Option.getD_none] at h0 h1 h2
        have e := run_slice_l (P := P) w T A es.length c hu' q0 n0 h0 (by omega)
        simp [h3, e, hsz]
      | some y =>
        obtain ⟨q, n', rfl, h4⟩ := ehi y rfl
        simp only [Option.getD_some] at h0 h1 h2
        have e := run_slice_lh (P := P) w T A es.length c hu' q0 q n0 n' h0 h1 (by omega)
        simp [h3, h4, e, hsz]

theorem astep_cut_map (ht : TyTab P tab) {α : Type} {f : α → D} {l : List α} {T e : Nat} {ee : TE} {x : Operand} {lo hi : Option Operand} {a b : Option Int} (ho : o.op = .slice T x lo hi none) (hT : elemOf_ tab T = some (e, ee)) (hx : ρ x = .sl ee.size (l.map f)) (hlo : cutLo ρ lo = some a) (hhi : cutLo ρ hi = some b)
    (hb : 0 ≤ a.getD 0 ∧ a.getD 0 ≤ b.getD l.length ∧ b.getD l.length ≤ (l.length : Int)) : AStep P o M ρ M (.sl ee.size (((l.take (b.getD l.length).toNat).drop (a.getD 0).toNat).map f)) := by
  have := astep_cut (P := P) (M := M) (ρ := ρ) ht ho hT hx hlo hhi hb.1 (by simpa using hb.2.1) (by simpa using hb.2.2)
  rw [List.length_map, ← List.map_take, ← List.map_drop] at this
  exact this
theorem astep_store_map (ht : TyTab P tab) {α : Type} {f : α → D} {l : List α} (x0 : α) {T i ver j off e k' : Nat} {te : TE} {xd : D} {x y : Operand} (ho : o.op = .store T x y) (hT : tget tab T = some te) (hx : ρ x = .eptr i ver j off) (hM : M[i]? = some (.row ver e k' (l.map f))) (hj : j < l.length)
    (hy : toD (ρ y) = some xd) (h1c : oneCs (cellsOf (ρ y)) = true) (hsz : xd.width = te.size) (hput : putD xd (f (l[j]'hj)) off = some (f x0)) (hv : sealed ver = false) : AStep P o M ρ (M.set i (.row ver e k' ((l.set j x0).map f))) (.val undef) := by
  rw [List.map_set]
  exact astep_store_e ht ho hT hx hM (map_get hj) hy h1c hsz hput hv

/-- strings.Builder's own check. -/
def selfP : AV := .alt (.val (.pointer none)) (.ptr 0 0)
theorem mcall_check {f : FuncId} {T : TypeId} (hfresh : ∀ b w, w.cell? ⟨b, 0, none⟩ = some (.pointer none) → w.shape? b = some (T, 2) → w.frozen? ⟨b, 0, none⟩ = false →
      Calls P f #[.pointer (some ⟨b, 0, none⟩)] w fun e w' => e = .returned (.tuple #[]) ∧ w' = w.setCell ⟨b, 0, none⟩ (.pointer (some ⟨b, 0, none⟩)))
    (hused : ∀ b w, w.cell? ⟨b, 0, none⟩ = some (.pointer (some ⟨b, 0, none⟩)) → Calls P f #[.pointer (some ⟨b, 0, none⟩)] w fun e w' => e = .returned (.tuple #[]) ∧ w' = w)
    {y : AV} {r : List AB} : MCalls P f (.box T [selfP, y] :: r) [.ptr 0 0] (.box T [selfP, y] :: r) (.tup []) := by
  rintro S B β w vs hm ⟨v, us, e0, hv, e1⟩
  cases e1
  obtain ⟨g, c, hb, hv, _⟩ := hv
  have hvs : vs = #[v] := by apply Array.toList_inj.1; rw [e0]
  subst hvs
  subst hv
  obtain ⟨g', c', cs, hb', hg, v0, us0, e2, h0, v1, us1, e3, h1, e4⟩ := hm.ent 0 _ rfl
  rw [hb] at hb'; cases hb'
  cases e4; cases e3
  have hcs : cs = #[v0, v1] := by apply Array.toList_inj.1; rw [e2]
  subst hcs
  have hc0 : w.cell? ⟨g, 0, none⟩ = some v0 := by simp [World.cell?, hg]
  rcases h0 with h0 | ⟨g1, c1, hb1, h0, _⟩
  · have h0 : v0 = .pointer none := h0
    subst h0
    refine (hfresh g w hc0 (by simp [World.shape?, hg]) (by simp [World.frozen?, hg])).mono ?_
    rintro e w' ⟨rfl, rfl⟩
    have hs' : setE β 0 (some (g, c)) = β := by funext j; by_cases hj : j = 0 <;> simp [setE, hj, hb]
    have hg' : (w.setCell ⟨g, 0, none⟩ (.pointer (some ⟨g, 0, none⟩))).heap[g]? = some (.cells #[.pointer (some ⟨g, 0, none⟩), v1] T (0, 0)) := by
      simp [World.setCell, Array.getElem?_modify, hg]
    have := hm.set_ (i := 0) (w' := w.setCell ⟨g, 0, none⟩ (.pointer (some ⟨g, 0, none⟩))) (ab' := .box T [selfP, y]) (x := some (g, c)) rfl rfl rfl rfl rfl (by simp [World.setCell])
      (fun b _ hne => Below.heap_setCell _ _ _ _ (fun e => hne c (by rw [hb]; simpa using e.symm))) (fun g' c' h => by cases h; exact .inl ⟨c, hb⟩) ⟨rfl, hb.symm⟩
      (fun hE => ⟨g, c, _, rfl, hg', _, _, rfl, .inr ⟨g, c, by rw [hs']; exact hb, rfl, _, rfl, rfl⟩, _, _, rfl, h1.ev hE, rfl⟩)
    rw [hs'] at this
    exact ⟨_, β, rfl, this.1, this.2, #[], rfl, rfl⟩
  · rw [hb] at hb1; cases hb1
    subst h0
    refine (hused g w hc0).mono ?_
    rintro e w' ⟨rfl, rfl⟩
    exact ⟨_, β, rfl, Ev.refl _ _ _, hm, #[], rfl, rfl⟩

/-- unsafe.SliceData, unsafe.String of an own row of bytes. -/
theorem astep_usd {T e' i ver e k : Nat} {es : List D} {x : Operand} (ho : o.op = .call { callee := .builtin .unsafeSliceData, args := #[x], argTypes := #[T] }) (hx : ρ x = .row i ver) (hM : M[i]? = some (.row ver e k es)) (hne : es ≠ []) : AStep P o M ρ M (.eptr i ver 0 0) :=
  .value fun S B β a w hm hs => by
    have h1 := hs x (by simp [ho, Op.operands, Call.operands])
    rw [hx] at h1
    obtain ⟨h2, h3⟩ := row_val hm hM h1
    cases hb : β i with
    | none => exact absurd (h3 hb) hne
    | some gc =>
      obtain ⟨g, c⟩ := gc
      obtain ⟨hw, ⟨h7, _⟩ | ⟨g', c', cs, h7, h8, h9, _⟩⟩ := hm.ent i _ hM
      · rw [hb] at h7; cases h7
      · rw [hb] at h7; cases h7
        have hlen : 0 < es.length := List.length_pos_iff.2 hne
        rw [hb] at h2
        refine ⟨.pointer (some ⟨g, 0, none⟩), ?_, .row ver e k es, hM, Nat.le_refl _, fun _ => ⟨g, c, hb, by simp⟩⟩
        have := Lib.run_unsafeSliceData_row (P := P) w #[T] o.type ⟨g, 0, none⟩ es.length c (by omega)
        simp [execOp, ho, h2, rowVal, resolve, invoke, builtin, this]
/-- A pointer to some place, or nil. -/
def someP (i ver : Nat) : AV := .alt (.val (.pointer none)) (.alt (.eptr i ver 0 0) (.dptr []))
theorem astep_usd0 {T e' i ver e k : Nat} {x : Operand} (hty : P.underlying o.type = some (.pointer e')) (ho : o.op = .call { callee := .builtin .unsafeSliceData, args := #[x], argTypes := #[T] }) (hx : ρ x = .row i ver) (hM : M[i]? = some (.row ver e k [])) : AStep P o M ρ M (someP i ver) :=
  .grows fun S B β a w hm hs => by
    have h1 := hs x (by simp [ho, Op.operands, Call.operands])
    rw [hx] at h1
    obtain ⟨h2, _⟩ := row_val hm hM h1
    cases hb : β i with
    | none =>
      rw [hb] at h2
      refine ⟨.pointer none, w, ?_, Below.refl _ _, fun _ => .inl rfl⟩
      have := Lib.run_unsafeSliceData_nil (P := P) w #[T] o.type 0 0
      simp [execOp, ho, h2, rowVal, resolve, invoke, builtin, this]
    | some gc =>
      obtain ⟨g, c⟩ := gc
      rw [hb] at h2
      obtain ⟨hw, ⟨h7, _⟩ | ⟨g', c', cs, h7, ⟨fz, h8, _⟩, h9, _⟩⟩ := hm.ent i _ hM
      · rw [hb] at h7; cases h7
      · rw [hb] at h7; cases h7
        by_cases hc : c = 0
        · subst hc
          refine ⟨.pointer (some ⟨w.heap.size, 0, none⟩), w.alloc (.view ⟨g, 0, none⟩ e'), ?_, (Below.refl _ _).alloc (Nat.le_refl _) _, fun hE => .inr (.inr ⟨w.heap.size, 0, [], rfl, ⟨.inr hm.lo, by simp, fun hl => ?_⟩, rfl, fun j u hj => by simp at hj⟩)⟩
          · have := Lib.run_unsafeSliceData_zero (P := P) w #[T] o.type e' hty ⟨g, 0, none⟩ 0 (e, cs.size) (by simp [World.shape?, h8])
            simp [execOp, ho, h2, rowVal, resolve, invoke, builtin, this]
          · have := hm.lt hl; omega
        · refine ⟨.pointer (some ⟨g, 0, none⟩), w, ?_, Below.refl _ _, fun _ => .inr (.inl ⟨.row ver e k [], hM, Nat.le_refl _, fun _ => ⟨g, c, hb, by simp⟩⟩)⟩
          have := Lib.run_unsafeSliceData_row (P := P) w #[T] o.type ⟨g, 0, none⟩ 0 c hc
          simp [execOp, ho, h2, rowVal, resolve, invoke, builtin, this]
theorem astep_ustr0 {T U i ver e k : Nat} {x y : Operand} (ho : o.op = .call { callee := .builtin .unsafeString, args := #[x, y], argTypes := #[T, U] }) (hx : ρ x = someP i ver) (hy : ρ y = .val (.int .i64 0)) (hM : M[i]? = some (.row ver e k [])) : AStep P o M ρ M (.val (.string ⟨#[]⟩)) :=
  .value fun S B β a w hm hs => by
    have h1 := hs x (by simp [ho, Op.operands, Call.operands])
    have h2 := hs y (by simp [ho, Op.operands, Call.operands])
    rw [hx] at h1; rw [hy] at h2
    have h2 : a.eval y = .int .i64 0 := h2
    have h3 : ∃ p, a.eval x = .pointer p := by
      rcases h1 with h1 | ⟨ab, k1, k2⟩ | ⟨g, off, cs, k1, _⟩
      · exact ⟨_, h1⟩
      · rw [hM] at k1; cases k1
        obtain ⟨g, c, _, k3⟩ := k2.2 rfl
        exact ⟨_, k3⟩
      · exact ⟨_, k1⟩
    obtain ⟨p, h3⟩ := h3
    refine ⟨.string .empty, ?_, rfl⟩
    have := Lib.run_unsafeString_none (P := P) w T U o.type p
    simp [execOp, ho, h2, h3, resolve, invoke, builtin, this]
theorem astep_ustr {T U i ver e : Nat} {x y : Operand} {l : List UInt8} (ht : P.underlying T = some (.pointer e)) (hce : P.cellsOf e = 1) (ho : o.op = .call { callee := .builtin .unsafeString, args := #[x, y], argTypes := #[T, U] }) (hx : ρ x = .eptr i ver 0 0) (hy : ρ y = .val (.int .i64 (l.map bD).length))
    (hM : M[i]? = some (.row ver e 1 (l.map bD))) (hne : l ≠ []) : AStep P o M ρ (M.set i .gone) (.val (.string ⟨l.toArray⟩)) := by
  intro S B β a w hm hs K Q hK
  have h1 := hs x (by simp [ho, Op.operands, Call.operands])
  have h2 := hs y (by simp [ho, Op.operands, Call.operands])
  rw [hx] at h1; rw [hy] at h2
  rw [List.length_map] at h2
  have h2 : a.eval y = .int .i64 l.length := h2
  obtain ⟨ab, k1, k2⟩ := h1
  rw [hM] at k1; cases k1
  obtain ⟨g, c, hb, k3⟩ := k2.2 rfl
  obtain ⟨hw, ⟨h7, _⟩ | ⟨g', c', cs, h7, h8, h9, h10, h11, h12⟩⟩ := hm.ent i _ hM
  · rw [hb] at h7; cases h7
  rw [hb] at h7; cases h7
  have hrows := DenCs_bytes_eq h12
  have h8' := h8
  obtain ⟨fz, g1, _⟩ := h8'
  rw [List.length_map] at h9
  have hr := Lib.run_unsafeString_row (P := P) w T U o.type e ht hce g cs.size (by simp [World.shape?, g1]) l hne (by omega) (by simp only [maxLen] at h10; omega) (fun j x hj => by
    rw [addr_add, Nat.zero_add, h8.cell]
    have h13 : (cs.toList.take ((l.map bD).length * 1))[j]? = some (.int .u8 x.toNat) := by rw [hrows]; simp [hj]
    rw [List.getElem?_take] at h13
    split at h13
    · simpa using h13
    · cases h13)
  have hrun : (execOp a.eval o).run P w = .ok (.value (.string ⟨l.toArray⟩)) (w.freeze ⟨g, 0, none⟩ l.length) := by
    simp [execOp, ho, h2, k3, resolve, invoke, builtin, hr]
  unfold Oper.wp
  rw [hrun]
  have hsz : (w.freeze ⟨g, 0, none⟩ l.length).heap.size = w.heap.size ∧ (∀ b, b ≠ g → (w.freeze ⟨g, 0, none⟩ l.length).heap[b]? = w.heap[b]?) ∧ (w.freeze ⟨g, 0, none⟩ l.length).os = w.os ∧ (w.freeze ⟨g, 0, none⟩ l.length).tape = w.tape ∧ (w.freeze ⟨g, 0, none⟩ l.length).output = w.output := by
    unfold World.freeze
    split
    · exact ⟨rfl, fun _ _ => rfl, rfl, rfl, rfl⟩
    · refine ⟨by simp, fun b hne => ?_, rfl, rfl, rfl⟩
      simp only [Array.getElem?_modify]
      rw [if_neg (fun e => hne e.symm)]
  have hs' : setE β i (some (g, c)) = β := by funext j; by_cases hj : j = i <;> simp [setE, hj, hb]
  have := hm.set_ (w' := w.freeze ⟨g, 0, none⟩ l.length) (ab' := .gone) (x := some (g, c)) hM rfl hsz.2.2.1 hsz.2.2.2.1 hsz.2.2.2.2 (by rw [hsz.1]; exact Nat.le_refl _)
    (fun b _ hne => hsz.2.1 b (fun e => hne c (by rw [hb, e]))) (fun g' c' h => by cases h; exact .inl ⟨c, hb⟩) trivial (fun _ => trivial)
  rw [hs'] at this
  exact hK _ _ _ this.1 this.2 rfl
end

def i32s : List D → Option (List Int)
  | [] => some []
  | .val (.int .i32 n) :: r => match i32s r with
    | some ns => some (n :: ns)
    | none => none
  | _ => none
theorem i32s_eq : ∀ {es : List D} {ns : List Int}, i32s es = some ns → es = ns.map rD
  | [], ns, h => by cases h; rfl
  | d :: r, ns, h => by
    unfold i32s at h
    split at h
    · rename_i h'; cases h'
    · rename_i n r' h'
      cases h'
      split at h
      · rename_i ns' h1
        cases h
        rw [i32s_eq h1]
        rfl
      · cases h
    · cases h

section
variable {P : Program} {ops : Array Oper} {N : Nat} {K : AS → Prop} {o : Oper} {r : List Oper} {fo fo' : Option (List Nat)} {M M' : List AB} {F : List (Nat × AV)} {dt : Tmp} {tab : List (Nat × TE)} {out : AV}
theorem r_range (ht : TyTab P tab) {T : Nat} {x : Operand} {s : ByteArray} (hg : o.guard = none) (ho : o.op = .range T x) (hT : kindAt tab T = some .str) (hx : aval (look F) x = .val (.string s)) (hdd : o.dst = some dt) (hd : dstB o.dst N = true) (hp : popF fo 2 = some fo')
    (k : RunX P ops N K r fo' (M ++ [.iter s 0]) ((dt, .ptr M.length 0) :: F)) : RunX P ops N K (o :: r) fo M F :=
  RunX.mk (fun _ k => Run.eff hd (StepG.plain hg (astep_range ht ho hT hx)) (by rw [put_eq hdd]; exact k)) hp k
theorem r_next {x : Operand} {i pos : Nat} {s : ByteArray} (hg : o.guard = none) (ho : o.op = .next x true) (hx : aval (look F) x = .ptr i 0) (hM : M[i]? = some (.iter s pos)) (hlt : pos < s.size) (hdd : o.dst = some dt) (hd : dstB o.dst N = true) (hp : popF fo 2 = some fo')
    (k : RunX P ops N K r fo' (M.set i (.iter s (pos + (Utf8.decode s pos).2))) ((dt, .tup [.val (.bool true), .val (.int .i64 pos), .val (.int .i32 (Utf8.decode s pos).1)]) :: F)) : RunX P ops N K (o :: r) fo M F :=
  RunX.mk (fun _ k => Run.eff hd (StepG.plain hg (astep_next ho hx hM hlt)) (by rw [put_eq hdd]; exact k)) hp k
theorem r_next_end {x : Operand} {i pos : Nat} {s : ByteArray} (hg : o.guard = none) (ho : o.op = .next x true) (hx : aval (look F) x = .ptr i 0) (hM : M[i]? = some (.iter s pos)) (hlt : ¬ pos < s.size) (hdd : o.dst = some dt) (hd : dstB o.dst N = true) (hp : popF fo 1 = some fo')
    (k : RunX P ops N K r fo' M ((dt, .tup [.val (.bool false)]) :: F)) : RunX P ops N K (o :: r) fo M F :=
  RunX.mk (fun _ k => Run.quiet hd (StepG.plain hg (astep_next_end ho hx hM hlt)) (by rw [put_eq hdd]; exact k)) hp k
theorem r_nilck {x : Operand} {y : AV} (hg : o.guard = none) (ho : o.op = .nilCheck x) (hx : isPtr (aval (look F) x) = true) (hy : nf (aval (look F) x) = some y) (hdd : o.dst = some dt) (hd : dstB o.dst N = true) (hp : popF fo 0 = some fo')
    (k : RunX P ops N K r fo' M ((dt, y) :: F)) : RunX P ops N K (o :: r) fo M F :=
  RunX.mk (fun _ k => Run.pure_ hd (fun _ => StepG.plain hg (astep_nilCheck ho hx)) (by rw [put_eq hdd, nf_eq hy]; exact k)) hp k
theorem r_rstr (ht : TyTab P tab) {T U : Nat} {x : Operand} {q : IntKind} {n : Int} {tk : TK} (hg : o.guard = none) (ho : o.op = .convert T U x) (hT : kindAt tab T = some tk) (hU : kindAt tab U = some .str) (hx : aval (look F) x = .val (.int q n)) (hdd : o.dst = some dt) (hd : dstB o.dst N = true) (hp : popF fo 0 = some fo')
    (k : RunX P ops N K r fo' M ((dt, .val (.string (Utf8.encode n))) :: F)) : RunX P ops N K (o :: r) fo M F :=
  RunX.mk (fun _ k => Run.pure_ hd (fun _ => StepG.plain hg (astep_rune_str ht ho hT hU hx)) (by rw [put_eq hdd]; exact k)) hp k
theorem r_rsstr (ht : TyTab P tab) {T U e : Nat} {ee : TE} {x : Operand} {es : List D} {ns : List Int} (hg : o.guard = none) (ho : o.op = .convert T U x) (hT : elemOf_ tab T = some (e, ee)) (he : kindAt tab e = some (.int .i32)) (hU : kindAt tab U = some .str)
    (hx : aval (look F) x = .sl 1 es) (hns : i32s es = some ns) (hdd : o.dst = some dt) (hd : dstB o.dst N = true) (hp : popF fo 0 = some fo') (k : RunX P ops N K r fo' M ((dt, .val (.string (runesBytes ns))) :: F)) : RunX P ops N K (o :: r) fo M F :=
  RunX.mk (fun _ k => Run.pure_ hd (fun _ => StepG.plain hg (astep_runes_str ht ho hT he hU (by rw [hx, i32s_eq hns]))) (by rw [put_eq hdd]; exact k)) hp k
theorem r_bstr' (ht : TyTab P tab) {T U e : Nat} {ee : TE} {x : Operand} {l : List UInt8} (hg : o.guard = none) (ho : o.op = .convert T U x) (hT : elemOf_ tab T = some (e, ee)) (he : kindAt tab e = some (.int .u8)) (hU : kindAt tab U = some .str)
    (hx : aval (look F) x = .sl 1 (l.map bD)) (hdd : o.dst = some dt) (hd : dstB o.dst N = true) (hp : popF fo 0 = some fo') (k : RunX P ops N K r fo' M ((dt, .val (.string ⟨l.toArray⟩)) :: F)) : RunX P ops N K (o :: r) fo M F :=
  RunX.mk (fun _ k => Run.pure_ hd (fun _ => StepG.plain hg (astep_bytes_str' ht ho hT he hU hx)) (by rw [put_eq hdd]; exact k)) hp k
theorem r_rowstr (ht : TyTab P tab) {T U e i ver e' : Nat} {ee : TE} {x : Operand} {l : List UInt8} (hg : o.guard = none) (ho : o.op = .convert T U x) (hT : elemOf_ tab T = some (e, ee)) (he : kindAt tab e = some (.int .u8)) (hU : kindAt tab U = some .str)
    (hx : aval (look F) x = .row i ver) (hM : M[i]? = some (.row ver e' 1 (l.map bD))) (hdd : o.dst = some dt) (hd : dstB o.dst N = true) (hp : popF fo 1 = some fo') (k : RunX P ops N K r fo' M ((dt, .val (.string ⟨l.toArray⟩)) :: F)) : RunX P ops N K (o :: r) fo M F :=
  RunX.mk (fun _ k => Run.quiet hd (StepG.plain hg (astep_row_str ht ho hT he hU hx hM)) (by rw [put_eq hdd]; exact k)) hp k
theorem r_strb (ht : TyTab P tab) {T U e : Nat} {ee : TE} {x : Operand} {s : ByteArray} (hg : o.guard = none) (ho : o.op = .convert T U x) (hT : kindAt tab T = some .str) (hU : elemOf_ tab U = some (e, ee)) (he : kindAt tab e = some (.int .u8)) (hx : aval (look F) x = .val (.string s)) (hb : s.size ≤ 9223372036854775807)
    (hdd : o.dst = some dt) (hd : dstB o.dst N = true) (hp : popF fo 2 = some fo') (k : RunX P ops N K r fo' (M ++ [.row 0 e 1 (s.data.toList.map bD)]) ((dt, .row M.length 0) :: F)) : RunX P ops N K (o :: r) fo M F :=
  RunX.mk (fun _ k => Run.eff hd (StepG.plain hg (astep_str_bytes ht ho hT hU he hx hb)) (by rw [put_eq hdd]; exact k)) hp k
theorem r_strd (ht : TyTab P tab) {T U e : Nat} {ee : TE} {x : Operand} {s : ByteArray} (hg : o.guard = none) (ho : o.op = .convert T U x) (hT : kindAt tab T = some .str) (hU : elemOf_ tab U = some (e, ee)) (he : kindAt tab e = some (.int .u8)) (hx : aval (look F) x = .val (.string s)) (hb : s.size ≤ 9223372036854775807)
    (hdd : o.dst = some dt) (hd : dstB o.dst N = true) (hp : popF fo 1 = some fo') (k : RunX P ops N K r fo' M ((dt, .sl 1 (s.data.toList.map bD)) :: F)) : RunX P ops N K (o :: r) fo M F :=
  RunX.mk (fun _ k => Run.quiet hd (StepG.plain hg (astep_str_data ht ho hT hU he hx hb)) (by rw [put_eq hdd]; exact k)) hp k
/-- Elements of own rows. -/
theorem r_idxr (ht : TyTab P tab) {T e i ver e' : Nat} {ee : TE} {es : List D} {x y : Operand} {q : IntKind} {n : Int} (hg : o.guard = none) (ho : o.op = .indexAddr T x y) (hT : elemOf_ tab T = some (e, ee)) (hx : aval (look F) x = .row i ver) (hM : M[i]? = some (.row ver e' ee.size es))
    (hy : aval (look F) y = .val (.int q n)) (hdd : o.dst = some dt) (hd : dstB o.dst N = true) (hn : 0 ≤ n ∧ n.toNat < es.length) (hp : popF fo 1 = some fo') (k : RunX P ops N K r fo' M ((dt, .eptr i ver n.toNat 0) :: F)) : RunX P ops N K (o :: r) fo M F :=
  RunX.mk (fun _ k => Run.quiet hd (StepG.plain hg (astep_idx_row ht ho hT hx hM hy hn.1 hn.2)) (by rw [put_eq hdd]; exact k)) hp k
theorem r_lde (ht : TyTab P tab) {α : Type} {f : α → D} {l : List α} {T i ver j off e k' : Nat} {te : TE} {x : Operand} (hg : o.guard = none) (ho : o.op = .load T x) (hT : tget tab T = some te) (hx : aval (look F) x = .eptr i ver j off) (hM : M[i]? = some (.row ver e k' (l.map f))) (hj : j < l.length)
    (hl : ldAV te ((f (l[j]'hj)).cells.drop off) = some out) (hdd : o.dst = some dt) (hd : dstB o.dst N = true) (hp : popF fo 1 = some fo') (k : RunX P ops N K r fo' M ((dt, out) :: F)) : RunX P ops N K (o :: r) fo M F :=
  RunX.mk (fun _ k => Run.quiet hd (StepG.plain hg (astep_load_e ht ho hT hx hM (map_get hj) (ldAV_eq hl))) (by rw [put_eq hdd]; exact k)) hp k
theorem r_idxr_cnd (ht : TyTab P tab) {jg : Nat} {want c0 : Bool} {g : Tmp} {T e i ver e' : Nat} {ee : TE} {es : List D} {x y : Operand} {q : IntKind} {n : Int} (hg : o.guard = some (jg, want)) (hj : dstOf ops jg = some g) (hF : guardOf want (look F g) = some c0) (ho : o.op = .indexAddr T x y) (hT : elemOf_ tab T = some (e, ee))
    (hx : aval (fun t => strip (look F t)) x = .row i ver) (hM : M[i]? = some (.row ver e' ee.size es)) (hy : aval (fun t => strip (look F t)) y = .val (.int q n)) (hcs : c0 = true → condsOf (look F) o.op.operands.toList = true) (hdd : o.dst = some dt) (hd : dstB o.dst N = true) (hn : c0 = true → 0 ≤ n ∧ n.toNat < es.length)
    (hp : popF fo 1 = some fo') (k : RunX P ops N K r fo' M ((dt, .cnd c0 (.eptr i ver n.toNat 0)) :: F)) : RunX P ops N K (o :: r) fo M F :=
  RunX.mk (fun _ k => Run.quiet hd (StepG.cnd hg hj hF hcs fun h => astep_idx_row ht ho hT hx hM hy (hn h).1 (hn h).2) (by rw [put_eq hdd]; exact k)) hp k
theorem r_lde_cnd (ht : TyTab P tab) {jg : Nat} {want c0 : Bool} {g : Tmp} {α : Type} {f : α → D} {l : List α} {T i ver j off e k' : Nat} {te : TE} {x : Operand} (hg : o.guard = some (jg, want)) (hj : dstOf ops jg = some g) (hF : guardOf want (look F g) = some c0) (ho : o.op = .load T x) (hT : tget tab T = some te)
    (hx : aval (fun t => strip (look F t)) x = .eptr i ver j off) (hM : M[i]? = some (.row ver e k' (l.map f))) (hcs : c0 = true → condsOf (look F) o.op.operands.toList = true) (hjl : j < l.length)
    (hl : ldAV te ((f (l[j]'hjl)).cells.drop off) = some out) (hdd : o.dst = some dt) (hd : dstB o.dst N = true) (hp : popF fo 1 = some fo') (k : RunX P ops N K r fo' M ((dt, .cnd c0 out) :: F)) : RunX P ops N K (o :: r) fo M F :=
  RunX.mk (fun _ k => Run.quiet hd (StepG.cnd hg hj hF hcs fun _ => astep_load_e ht ho hT hx hM (map_get hjl) (ldAV_eq hl)) (by rw [put_eq hdd]; exact k)) hp k
/-- A write into an element: what the element becomes is said. -/
theorem r_ste (ht : TyTab P tab) {α : Type} {f : α → D} {l : List α} (x0 : α) {T i ver j off e k' : Nat} {te : TE} {xd : D} {x y : Operand} (hg : o.guard = none) (ho : o.op = .store T x y) (hT : tget tab T = some te) (hx : aval (look F) x = .eptr i ver j off) (hM : M[i]? = some (.row ver e k' (l.map f))) (hj : j < l.length)
    (hy : toD (aval (look F) y) = some xd) (h1c : oneCs (cellsOf (aval (look F) y)) = true) (hsz : xd.width = te.size) (hput : putD xd (f (l[j]'hj)) off = some (f x0)) (hdd : o.dst = none) (hp : popF fo 2 = some fo')
    (k : RunX P ops N K r fo' (M.set i (.row ver e k' ((l.set j x0).map f))) F) (hv : sealed ver = false := by rfl) : RunX P ops N K (o :: r) fo M F :=
  RunX.mk (fun _ k => Run.eff (by rw [hdd]; rfl) (StepG.plain hg (astep_store_map ht x0 ho hT hx hM hj hy h1c hsz hput hv)) (by rw [put_none hdd]; exact k)) hp k
theorem r_cut (ht : TyTab P tab) {α : Type} {f : α → D} {l : List α} {T e : Nat} {ee : TE} {x : Operand} {lo hi : Option Operand} {a b : Option Int} (hg : o.guard = none) (ho : o.op = .slice T x lo hi none) (hT : elemOf_ tab T = some (e, ee)) (hx : aval (look F) x = .sl ee.size (l.map f)) (hlo : cutLo (aval (look F)) lo = some a) (hhi : cutLo (aval (look F)) hi = some b)
    (hdd : o.dst = some dt) (hd : dstB o.dst N = true) (hb : 0 ≤ a.getD 0 ∧ a.getD 0 ≤ b.getD l.length ∧ b.getD l.length ≤ (l.length : Int)) (hp : popF fo 0 = some fo') (k : RunX P ops N K r fo' M ((dt, .sl ee.size (((l.take (b.getD l.length).toNat).drop (a.getD 0).toNat).map f)) :: F)) : RunX P ops N K (o :: r) fo M F :=
  RunX.mk (fun _ k => Run.pure_ hd (fun _ => StepG.plain hg (astep_cut_map ht ho hT hx hlo hhi hb)) (by rw [put_eq hdd]; exact k)) hp k
/-- A call that is handed own memory. -/
theorem r_mcall {f : FuncId} {xs : Array Operand} {ts : Array TypeId} {M0 M1 M'' : List AB} {cargs : List AV} {res out : AV} (σ : List Nat) (hc : MCalls P f M0 cargs M1 res) (hcall : Callable P f) (hg : o.guard = none) (ho : o.op = .call { callee := .value (.func f), args := xs, argTypes := ts })
    (hemb : EmbM M (nth σ) σ M0) (hnd : σ.Nodup) (hargs : Subs (xs.toList.map (aval (look F))) (AV.rens (nth σ) cargs)) (hn : M1.length = M0.length) (hu : (AV.unders σ.length cargs && M0.all (AB.under σ.length)) = true)
    (hM' : setAll M σ (M1.map (AB.ren (nth σ))) = M'') (hr : nf (res.ren (nth σ)) = some out) (hdd : o.dst = some dt) (hd : dstB o.dst N = true) (hp : popF fo 2 = some fo') (k : RunX P ops N K r fo' M'' ((dt, out) :: F)) : RunX P ops N K (o :: r) fo M F := by
  subst hM'
  exact RunX.mk (fun _ k => Run.eff hd (StepG.plain hg (astep_mcall σ ho hcall hc hemb hnd hargs hn hu)) (by rw [put_eq hdd, nf_eq hr]; exact k)) hp k
theorem r_usd {T i ver e k' : Nat} {es : List D} {x : Operand} (hne : es ≠ []) (hg : o.guard = none) (ho : o.op = .call { callee := .builtin .unsafeSliceData, args := #[x], argTypes := #[T] }) (hx : aval (look F) x = .row i ver) (hM : M[i]? = some (.row ver e k' es)) (hdd : o.dst = some dt) (hd : dstB o.dst N = true) (hp : popF fo 1 = some fo')
    (k : RunX P ops N K r fo' M ((dt, .eptr i ver 0 0) :: F)) : RunX P ops N K (o :: r) fo M F :=
  RunX.mk (fun _ k => Run.quiet hd (StepG.plain hg (astep_usd (e' := 0) ho hx hM hne)) (by rw [put_eq hdd]; exact k)) hp k
theorem r_usd0 {T i ver e e' k' : Nat} {x : Operand} (hty : P.underlying o.type = some (.pointer e')) (hg : o.guard = none) (ho : o.op = .call { callee := .builtin .unsafeSliceData, args := #[x], argTypes := #[T] }) (hx : aval (look F) x = .row i ver) (hM : M[i]? = some (.row ver e k' [])) (hdd : o.dst = some dt) (hd : dstB o.dst N = true) (hp : popF fo 1 = some fo')
    (k : RunX P ops N K r fo' M ((dt, someP i ver) :: F)) : RunX P ops N K (o :: r) fo M F :=
  RunX.mk (fun _ k => Run.quiet hd (StepG.plain hg (astep_usd0 hty ho hx hM)) (by rw [put_eq hdd]; exact k)) hp k
theorem r_ustr0 {T U i ver e k' : Nat} {x y : Operand} (hg : o.guard = none) (ho : o.op = .call { callee := .builtin .unsafeString, args := #[x, y], argTypes := #[T, U] }) (hx : aval (look F) x = someP i ver) (hy : aval (look F) y = .val (.int .i64 0)) (hM : M[i]? = some (.row ver e k' [])) (hdd : o.dst = some dt) (hd : dstB o.dst N = true) (hp : popF fo 1 = some fo')
    (k : RunX P ops N K r fo' M ((dt, .val (.string ⟨#[]⟩)) :: F)) : RunX P ops N K (o :: r) fo M F :=
  RunX.mk (fun _ k => Run.quiet hd (StepG.plain hg (astep_ustr0 ho hx hy hM)) (by rw [put_eq hdd]; exact k)) hp k
theorem r_ustr {T U i ver e : Nat} {x y : Operand} {l : List UInt8} (hne : l ≠ []) (ht : P.underlying T = some (.pointer e)) (hce : P.cellsOf e = 1) (hg : o.guard = none) (ho : o.op = .call { callee := .builtin .unsafeString, args := #[x, y], argTypes := #[T, U] }) (hx : aval (look F) x = .eptr i ver 0 0) (hy : aval (look F) y = .val (.int .i64 (l.map bD).length))
    (hM : M[i]? = some (.row ver e 1 (l.map bD))) (hdd : o.dst = some dt) (hd : dstB o.dst N = true) (hp : popF fo 2 = some fo') (k : RunX P ops N K r fo' (M.set i .gone) ((dt, .val (.string ⟨l.toArray⟩)) :: F)) : RunX P ops N K (o :: r) fo M F :=
  RunX.mk (fun _ k => Run.eff hd (StepG.plain hg (astep_ustr ht hce ho hx hy hM hne)) (by rw [put_eq hdd]; exact k)) hp k
/-- The start of a walk that is handed own memory; its ends. -/
theorem m_start {f : FuncId} {fn : Func} {c : Code} {M0 M1 : List AB} {args : List AV} {res : AV} {N : Nat} {F : List (Nat × AV)} (hf : P.funcs[f]? = some fn) (hN : fn.ntmps = N) (hb : fn.body = some c) (hF : nfF (argF 0 args) = some F) (hok : Nat.ble args.length N = true)
    (h : ∀ S w β, AWp ⟨P, N, S, w, M0, β, none⟩ c ⟨M0, F⟩ (retM P fn M0.length M1 res)) : MCalls P f M0 args M1 res := mcalls_of hf hN hb hF hok h
theorem retM0 {fn : Func} {n : Nat} {e : Exit} {M M1 : List AB} {F : List (Nat × AV)} (he : e = .normal ∨ e = .ret) (hr : fn.results.toList = []) (hM : M.take n = M1) (hu : M1.all (AB.under n) = true) : retM P fn n M1 (.tup []) e ⟨M, F⟩ :=
  ⟨he, hM, hu, [], by rw [hr]; exact .nil, Sub.refl _⟩
theorem retM1 {fn : Func} {n : Nat} {res x : AV} {e : Exit} {M M1 : List AB} {F : List (Nat × AV)} {t : Tmp} (he : e = .normal ∨ e = .ret) (hr : fn.results.toList = [.tmp t]) (hx : nf (look F t) = some x) (hf : x.under n = true) (hM : M.take n = M1) (hu : M1.all (AB.under n) = true) (h : Sub x res) : retM P fn n M1 res e ⟨M, F⟩ :=
  ⟨he, hM, hu, [x], by rw [hr]; exact .cons (.tmp (by rw [nf_eq hx]; exact Sub.refl _) (by rw [nf_eq hx]; exact hf)) .nil, h⟩
theorem retM1_row {fn : Func} {n : Nat} {res : AV} {e : Exit} {M M1 : List AB} {F : List (Nat × AV)} {t : Tmp} {i ver E k : Nat} {es : List D} (he : e = .normal ∨ e = .ret) (hr : fn.results.toList = [.tmp t]) (hx : look F t = .row i ver) (hMi : M[i]? = some (.row ver E k es)) (hi : Nat.ble n i = true) (hM : M.take n = M1) (hu : M1.all (AB.under n) = true)
    (h : Sub (.sl k es) res) : retM P fn n M1 res e ⟨M, F⟩ :=
  ⟨he, hM, hu, [.sl k es], by rw [hr]; exact .cons (.row hx hMi hi) .nil, h⟩
end
section
variable {P : Program} {o : Oper} {M M' : List AB} {ρ : Operand → AV} {out : AV} {tab : List (Nat × TE)}
theorem ptr_of {P : Program} {T e : Nat} (h : P.underlying T = some (.pointer e)) : P.underlying T = some (.pointer (P.pointee T)) := by
  have : P.pointee T = e := by simp [Program.pointee, h]
  rw [this]
  exact h
theorem astep_eqnil_ptr {T U e i off : Nat} {x y : Operand} (hT : P.underlying T = some (.pointer e)) (ho : o.op = .binOp .eql T x y U) (hx : ρ x = .ptr i off) (hy : ρ y = .val (.pointer none)) : AStep P o M ρ M (.val (.bool false)) :=
  .value fun S B β a w _ hs => by
    have h1 := hs x (by simp [ho, Op.operands])
    have h2 := hs y (by simp [ho, Op.operands])
    rw [hx] at h1; rw [hy] at h2
    obtain ⟨g, c, _, h3, _⟩ := h1
    have h2 : a.eval y = .pointer none := h2
    have := run_eql_pointer_nil (P := P) w T (some ⟨g, off, none⟩) (ptr_of hT)
    exact ⟨.bool false, by simp [execOp, ho, h2, h3, eqGuard, this], rfl⟩
theorem astep_eqnil_nil {T U e : Nat} {x y : Operand} (hT : P.underlying T = some (.pointer e)) (ho : o.op = .binOp .eql T x y U) (hx : ρ x = .val (.pointer none)) (hy : ρ y = .val (.pointer none)) : AStep P o M ρ M (.val (.bool true)) :=
  .value fun S B β a w _ hs => by
    have h1 := hs x (by simp [ho, Op.operands])
    have h2 := hs y (by simp [ho, Op.operands])
    rw [hx] at h1; rw [hy] at h2
    have h1 : a.eval x = .pointer none := h1
    have h2 : a.eval y = .pointer none := h2
    have := run_eql_pointer_nil (P := P) w T none (ptr_of hT)
    exact ⟨.bool true, by simp [execOp, ho, h2, h1, eqGuard, this], rfl⟩
theorem astep_neqself (ht : TyTab P tab) {T U e i off : Nat} {te : TE} {x y : Operand} (hT : P.underlying T = some (.pointer e)) (he : tget tab e = some te) (ho : o.op = .binOp .neq T x y U) (hx : ρ x = .ptr i off) (hy : ρ y = .ptr i off) : AStep P o M ρ M (.val (.bool false)) :=
  .value fun S B β a w _ hs => by
    have h1 := hs x (by simp [ho, Op.operands])
    have h2 := hs y (by simp [ho, Op.operands])
    rw [hx] at h1; rw [hy] at h2
    obtain ⟨g, c, h4, h3, _⟩ := h1
    obtain ⟨g', c', h4', h3', _⟩ := h2
    rw [h4] at h4'; cases h4'
    obtain ⟨d, j, z, _, _, hi, _⟩ := teOf_spec (ht.get he)
    have := Lib.run_neq_ptr_same (P := P) w ⟨g, off, none⟩ hT hi
    exact ⟨.bool false, by simp [execOp, ho, h3, h3', eqGuard, this], rfl⟩
theorem astep_tounsafe (ht : TyTab P tab) {T U e i k : Nat} {te : TE} {x : Operand} {cells : List AV} (hT : P.underlying T = some (.pointer e)) (hU : P.underlying U = some .unsafePointer) (he : tget tab e = some te) (ho : o.op = .convert T U x) (hx : ρ x = .ptr i 0) (hM : M[i]? = some (.box k cells))
    (hsz : (Nat.blt 0 te.size && Nat.blt 0 cells.length) = true) : AStep P o M ρ M (.ptr i 0) :=
  .value fun S B β a w hm hs => by
    have h1 := hs x (by simp [ho, Op.operands])
    rw [hx] at h1
    have h1' := h1
    obtain ⟨g, c, h4, h3, _⟩ := h1
    obtain ⟨g', c', cs, h5, h6, h7⟩ := box_cells hm hM
    rw [h4] at h5; cases h5
    rw [Bool.and_eq_true, Nat.blt_eq, Nat.blt_eq] at hsz
    obtain ⟨d, j, z, _, _, hi, hjs, _⟩ := teOf_spec (ht.get he)
    have hl := h7.len
    have := Lib.run_to_unsafe (P := P) w ⟨g, 0, none⟩ hT hU hi (by omega) (e := k) (cells := cs.size) (by simp [World.shape?, h6]) (by simp at hl ⊢; omega)
    rw [h3] at h1'
    exact ⟨_, by simp only [execOp, ho, h3, Sem.run_bind, this]; rfl, h1'⟩
theorem astep_fromunsafe (ht : TyTab P tab) {T U e i k : Nat} {te : TE} {x : Operand} {cells : List AV} (hT : P.underlying T = some .unsafePointer) (hU : P.underlying U = some (.pointer e)) (he : tget tab e = some te) (ho : o.op = .convert T U x) (hx : ρ x = .ptr i 0) (hM : M[i]? = some (.box k cells))
    (hlies : liesAt P P.depth k (cells.length / P.cellsOf k) 0 e 1 = true) : AStep P o M ρ M (.ptr i 0) :=
  .value fun S B β a w hm hs => by
    have h1 := hs x (by simp [ho, Op.operands])
    rw [hx] at h1
    have h1' := h1
    obtain ⟨g, c, h4, h3, _⟩ := h1
    obtain ⟨g', c', cs, h5, h6, h7⟩ := box_cells hm hM
    rw [h4] at h5; cases h5
    obtain ⟨d, j, z, _, _, hi, hjs, _⟩ := teOf_spec (ht.get he)
    have hl := h7.len
    have := Lib.run_from_unsafe (P := P) w ⟨g, 0, none⟩ hT hU hi (e := k) (cells := cs.size) (by simp [World.shape?, h6]) (by rw [← Array.length_toList, hl]; exact hlies)
    rw [h3] at h1'
    exact ⟨_, by simp only [execOp, ho, h3, Sem.run_bind, this]; rfl, h1'⟩
theorem run_ext {f : FuncId} {w w' : World} {v : Value} {xs : Array Operand} {ts : Array TypeId} (ho : o.op = .call { callee := .value (.func f), args := xs, argTypes := ts }) (a : Act) (h : (callFunc f (xs.map a.eval)).run P w = .ok (.value v) w') :
    (execOp a.eval o).run P w = .ok (.value v) w' := by
  simp [execOp, ho, resolve, Deferred.ofValue, Act.eval, invoke, h]
theorem astep_noescape {f : FuncId} {fn : Func} {xs : Operand} {ts : Array TypeId} (hf : P.funcs[f]? = some fn) (hname : (fn.name == "runtime.NumGoroutine") = false) (hb : fn.body.isNone = true) (hn : Extern.findNext fn = none) (he : Extern.find fn = some Extern.AbiNoEscape.same)
    (ho : o.op = .call { callee := .value (.func f), args := #[xs], argTypes := ts }) : AStep P o M ρ M (ρ xs) :=
  .value fun S B β a w hm hs => by
    have h1 := hs xs (by simp [ho, Op.operands, Call.operands])
    have hr := run_callFunc_extern hf hname hb hn he (#[xs].map a.eval) w
    have e : (Extern.AbiNoEscape.same (#[xs].map a.eval)).run P w = .ok (a.eval xs) w := by
      have : #[xs].map a.eval = #[a.eval xs] := by simp
      rw [this]
      exact Lib.run_noEscape w _
    rw [e] at hr
    exact ⟨_, run_ext ho a hr, h1⟩
end
section
variable {P : Program} {ops : Array Oper} {N : Nat} {K : AS → Prop} {o : Oper} {r : List Oper} {fo fo' : Option (List Nat)} {M M' : List AB} {F : List (Nat × AV)} {dt : Tmp} {tab : List (Nat × TE)} {out : AV}
/-- An operation that turns no memory of ours, by its own law. -/
theorem r_by {x : AV} (hs : ∀ M, AStep P o M (aval (look F)) M x) (hg : o.guard = none) (hx : nf x = some out) (hdd : o.dst = some dt) (hd : dstB o.dst N = true) (hp : popF fo 0 = some fo') (k : RunX P ops N K r fo' M ((dt, out) :: F)) : RunX P ops N K (o :: r) fo M F :=
  RunX.mk (fun _ k => Run.pure_ hd (fun _ => StepG.plain hg (hs _)) (by rw [put_eq hdd, nf_eq hx]; exact k)) hp k
theorem r_by1 {x : AV} (hs : AStep P o M (aval (look F)) M x) (hg : o.guard = none) (hx : nf x = some out) (hdd : o.dst = some dt) (hd : dstB o.dst N = true) (hp : popF fo 1 = some fo') (k : RunX P ops N K r fo' M ((dt, out) :: F)) : RunX P ops N K (o :: r) fo M F :=
  RunX.mk (fun _ k => Run.quiet hd (StepG.plain hg hs) (by rw [put_eq hdd, nf_eq hx]; exact k)) hp k
end
/-- The first cell of a first box, said otherwise. -/
theorem box_swap {T : TypeId} {x z : AV} {l : List AV} {r : List AB} {S : Nat → Prop} {B : Nat} {β : Env} {w : World} (hm : MemSat S B (.box T (x :: l) :: r) β w)
    (hz : ∀ v, AVsat (.box T (x :: l) :: r) β w (immOf S B (.box T (x :: l) :: r) β w) x v → β 0 ≠ none → (∀ g c cs us, β 0 = some (g, c) → w.heap[g]? = some (.cells cs T (0, 0)) → cs.toList = v :: us → AVsat (.box T (x :: l) :: r) β w (immOf S B (.box T (x :: l) :: r) β w) z v)) :
    Ev (.box T (x :: l) :: r) β w (.box T (z :: l) :: r) β w ∧ MemSat S B (.box T (z :: l) :: r) β w := by
  have hEv : Ev (.box T (x :: l) :: r) β w (.box T (z :: l) :: r) β w := ⟨rfl, rfl, rfl, Nat.le_refl _, fun _ _ _ => rfl, fun b ⟨i, ab, c, h1, h2, h3⟩ => by
    cases i with
    | zero => exact .inl ⟨0, _, c, rfl, rfl, h3⟩
    | succ i => exact .inl ⟨i + 1, ab, c, h1, h2, h3⟩, fun i ab hi => by
    cases i with
    | zero => cases hi; exact ⟨_, rfl, rfl, rfl⟩
    | succ i => exact ⟨ab, hi, EvE.refl _ _⟩⟩
  obtain ⟨g, c, cs, k1, k2, v, us, k3, k4, k5⟩ := hm.ent 0 _ rfl
  have hz' := hz v k4 (by rw [k1]; simp) g c cs us k1 k2 k3
  refine ⟨hEv, hm.lo, fun i j ab ab' g c c' h1 h2 h3 l1 l2 l3 => ?_, fun i ab hi => ?_, fun b ⟨i, ab, c, h1, h2, h3⟩ => hm.own b (by
      cases i with
      | zero => exact ⟨0, _, c, rfl, rfl, h3⟩
      | succ i => exact ⟨i + 1, ab, c, h1, h2, h3⟩)⟩
  · have old : ∀ (i : Nat) (ab : AB), (AB.box T (z :: l) :: r)[i]? = some ab → ab.alive = true → ∃ ab', (AB.box T (x :: l) :: r)[i]? = some ab' ∧ ab'.alive = true := by
      intro i ab hi ha
      cases i with
      | zero => exact ⟨_, rfl, rfl⟩
      | succ i => exact ⟨ab, hi, ha⟩
    obtain ⟨y1, p1, p2⟩ := old i ab h1 h2
    obtain ⟨y2, q1, q2⟩ := old j ab' l1 l2
    exact hm.inj i j y1 y2 g c c' p1 p2 h3 q1 q2 l3
  · cases i with
    | zero =>
      cases hi
      have : AVsats (.box T (x :: l) :: r) β w (immOf S B (.box T (x :: l) :: r) β w) (z :: l) cs.toList := ⟨v, us, k3, hz', k5⟩
      exact ⟨g, c, cs, k1, k2, this.ev hEv⟩
    | succ i => exact EntSat.ev hEv (fun _ _ _ _ => rfl) (hm.ent (i + 1) ab hi)
/-- A box that may point to itself: each state served, and told as may be. -/
theorem mcall_self {P : Program} {f : FuncId} {T : TypeId} {l l' : List AV} {r r' : List AB} {args : List AV} {res : AV} (h : MCalls P f (.box T (.val (.pointer none) :: l) :: r) args (.box T (.ptr 0 0 :: l') :: r') res)
    (h' : MCalls P f (.box T (.ptr 0 0 :: l) :: r) args (.box T (.ptr 0 0 :: l') :: r') res) : MCalls P f (.box T (selfP :: l) :: r) args (.box T (selfP :: l') :: r') res := by
  intro S B β w vs hm hvs
  obtain ⟨g, c, cs, k1, k2, v, us, k3, k4, k5⟩ := hm.ent 0 _ rfl
  have fin : ∀ z : AV, AVsat (.box T (selfP :: l) :: r) β w (immOf S B (.box T (selfP :: l) :: r) β w) z v → MCalls P f (.box T (z :: l) :: r) args (.box T (.ptr 0 0 :: l') :: r') res →
      Calls P f vs w fun e w' => ∃ v β', e = .returned v ∧ Ev (.box T (selfP :: l) :: r) β w (.box T (selfP :: l') :: r') β' w' ∧ MemSat S B (.box T (selfP :: l') :: r') β' w' ∧ AVsat (.box T (selfP :: l') :: r') β' w' (immOf S B (.box T (selfP :: l') :: r') β' w') res v := by
    intro z hz hc
    obtain ⟨e1, e2⟩ := box_swap (z := z) hm fun v' _ _ g' c' cs' us' q1 q2 q3 => by
      rw [k1] at q1; cases q1
      rw [k2] at q2; cases q2
      rw [k3] at q3; cases q3
      exact hz
    refine (hc S B β w vs e2 (hvs.ev e1)).mono ?_
    rintro e w' ⟨u, β', rfl, p2, p3, p4⟩
    obtain ⟨e3, e4⟩ := box_swap (z := selfP) p3 fun v' q _ _ _ _ _ _ _ _ => .inr q
    exact ⟨u, β', rfl, (e1.trans p2).trans e3, e4, p4.ev e3⟩
  rcases k4 with k4 | k4
  · exact fin _ k4 h
  · exact fin _ k4 h'
/-- A walk's end, said otherwise first. -/
def retF (cx : Cx) (P : Program) (fn : Func) (n : Nat) (M1 : List AB) (res : AV) (e : Exit) (s : AS) : Prop := ∃ s', Fits cx s s' ∧ retM P fn n M1 res e s'
theorem m_startF {P : Program} {f : FuncId} {fn : Func} {c : Code} {M0 M1 : List AB} {args : List AV} {res : AV} {N : Nat} {F : List (Nat × AV)} (hf : P.funcs[f]? = some fn) (hN : fn.ntmps = N) (hb : fn.body = some c) (hF : nfF (argF 0 args) = some F) (hok : Nat.ble args.length N = true)
    (h : ∀ S w β, AWp ⟨P, N, S, w, M0, β, none⟩ c ⟨M0, F⟩ (retF ⟨P, N, S, w, M0, β, none⟩ P fn M0.length M1 res)) : MCalls P f M0 args M1 res :=
  mcalls_of hf hN hb hF hok fun S w β a w' hs => wpIn_mono (h S w β a w' hs) fun e a'' w'' ⟨s1, ⟨s2, h1, h2⟩, h3⟩ => ⟨s2, h2, h1 _ _ h3⟩
theorem retF1 {cx : Cx} {P : Program} {fn : Func} {n : Nat} {res x : AV} {e : Exit} {M M1 : List AB} {F : List (Nat × AV)} {t : Tmp} (M' : List AB) (F' : List (Nat × AV)) (hfits : Fits cx ⟨M, F⟩ ⟨M', F'⟩) (he : e = .normal ∨ e = .ret) (hr : fn.results.toList = [.tmp t]) (hx : nf (look F' t) = some x) (hf : x.under n = true)
    (hM : M'.take n = M1) (hu : M1.all (AB.under n) = true) (h : Sub x res) : retF cx P fn n M1 res e ⟨M, F⟩ := ⟨_, hfits, retM1 he hr hx hf hM hu h⟩
section
variable {P : Program} {o : Oper} {M M' : List AB} {ρ : Operand → AV} {out : AV} {tab : List (Nat × TE)}
theorem freeze_facts {w : World} {g : Nat} {cs : Array Value} {e : TypeId} {fz : Nat × Nat} (hg : w.heap[g]? = some (.cells cs e fz)) (off n : Nat) : ∃ fz', (w.freeze ⟨g, off, none⟩ n).heap[g]? = some (.cells cs e fz') ∧ (w.freeze ⟨g, off, none⟩ n).heap.size = w.heap.size ∧
    (∀ b, b ≠ g → (w.freeze ⟨g, off, none⟩ n).heap[b]? = w.heap[b]?) ∧ (w.freeze ⟨g, off, none⟩ n).os = w.os ∧ (w.freeze ⟨g, off, none⟩ n).tape = w.tape ∧ (w.freeze ⟨g, off, none⟩ n).output = w.output := by
  unfold World.freeze
  split
  · exact ⟨fz, hg, rfl, fun _ _ => rfl, rfl, rfl, rfl⟩
  · obtain ⟨lo, hi⟩ := fz
    refine ⟨_, by simp only [Array.getElem?_modify, hg]; simp; rfl, by simp, fun b hne => ?_, rfl, rfl, rfl⟩
    simp only [Array.getElem?_modify]
    rw [if_neg (fun e => hne e.symm)]
/-- []byte of a constant: the row is marked, and let go as data. -/
theorem astep_mark (ht : TyTab P tab) {T e i ver k : Nat} {ee : TE} {x : Operand} {es : List D} (ho : o.op = .convert T T x) (hT : elemOf_ tab T = some (e, ee)) (he : kindAt tab e = some (.int .u8)) (hx : ρ x = .row i ver) (hM : M[i]? = some (.row ver e k es)) (hne : es ≠ []) :
    AStep P o M ρ (M.set i .gone) (.sl k es) := by
  intro S B β a w hm hs K Q hK
  have h1 := hs x (by simp [ho, Op.operands])
  rw [hx] at h1
  obtain ⟨h2, h3⟩ := row_val hm hM h1
  obtain ⟨hw, ⟨h7, h7'⟩ | ⟨g, c, cs, h7, h8, h9, h10, h11, h12⟩⟩ := hm.ent i _ hM
  · exact absurd h7' hne
  rw [h7] at h2
  have h8' := h8
  obtain ⟨fz, g1, _⟩ := h8'
  obtain ⟨fz', f1, f2, f3, f4, f5, f6⟩ := freeze_facts g1 cs.size 1
  have hrun : (execOp a.eval o).run P w = .ok (.value (.slice (some ⟨g, 0, none⟩) es.length c)) (w.freeze ⟨g, cs.size, none⟩ 1) := by
    have hsh : w.shape? g = some (e, cs.size) := by simp [World.shape?, g1]
    simp [execOp, ho, h2, rowVal, convert, run_underlying (elemOf_spec ht hT).1, run_underlying (kindAt_int ht he), markStringish, hsh]
  unfold Oper.wp
  rw [hrun]
  have hs' : setE β i (some (g, c)) = β := by funext j; by_cases hj : j = i <;> simp [setE, hj, h7]
  have := hm.set_ (w' := w.freeze ⟨g, cs.size, none⟩ 1) (ab' := .gone) (x := some (g, c)) hM rfl f4 f5 f6 (by rw [f2]; exact Nat.le_refl _)
    (fun b _ hne => f3 b (fun e => hne c (by rw [h7, e]))) (fun g' c' h => by cases h; exact .inl ⟨c, h7⟩) trivial (fun _ => trivial)
  rw [hs'] at this
  have hlt : i < M.length := (List.getElem?_eq_some_iff.1 hM).1
  have hgw : g < w.heap.size := heap_lt g1
  refine hK _ _ _ this.1 this.2 ⟨some ⟨g, 0, none⟩, es.length, c, rfl, rfl, h9, h10, hw, fun _ => ⟨g, 0, _, rfl, ⟨hm.own g ⟨i, _, c, hM, rfl, h7⟩, by rw [f2]; exact hgw, ?_⟩, DenCs.mono (fun _ => immOf.ev this.1) (fun _ off => immOf.cell this.1 off) _ _ h12, fun j u hj => ?_⟩⟩
  · rintro ⟨j, ab', c', k1, k2, k3⟩
    by_cases hji : j = i
    · subst hji
      rw [List.getElem?_set_self hlt] at k1
      cases k1
      cases k2
    · rw [List.getElem?_set_ne (Ne.symm hji)] at k1
      exact hji (hm.inj j i _ _ g c' c k1 k2 k3 hM rfl h7)
  · rw [Nat.zero_add, cell_of_row _ _ _ _ _ _ f1]
    rw [List.getElem?_take] at hj
    split at hj
    · simpa using hj
    · cases hj
end
section
variable {P : Program} {ops : Array Oper} {N : Nat} {K : AS → Prop} {o : Oper} {r : List Oper} {fo fo' : Option (List Nat)} {M M' : List AB} {F : List (Nat × AV)} {dt : Tmp} {tab : List (Nat × TE)} {out : AV}
theorem r_mark (ht : TyTab P tab) {T e i ver k' : Nat} {ee : TE} {x : Operand} {es : List D} (hg : o.guard = none) (ho : o.op = .convert T T x) (hT : elemOf_ tab T = some (e, ee)) (he : kindAt tab e = some (.int .u8)) (hx : aval (look F) x = .row i ver) (hM : M[i]? = some (.row ver e k' es)) (hne : es ≠ [])
    (hdd : o.dst = some dt) (hd : dstB o.dst N = true) (hp : popF fo 2 = some fo') (k : RunX P ops N K r fo' (M.set i .gone) ((dt, .sl k' es) :: F)) : RunX P ops N K (o :: r) fo M F :=
  RunX.mk (fun _ k => Run.eff hd (StepG.plain hg (astep_mark ht ho hT he hx hM hne)) (by rw [put_eq hdd]; exact k)) hp k
end
end Go.Proofs.Ytajbbcnfohbieaa
