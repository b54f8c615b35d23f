/- The engine: places in arrays; results that are cells; blocks without zeros; closures let go. -/
import Derived.Lib.MakeNoZero
import Derived.Laws.IdiomCopy
import Derived.Test.YtajbbcnfohbieaaZb
import Derived.Test.YtajbbcnfohbieaaCb
namespace Go.Proofs.Ytajbbcnfohbieaa
open Go Go.RowKit

def arrOf (tab : List (Nat × TE)) (T : Nat) : Option (Nat × Nat × TE) :=
  match tget tab T with
  | some te => match te.kind with
    | .array n e => match tget tab e with
      | some ee => some (n, e, ee)
      | none => none
    | _ => none
  | none => none
theorem arrOf_spec {P : Program} {tab : List (Nat × TE)} (ht : TyTab P tab) {T n e : Nat} {ee : TE} (h : arrOf tab T = some (n, e, ee)) : P.underlying T = some (.array n e) ∧ teOf P e = some ee := by
  unfold arrOf at h
  split at h
  · rename_i te hte
    split at h
    · rename_i n' e' hk
      split at h
      · rename_i ee' hee
        cases h
        obtain ⟨d, i', z, hd, hkd, _⟩ := teOf_spec (ht.get hte)
        cases d <;> simp [kindOf, hk] at hkd
        obtain ⟨rfl, rfl⟩ := hkd
        exact ⟨hd, ht.get hee⟩
      · cases h
    · cases h
  · cases h
section
variable {P : Program} {o : Oper} {M M' : List AB} {ρ : Operand → AV} {out : AV} {tab : List (Nat × TE)}
theorem astep_idxa (ht : TyTab P tab) {T n e : Nat} {ee : TE} {x y : Operand} {q : IntKind} {c : Int} (ho : o.op = .indexAddr T x y) (hT : arrOf tab T = some (n, e, ee)) (hy : ρ y = .val (.int q c)) (hc : 0 ≤ c ∧ c < n)
    (hx : shiftP (c.toNat * ee.size) (ρ x) = some out) (hne : ∀ i ver j o, ρ x ≠ .eptr i ver j o) : AStep P o M ρ M out :=
  .value fun S B β a w _ hs => by
    have h1 := hs x (by simp [ho, Op.operands])
    have h2 := hs y (by simp [ho, Op.operands])
    rw [hy] at h2
    have h2 : a.eval y = .int q c := h2
    obtain ⟨hu, he⟩ := arrOf_spec ht hT
    obtain ⟨g, o', h3 | ⟨i, ver, j, o', h3⟩⟩ := shiftP_sat hx h1
    · refine ⟨_, ?_, h3.2⟩
      simp [execOp, ho, h2, h3.1, Instr.indexAt, asIntOf, run_underlying hu, Instr.sureAddr, hc, run_sizeOf he, addr_add]
    · exact absurd h3 (hne _ _ _ _)
/-- A block of whatever bytes, none of which is looked at. -/
def nzV (n : Nat) : Nat → Option (Nat × Nat) → Nat → Value → Prop := fun _ b _ v => ∃ g c, b = some (g, c) ∧ v = .slice (some ⟨g, 0, none⟩) n c
theorem astep_nozero {f : FuncId} {fn : Func} {x : Operand} {ts : Array TypeId} {t e : TypeId} {ps : Array TypeId} {n : Nat} (hf : P.funcs[f]? = some fn) (hname : (fn.name == "runtime.NumGoroutine") = false) (hb : fn.body.isNone = true) (hn : Extern.findNext fn = none) (he : Extern.find fn = some (Extern.BytealgMakeNoZero.makeNoZero ps #[t]))
    (ht : P.underlying t = some (.slice e)) (ho : o.op = .call { callee := .value (.func f), args := #[x], argTypes := ts }) (hx : ρ x = .val (.int .i64 n)) (hle : n ≤ 281474976710656) :
    AStep P o M ρ (M ++ [.row 1 e 1 []]) (.vw M.length 1 (nzV n)) := by
  intro S B β a w hm hs K Q hK
  have h1 := hs x (by simp [ho, Op.operands, Call.operands])
  rw [hx] at h1
  have h1 : a.eval x = .int .i64 n := h1
  have hr := run_callFunc_extern hf hname hb hn he (#[x].map a.eval) w
  have e1 : #[x].map a.eval = #[.int .i64 n] := by simp [h1]
  rw [e1] at hr
  obtain ⟨cs, hrun, hle1, hle2⟩ := Lib.run_makeNoZero (P := P) w ps t e ht n hle
  rw [hrun] at hr
  have hb' : Below w.heap.size w (w.drew.drew.alloc (.cells cs e)) := (((Below.refl _ w).drew).drew).alloc (Nat.le_refl _) _
  obtain ⟨k1, k2⟩ := hm.push (ab := .row 1 e 1 []) (x := some (w.heap.size, cs.size)) hb' (fun g c h => by cases h; exact Nat.le_refl _)
    (fun hE => ⟨fun d hd => by simp at hd, .inr ⟨w.heap.size, cs.size, cs, rfl, .of0 (heap_alloc_new w.drew.drew _), Nat.zero_le _, hle2 (by simp only [maxLen]; omega), by simp, by simp [DenCs]⟩⟩)
  unfold Oper.wp
  have hex : (execOp a.eval o).run P w = .ok (.value (.slice (some ⟨w.heap.size, 0, none⟩) n cs.size)) (w.drew.drew.alloc (.cells cs e)) := by
    refine run_ext ho a ?_
    rw [e1]
    exact hr
  rw [hex]
  exact hK _ _ _ k1 k2 ⟨.row 1 e 1 [], by simp, Nat.le_refl _, fun _ => ⟨w.heap.size, cs.size, by simp, rfl⟩⟩
theorem astep_vwcut {T e i ver n k e' : Nat} {x y : Operand} {q : IntKind} {ee : TE} (ht : TyTab P tab) (ho : o.op = .slice T x none (some y) none) (hT : elemOf_ tab T = some (e, ee)) (hx : ρ x = .vw i ver (nzV n)) (hy : ρ y = .val (.int q 0)) (hM : M[i]? = some (.row ver e' k [])) : AStep P o M ρ M (.row i ver) :=
  .value fun S B β a w _ hs => by
    have h1 := hs x (by simp [ho, Op.operands])
    have h2 := hs y (by simp [ho, Op.operands])
    rw [hx] at h1; rw [hy] at h2
    have h2 : a.eval y = .int q 0 := h2
    obtain ⟨ab, k1, k2⟩ := h1
    rw [hM] at k1; cases k1
    obtain ⟨g, c, k3, k4⟩ := k2.2 rfl
    obtain ⟨hu, he⟩ := elemOf_spec ht hT
    obtain ⟨hu', he'⟩ := elem_of hu
    have hsz := run_sizeOf (P := P) (w := w) he
    rw [← he'] at hsz
    refine ⟨rowVal (β i) 0, ?_, _, hM, Nat.le_refl _, fun _ => rfl⟩
    have e := run_slice_h (P := P) w T (some ⟨g, 0, none⟩) n c hu' q 0 (Int.le_refl _) (by omega)
    simp only [execOp, ho, k4, Sem.run_bind, run_sliceAt_slice _ _ _ _ _ _ hu']
    simp [h2, e, hsz, k3, rowVal, sliced, addr_add]
theorem astep_copy0 {T U e i ver k e' : Nat} {x y : Operand} {A : Option Addr} {n c : Nat} {ee : TE} (ht : TyTab P tab) (ho : o.op = .call { callee := .builtin .copy, args := #[x, y], argTypes := #[T, U] }) (hT : elemOf_ tab T = some (e, ee)) (h1e : (P.info? e).map (·.size) = some 1) (hx : ρ x = .row i ver) (hM : M[i]? = some (.row ver e' k [])) (hy : ρ y = .val (.slice A n c)) :
    AStep P o M ρ M (.val (.int .i64 0)) :=
  .value fun S B β a w hm hs => by
    have h1 := hs x (by simp [ho, Op.operands, Call.operands])
    have h2 := hs y (by simp [ho, Op.operands, Call.operands])
    rw [hx] at h1; rw [hy] at h2
    have h2 : a.eval y = .slice A n c := h2
    obtain ⟨h3, h4⟩ := row_val hm hM h1
    obtain ⟨A', c', h5⟩ := rowVal_form (β i) 0 (fun _ => rfl)
    rw [show ([] : List D).length = 0 from rfl] at h3
    rw [h5] at h3
    have e := run_copy_none (P := P) w T U o.type e A' A 0 c' n c (elemOf_spec ht hT).1 h1e (by simp)
    exact ⟨.int .i64 0, by simp [execOp, ho, h2, h3, resolve, invoke, builtin, e, goInt], rfl⟩
theorem astep_cap0 {T e : Nat} {x : Operand} {ee : TE} (ht : TyTab P tab) (ho : o.op = .call { callee := .builtin .cap, args := #[x], argTypes := #[T] }) (hT : elemOf_ tab T = some (e, ee)) (hx : ρ x = .val (.slice none 0 0)) : AStep P o M ρ M (.val (.int .i64 0)) :=
  .value fun S B β a w hm hs => by
    have h1 := hs x (by simp [ho, Op.operands, Call.operands])
    rw [hx] at h1
    have h1 : a.eval x = .slice none 0 0 := h1
    exact ⟨.int .i64 0, by simp [execOp, ho, h1, resolve, invoke, builtin, Builtin.cap_, run_underlying (elemOf_spec ht hT).1, goInt], rfl⟩
end
section
variable {P : Program} {ops : Array Oper} {N : Nat} {K : AS → Prop} {o : Oper} {r : List Oper} {fo fo' : Option (List Nat)} {M M' : List AB} {F : List (Nat × AV)} {dt : Tmp} {tab : List (Nat × TE)} {out : AV}
theorem r_idxa (ht : TyTab P tab) {T n e : Nat} {ee : TE} {x y : Operand} {q : IntKind} {c : Int} (hg : o.guard = none) (ho : o.op = .indexAddr T x y) (hT : arrOf tab T = some (n, e, ee)) (hy : aval (look F) y = .val (.int q c)) (hc : (Nat.ble 0 0 && decide (0 ≤ c) && decide (c < n)) = true)
    (hx : shiftP (c.toNat * ee.size) (aval (look F) x) = some out) (hdd : o.dst = some dt) (hd : dstB o.dst N = true) (hp : popF fo 0 = some fo') (k : RunX P ops N K r fo' M ((dt, out) :: F)) (hne : ∀ i ver j o, aval (look F) x ≠ .eptr i ver j o := by intro _ _ _ _ h; cases h) : RunX P ops N K (o :: r) fo M F :=
  RunX.mk (fun _ k => Run.pure_ hd (fun _ => StepG.plain hg (astep_idxa ht ho hT hy (by simpa using hc) hx hne)) (by rw [put_eq hdd]; exact k)) hp k
theorem r_idxa_cnd (ht : TyTab P tab) {j : Nat} {want c0 : Bool} {g : Tmp} {T n e : Nat} {ee : TE} {x y : Operand} {q : IntKind} {c : Int} (hg : o.guard = some (j, want)) (hj : dstOf ops j = some g) (hF : guardOf want (look F g) = some c0) (ho : o.op = .indexAddr T x y) (hT : arrOf tab T = some (n, e, ee)) (hy : aval (fun t => strip (look F t)) y = .val (.int q c)) (hc : (Nat.ble 0 0 && decide (0 ≤ c) && decide (c < n)) = true)
    (hx : shiftP (c.toNat * ee.size) (aval (fun t => strip (look F t)) x) = some out) (hdd : o.dst = some dt) (hd : dstB o.dst N = true) (hcs : c0 = true → condsOf (look F) o.op.operands.toList = true) (hp : popF fo 0 = some fo') (k : RunX P ops N K r fo' M ((dt, .cnd c0 out) :: F)) (hne : ∀ i ver j o, aval (fun t => strip (look F t)) x ≠ .eptr i ver j o := by intro _ _ _ _ h; cases h) : RunX P ops N K (o :: r) fo M F :=
  RunX.mk (fun _ k => Run.pure_ hd (fun _ => StepG.cnd hg hj hF hcs fun _ => astep_idxa ht ho hT hy (by simpa using hc) hx hne) (by rw [put_eq hdd]; exact k)) hp k
/-- A call that is handed own memory and hands back more of it. -/
theorem r_mcallx {f : FuncId} {xs : Array Operand} {ts : Array TypeId} {M0 M1 M'' : List AB} {cargs : List AV} {res out : AV} (σ : List Nat) (k0 : Nat) (hc : MCalls P f M0 cargs M1 res) (hcall : Callable P f) (hg : o.guard = none) (ho : o.op = .call { callee := .value (.func f), args := xs, argTypes := ts })
    (hemb : EmbM M (nth (σ ++ List.range' M.length k0)) σ M0) (hnd : σ.Nodup) (hσ : ∀ i ∈ σ, i < M.length) (hargs : Subs (xs.toList.map (aval (look F))) (AV.rens (nth (σ ++ List.range' M.length k0)) cargs)) (hn : M1.length = M0.length + k0) (hu : (AV.unders σ.length cargs && M0.all (AB.under σ.length)) = true)
    (hM' : setAll M σ ((M1.take M0.length).map (AB.ren (nth (σ ++ List.range' M.length k0)))) ++ (M1.drop M0.length).map (AB.ren (nth (σ ++ List.range' M.length k0))) = M'') (hr : nf (res.ren (nth (σ ++ List.range' M.length k0))) = some out) (hdd : o.dst = some dt) (hd : dstB o.dst N = true) (hp : popF fo 2 = some fo') (k : RunX P ops N K r fo' M'' ((dt, out) :: F)) : RunX P ops N K (o :: r) fo M F := by
  subst hM'
  have hlen := hemb.len
  have hl1 : (setAll M σ ((M1.take M0.length).map (AB.ren (nth (σ ++ List.range' M.length k0))))).length = M.length := setAll_len
  have hnd2 : (σ ++ List.range' M.length k0).Nodup := by
    rw [List.nodup_append]
    refine ⟨hnd, List.nodup_range', fun a ha b hb e => ?_⟩
    have h1 := hσ a ha
    simp only [List.mem_range'_1] at hb
    omega
  refine RunX.mk (fun _ k => Run.eff hd (StepG.plain hg (astep_mcallx σ (goes_f hcall ho) hc (σ ++ List.range' M.length k0) hemb (by simp) hnd2 (by simp; omega) (by simp [List.all_eq_true, List.mem_range'_1]; intro x h1 _; exact h1) (fun j hj => ?_) (fun i hi => ?_) hargs (by omega) hu)) (by rw [put_eq hdd, nf_eq hr]; exact k)) hp k
  · rcases Nat.lt_or_ge j σ.length with h | h
    · have e : (σ ++ List.range' M.length k0)[j]? = some σ[j] := by rw [List.getElem?_append_left h, List.getElem?_eq_getElem h]
      rw [nth_of e, List.getElem?_append_left (by rw [hl1]; exact hσ _ (List.getElem_mem h)), setAll_at hnd (by rw [List.length_map, List.length_take]; omega) (List.getElem?_eq_getElem h) (hσ _ (List.getElem_mem h)), List.getElem?_map, List.getElem?_take_of_lt (by omega)]
    · have hj2 : j - σ.length < k0 := by simp at hj; omega
      have e : (σ ++ List.range' M.length k0)[j]? = some (M.length + (j - σ.length)) := by rw [List.getElem?_append_right h, List.getElem?_range' hj2]; simp
      rw [nth_of e, List.getElem?_append_right (by rw [hl1]; omega), hl1, Nat.add_sub_cancel_left, List.getElem?_map, List.getElem?_drop]
      congr 2
      omega
  · have h1 : i ∉ σ := fun h => hi (by simp [h])
    rcases Nat.lt_or_ge i M.length with h | h
    · rw [List.getElem?_append_left (by rw [hl1]; exact h), setAll_ne h1]
    · have h2 : M.length + k0 ≤ i := by
        have : i ∉ List.range' M.length k0 := fun h => hi (by simp only [List.mem_append]; exact .inr h)
        simp only [List.mem_range'_1] at this
        omega
      rw [List.getElem?_eq_none (by simp only [List.length_append, hl1, List.length_map, List.length_drop]; omega), List.getElem?_eq_none (by omega)]
end
/-- A box that a closure has caught is let go: from now on it is data. -/
theorem fits_sink {cx : Cx} {M : List AB} {F : List (Nat × AV)} {i d T : Nat} {f : FuncId} {l : List AV} (hM : M[i]? = some (.box T l)) (hfr : AV.frees l = true) (hd : look F d = .cl f [.ptr i 0]) : Fits cx ⟨M, F⟩ ⟨M.set i .gone, (d, .cl f [.dptr l]) :: F⟩ := by
  rintro a w ⟨h1, h2, β, h3, h4, h5⟩
  obtain ⟨e1, e2⟩ := h3.let_go hM rfl
  refine ⟨h1, h2, β, e2, h4.trans e1, fun t => ?_⟩
  cases hb : Nat.beq d t with
  | false =>
    simp only [look, hb, cond_false]
    exact (h5 t).ev e1
  | true =>
    have := Nat.eq_of_beq_eq_true hb
    subst this
    simp only [look, hb, cond_true]
    have h6 := h5 d
    simp only at h6
    rw [hd] at h6
    obtain ⟨cs, hv, v, r, hcs, ⟨g, c, hβ, hvp, ab, _, _⟩, hr⟩ := h6
    refine ⟨cs, hv, v, r, hcs, ?_, hr⟩
    obtain ⟨g', c', bs, k1, k2, k3⟩ := h3.ent i _ hM
    rw [hβ] at k1; cases k1
    have hlive : live M β g := ⟨i, _, c, hM, rfl, hβ⟩
    refine ⟨g, 0, bs.toList, hvp, ⟨h3.own g hlive, heap_lt k2, ?_⟩, AVsats.free_ (fun _ => immOf.ev e1) (fun _ _ _ => rfl) _ _ hfr k3, fun j u hj => ?_⟩
    · rintro ⟨j, ab', c'', q1, q2, q3⟩
      by_cases e : j = i
      · subst e
        rw [List.getElem?_set_self (List.getElem?_eq_some_iff.1 hM).1] at q1
        cases q1; cases q2
      · rw [List.getElem?_set_ne (Ne.symm e)] at q1
        exact e (h3.inj j i _ _ g c'' c q1 q2 q3 hM rfl hβ)
    · rw [Nat.zero_add, cell_of_row w g j bs T (0, 0) k2]
      simpa using hj
/-- An own box that is not written any more, let go: what points to it reads it. -/
theorem fits_sinkp {cx : Cx} {M : List AB} {F : List (Nat × AV)} {i d T : Nat} {l : List AV} (hM : M[i]? = some (.box T l)) (hfr : AV.frees l = true) (hd : look F d = .ptr i 0) : Fits cx ⟨M, F⟩ ⟨M.set i .gone, (d, .dptr l) :: F⟩ := by
  rintro a w ⟨h1, h2, β, h3, h4, h5⟩
  obtain ⟨e1, e2⟩ := h3.let_go hM rfl
  refine ⟨h1, h2, β, e2, h4.trans e1, fun t => ?_⟩
  cases hb : Nat.beq d t with
  | false =>
    simp only [look, hb, cond_false]
    exact (h5 t).ev e1
  | true =>
    have := Nat.eq_of_beq_eq_true hb
    subst this
    simp only [look, hb, cond_true]
    have h6 := h5 d
    simp only at h6
    rw [hd] at h6
    obtain ⟨g, c, hβ, hvp, ab, _, _⟩ := h6
    obtain ⟨g', c', bs, k1, k2, k3⟩ := h3.ent i _ hM
    rw [hβ] at k1; cases k1
    have hlive : live M β g := ⟨i, _, c, hM, rfl, hβ⟩
    refine ⟨g, 0, bs.toList, hvp, ⟨h3.own g hlive, heap_lt k2, ?_⟩, AVsats.free_ (fun _ => immOf.ev e1) (fun _ _ _ => rfl) _ _ hfr k3, fun j u hj => ?_⟩
    · rintro ⟨j, ab', c'', q1, q2, q3⟩
      by_cases e : j = i
      · subst e
        rw [List.getElem?_set_self (List.getElem?_eq_some_iff.1 hM).1] at q1
        cases q1; cases q2
      · rw [List.getElem?_set_ne (Ne.symm e)] at q1
        exact e (h3.inj j i _ _ g c'' c q1 q2 q3 hM rfl hβ)
    · rw [Nat.zero_add, cell_of_row w g j bs T (0, 0) k2]
      simpa using hj
/-- A result that is a variable. -/
theorem ret1c {P : Program} {fn : Func} {res x : AV} {e : Exit} {M : List AB} {F : List (Nat × AV)} {t : Tmp} {ty : TypeId} {te : TE} {i off e' : Nat} {cells : List AV} {tab : List (Nat × TE)} (ht : TyTab P tab) (he : e = .normal ∨ e = .ret) (hr : fn.results.toList = [.cell t ty]) (hte : tget tab ty = some te)
    (hp : look F t = .ptr i off) (hM : M[i]? = some (.box e' cells)) (hx : loadAV te (cells.drop off) = some x) (hf : x.free = true) (h : Sub x res) : retQ P fn res e ⟨M, F⟩ :=
  ⟨he, [x], by rw [hr]; exact .cons (.cell (ht.get hte) hp hM hx hf) .nil, h⟩
end Go.Proofs.Ytajbbcnfohbieaa
