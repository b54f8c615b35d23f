import Derived.Test.YtbjinibmkkmhkaaDoorZ
/- The engine, part 22: append of a string onto an own row of bytes. -/
namespace Go.Proofs.YtbjinibmkkmhkaaDoor
open Go Go.RowKit

section
variable {P : Program} {o : Oper} {M M' : List AB} {ρ : Operand → AV} {out : AV} {tab : List (Nat × TE)}
/-- append of a string onto an own row of bytes. -/
theorem run_append_str_c {w : World} (t u ty e : TypeId) (i : TypeInfo) (ht : P.underlying t = some (.slice e)) (hu : P.underlying u = some .string) (hi : P.info? e = some i) (hz : i.zero = some (.int .u8 0)) (hsize : i.size = 1) (hby : i.bytes = 1)
    (v : Value) (n : Nat) (xs : List Value) {q : Nat} (hown : ownsC w e 1 q v n xs) (s : ByteArray) (h63 : n + s.size ≤ maxLen) (hbytes : n + s.size ≤ 140737488355328) :
    ∃ v' w', (Builtin.append_ #[t, u] ty #[v, .string s]).run P w = .ok v' w' ∧ ownsC w' e 1 q v' (n + s.size) (xs ++ Lib.strCells s) ∧ w.grownBy w' v.ownBlock ∧ (v'.ownBlock = v.ownBlock ∨ ∀ g, v'.ownBlock = some g → w.heap.size ≤ g) := by
  have hsl := Lib.strCells_length s
  rcases hown.2 with ⟨rfl, rfl⟩ | ⟨g, cap, cur, rfl, hg, hnc, hcm, hcs, htake⟩
  · obtain ⟨v', w', h1, h2, h3, h4⟩ := Lib.run_append_own_string (P := P) w w.heap.size t u ty e i ht hu hi hz hsize hby (.slice none 0 0) 0 xs ⟨hown.1, .inl ⟨rfl, rfl⟩⟩ s h63 hbytes (Nat.le_refl _)
    refine ⟨v', w', h1, ⟨h2.1, ?_⟩, h3, ?_⟩
    · rcases h2.2 with h | ⟨g, cap, cur, k1, _, k2, k3, k4, k5, k6⟩
      · exact .inl h
      · exact .inr ⟨g, cap, cur, k1, .of0 k2, k3, k4, k5, k6⟩
    · rcases h2.2 with ⟨h, _⟩ | ⟨g, cap, cur, k1, k0, _⟩
      · exact .inl (by rw [h])
      · exact .inr fun g' hg' => by rw [k1] at hg'; simp [Value.ownBlock] at hg'; omega
  · have hsmall : n + s.size ≤ 9223372036854775807 := by simp only [maxLen] at h63; omega
    have hxl : xs.length = n := by simpa using hown.1
    have hlen : (xs ++ Lib.strCells s).length = (n + s.size) * 1 := by rw [List.length_append, hxl, hsl, Nat.mul_one]
    have hcs' : cur.size = cap := by simpa using hcs
    by_cases hroom : n + s.size ≤ cap
    · obtain ⟨fz, hg1, hg2⟩ := hg
      have hf := Lib.run_firstCells_string (P := P) w 1 s
      have hst := run_storeCells_c P g n e fz (Lib.strCells s) 0 cur w hg1 (fun j h1 h2 => hg2.from_ j (by omega) h2) (by rw [hsl]; omega) (Lib.strCells_oneCell s)
      simp only [Nat.add_zero, hsl] at hst
      refine ⟨.slice (some ⟨g, 0, none⟩) (n + s.size) cap, w.setRow g (cur.toList.take n ++ Lib.strCells s ++ cur.toList.drop (n + s.size)).toArray, ?_, ⟨hlen, .inr ⟨g, cap, _, rfl, ⟨fz, setRow_heap w g cur _ e _ hg1, ?_⟩, hroom, hcm, ?_, ?_⟩⟩, ⟨rfl, rfl, rfl, by simp, fun k _ hk => setRow_other w g k _ (fun e => hk (by simp [Value.ownBlock, e]))⟩, Or.inl rfl⟩
      · simp [Builtin.append_, run_underlying ht, run_underlying hu, sizeOf, typeInfo, hi, hsize, Builtin.lenOf, hroom, hf, Addr.add_lit, hst]
      · refine hg2.mono rfl (by omega) ?_
        simp only [List.size_toArray, List.length_append, List.length_take, List.length_drop, Array.length_toList, hsl]
        omega
      · simp only [List.size_toArray, List.length_append, List.length_take, List.length_drop, Array.length_toList, hsl]
        omega
      · have ht' : cur.toList.take n = xs := by simpa using htake
        rw [ht', ← hlen]
        exact List.take_left
    · have holds : ∀ j u, xs[j]? = some u → w.cell? ((⟨g, 0, none⟩ : Addr).add j) = some u := hown.cells (g := g) rfl
      have hr := Lib.run_append_grow_string (P := P) w t u ty e i (.int .u8 0) ht hu hi hz ⟨g, 0, none⟩ n cap xs (by rw [hsize]; simpa using hxl) holds s (by omega) (by omega) (by rw [hby]; exact growslice_fits (by omega) (by omega))
      have hge := grownCap_ge w (n + s.size) cap e
      have hcm2 : grownCap w (n + s.size) cap e ≤ maxLen := grownCap_le_maxLen w (n + s.size) cap e h63
      refine ⟨_, _, hr, ⟨hlen, .inr ⟨w.heap.size, _, _, rfl, .of0 (heap_alloc_new w.drew _), hge, hcm2, ?_, ?_⟩⟩, ⟨rfl, rfl, rfl, by simp, fun k hk _ => heap_alloc_old w.drew _ hk⟩, .inr fun g' hg' => by simp [Value.ownBlock] at hg'; omega⟩
      · have hz1 : (Value.int IntKind.u8 0).cells.size = 1 := rfl
        simp only [Array.size_append, List.size_toArray, size_zeroCells, hz1, hxl, hsl]
        omega
      · simp only [Array.toList_append, List.append_assoc]
        rw [← List.append_assoc, ← hlen]
        exact List.take_left
theorem astep_append_str (ht : TyTab P tab) {T U e : Nat} {ee : TE} {x y : Operand} {i ver : Nat} {l : List UInt8} {s : ByteArray} (ho : o.op = .call { callee := .builtin .append, args := #[x, y], argTypes := #[T, U] }) (hT : elemOf_ tab T = some (e, ee)) (he : (P.info? e).map (fun i => (i.zero, i.size, i.bytes)) = some (some (.int .u8 0), 1, 1)) (hU : kindAt tab U = some .str)
    (hx : ρ x = .row i ver) (hM : M[i]? = some (.row ver e 1 (l.map bD))) (hy : ρ y = .val (.string s)) (hb : l.length + s.size ≤ 140737488355328) :
    AStep P o M ρ (M.set i (.row (ver + 2) e 1 ((l ++ s.data.toList).map bD))) (.row i (ver + 2)) := by
  intro S B β a w hm hs K Q hK
  have hlt : i < M.length := (List.getElem?_eq_some_iff.1 hM).1
  have h1 := hs x (by simp [ho, Op.operands, Call.operands])
  have h2 := hs y (by simp [ho, Op.operands, Call.operands])
  rw [hx] at h1; rw [hy] at h2
  have h2 : a.eval y = .string s := h2
  obtain ⟨h3, h4⟩ := row_val hm hM h1
  obtain ⟨xs0, w1, w2, w3⟩ := owns_of_ent (hm.ent i _ hM)
  rw [← h3] at w1 w3
  obtain ⟨hu, hee⟩ := elemOf_spec ht hT
  obtain ⟨ti, hi, he2⟩ := Option.map_eq_some_iff.1 he
  simp only [Prod.mk.injEq] at he2
  obtain ⟨hz, hsz, hby⟩ := he2
  rw [List.length_map] at w1
  obtain ⟨v', w', r1, r2, r3, r4⟩ := run_append_str_c (P := P) T U o.type e ti hu (kindAt_str ht hU) hi hz hsz hby _ _ xs0 w1 s (by simp only [maxLen]; omega) hb
  have hrun : (execOp a.eval o).run P w = .ok (.value v') w' := by
    simp [execOp, ho, resolve, invoke, builtin, h2, r1]
  unfold Oper.wp
  rw [hrun]
  have hfit : ∀ (M1 : List AB) (β1 : Env) (imm1 : Nat → Prop), DenCs w' imm1 ((l ++ s.data.toList).map bD) (xs0 ++ Lib.strCells s) → EntSat M1 β1 w' imm1 (envOf v') (.row (ver + 2) e 1 ((l ++ s.data.toList).map bD)) ∧ v' = rowVal (envOf v') ((l ++ s.data.toList).map bD).length ∧ (envOf v').map (·.1) = v'.ownBlock :=
    fun M1 β1 imm1 hd => ent_of_owns (by omega) r2 rfl (by rw [List.length_map, List.length_append, str_size]) (bD_all _) hd
  have hblk : ∀ g c, envOf v' = some (g, c) → v'.ownBlock = some g := by
    intro g c h
    rcases r2.2 with ⟨rfl, _⟩ | ⟨g', cap, cur, rfl, _⟩
    · cases h
    · simp [envOf] at h
      rw [← h.1]; rfl
  have hden : ∀ (imm1 : Nat → Prop), DenCs w' imm1 (l.map bD) xs0 → DenCs w' imm1 ((l ++ s.data.toList).map bD) (xs0 ++ Lib.strCells s) := fun imm1 h => by
    rw [List.map_append]
    exact h.append (DenCs_bytes w' imm1 s.data.toList)
  have := hm.set_ (w' := w') (ab' := .row (ver + 2) e 1 ((l ++ s.data.toList).map bD)) (x := envOf v') hM rfl r3.os r3.tape r3.output r3.size
    (fun b hb hne => r3.block b hb (fun e' => by
      rw [w3] at e'
      cases hβ : β i with
      | none => rw [hβ] at e'; cases e'
      | some gc => rw [hβ] at e'; cases e'; exact hne gc.2 hβ))
    (fun g c h => by
      have h5 := hblk g c h
      rcases r4 with r4 | r4
      · rw [r4, w3] at h5
        cases hβ : β i with
        | none => rw [hβ] at h5; cases h5
        | some gc => rw [hβ] at h5; cases h5; exact .inl ⟨gc.2, rfl⟩
      · exact .inr (r4 g h5))
    ⟨by omega, rfl, fun h => by omega⟩
    (fun hE => (hfit _ _ _ (hden _ (DenCs.mono (fun _ => immOf.ev hE) (fun _ off => immOf.cell hE off) _ _ w2))).1)
  refine hK v' _ w' this.1 this.2 ⟨.row (ver + 2) e 1 ((l ++ s.data.toList).map bD), by rw [List.getElem?_set_self hlt], Nat.le_refl _, fun _ => ?_⟩
  rw [setE_same]
  exact (hfit M β (immOf S B (M.set i (.row (ver + 2) e 1 ((l ++ s.data.toList).map bD))) (setE β i (envOf v')) w') (hden _ (DenCs.mono (fun _ => immOf.ev this.1) (fun _ off => immOf.cell this.1 off) _ _ w2))).2.1
end
section
variable {P : Program} {ops : Array Oper} {N : Nat} {K : AS → Prop} {o : Oper} {r : List Oper} {fo fo' : Option (List Nat)} {M M' : List AB} {F : List (Nat × AV)} {dt : Tmp} {tab : List (Nat × TE)} {out : AV}
theorem r_append_str (ht : TyTab P tab) {T U e : Nat} {ee : TE} {x y : Operand} {i ver : Nat} {l : List UInt8} {s : ByteArray} (hg : o.guard = none) (ho : o.op = .call { callee := .builtin .append, args := #[x, y], argTypes := #[T, U] }) (hT : elemOf_ tab T = some (e, ee)) (he : (P.info? e).map (fun i => (i.zero, i.size, i.bytes)) = some (some (.int .u8 0), 1, 1)) (hU : kindAt tab U = some .str)
    (hx : aval (look F) x = .row i ver) (hM : M[i]? = some (.row ver e 1 (l.map bD))) (hy : aval (look F) y = .val (.string s)) (hdd : o.dst = some dt) (hd : dstB o.dst N = true) (hb : l.length + s.size ≤ 140737488355328) (hp : popF fo 2 = some fo')
    (k : RunX P ops N K r fo' (M.set i (.row (ver + 2) e 1 ((l ++ s.data.toList).map bD))) ((dt, .row i (ver + 2)) :: F)) : RunX P ops N K (o :: r) fo M F :=
  RunX.mk (fun _ k => Run.eff hd (StepG.plain hg (astep_append_str ht ho hT he hU hx hM hy hb)) (by rw [put_eq hdd]; exact k)) hp k
end
end Go.Proofs.YtbjinibmkkmhkaaDoor

/- The engine, part 23: closures; calls that hand back own memory. -/
namespace Go.Proofs.YtbjinibmkkmhkaaDoor
open Go Go.RowKit

/-- How a call finds its function: by name, or by a closure in a slot. -/
def Goes (P : Program) (o : Oper) (ρ : Operand → AV) (f : FuncId) (as : List AV) : Prop :=
  ∀ (M : List AB) (β : Env) (imm : Nat → Prop) (a : Act) (w : World), (∀ x ∈ o.op.operands, AVsat M β w imm (ρ x) (a.eval x)) → ∃ vs : Array Value, (execOp a.eval o).run P w = .ok (.enter f vs) w ∧ AVsats M β w imm as vs.toList
section
variable {P : Program} {o : Oper} {M : List AB} {ρ : Operand → AV}
end
mutual
theorem free_ren (s : Nat → Nat) : ∀ x : AV, x.free = true → x.ren s = x
  | .any, _ => rfl
  | .val _, _ => rfl
  | .sl _ _, _ => rfl
  | .ub _ _, _ => rfl
  | .pr _, _ => rfl
  | .vw _ _ _, h => by cases h
  | .ptr _ _, h => by cases h
  | .row _ _, h => by cases h
  | .eptr _ _ _ _, h => by cases h
  | .dptr l, h => by rw [AV.ren, frees_ren s l (by rw [AV.free] at h; exact h)]
  | .agg l, h => by rw [AV.ren, frees_ren s l (by rw [AV.free] at h; exact h)]
  | .tup l, h => by rw [AV.ren, frees_ren s l (by rw [AV.free] at h; exact h)]
  | .cnd c x, h => by rw [AV.ren, free_ren s x (by rw [AV.free] at h; exact h)]
  | .cl f l, h => by rw [AV.ren, frees_ren s l (by rw [AV.free] at h; exact h)]
  | .alt x y, h => by
    rw [AV.free, Bool.and_eq_true] at h
    rw [AV.ren, free_ren s x h.1, free_ren s y h.2]
theorem frees_ren (s : Nat → Nat) : ∀ l : List AV, AV.frees l = true → AV.rens s l = l
  | [], _ => rfl
  | x :: l, h => by
    rw [AV.frees, Bool.and_eq_true] at h
    rw [AV.rens, free_ren s x h.1, frees_ren s l h.2]
end
mutual
theorem free_under (n : Nat) : ∀ x : AV, x.free = true → x.under n = true
  | .any, _ => rfl
  | .val _, _ => rfl
  | .sl _ _, _ => rfl
  | .ub _ _, _ => rfl
  | .pr _, _ => rfl
  | .vw _ _ _, h => by cases h
  | .ptr _ _, h => by cases h
  | .row _ _, h => by cases h
  | .eptr _ _ _ _, h => by cases h
  | .dptr l, h => by rw [AV.under]; exact frees_under n l (by rw [AV.free] at h; exact h)
  | .agg l, h => by rw [AV.under]; exact frees_under n l (by rw [AV.free] at h; exact h)
  | .tup l, h => by rw [AV.under]; exact frees_under n l (by rw [AV.free] at h; exact h)
  | .cnd c x, h => by rw [AV.under]; exact free_under n x (by rw [AV.free] at h; exact h)
  | .cl f l, h => by rw [AV.under]; exact frees_under n l (by rw [AV.free] at h; exact h)
  | .alt x y, h => by
    rw [AV.free, Bool.and_eq_true] at h
    rw [AV.under, free_under n x h.1, free_under n y h.2]; rfl
theorem frees_under (n : Nat) : ∀ l : List AV, AV.frees l = true → AV.unders n l = true
  | [], _ => rfl
  | x :: l, h => by
    rw [AV.frees, Bool.and_eq_true] at h
    rw [AV.unders, free_under n x h.1, frees_under n l h.2]; rfl
end
section
variable {P : Program} {ops : Array Oper} {N : Nat} {K : AS → Prop} {o : Oper} {r : List Oper} {fo fo' : Option (List Nat)} {M M' : List AB} {F : List (Nat × AV)} {dt : Tmp} {tab : List (Nat × TE)} {out : AV}
end
end Go.Proofs.YtbjinibmkkmhkaaDoor

/- The engine, part 25: calls that only read own memory. -/
namespace Go.Proofs.YtbjinibmkkmhkaaDoor
open Go Go.RowKit

section
variable {P : Program} {o : Oper} {M : List AB} {ρ : Operand → AV}
theorem astep_mcall_ro {f : FuncId} {xs : Array Operand} {ts : Array TypeId} {M0 : List AB} {cargs : List AV} {res : AV} (σ : List Nat) (ho : o.op = .call { callee := .value (.func f), args := xs, argTypes := ts }) (hcall : Callable P f) (hc : MCalls P f M0 cargs M0 res)
    (hemb : EmbM M (nth σ) σ M0) (hnd : σ.Nodup) (hargs : Subs (xs.toList.map ρ) (AV.rens (nth σ) cargs)) (hu : (AV.unders σ.length cargs && M0.all (AB.under σ.length)) = true) (hM : setAll M σ (M0.map (AB.ren (nth σ))) = M) : AStep P o M ρ M (res.ren (nth σ)) := by
  have := astep_mcall σ ho hcall hc hemb hnd hargs rfl hu
  rwa [hM] at this
end
section
variable {P : Program} {ops : Array Oper} {N : Nat} {K : AS → Prop} {o : Oper} {r : List Oper} {fo fo' : Option (List Nat)} {M M' : List AB} {F : List (Nat × AV)} {dt : Tmp} {tab : List (Nat × TE)} {out : AV}
theorem r_mro {f : FuncId} {xs : Array Operand} {ts : Array TypeId} {M0 : List AB} {cargs : List AV} {res out : AV} (σ : List Nat) (hc : MCalls P f M0 cargs M0 res) (hcall : Callable P f) (hg : o.guard = none) (ho : o.op = .call { callee := .value (.func f), args := xs, argTypes := ts })
    (hemb : EmbM M (nth σ) σ M0) (hnd : σ.Nodup) (hargs : Subs (xs.toList.map (aval (look F))) (AV.rens (nth σ) cargs)) (hu : (AV.unders σ.length cargs && M0.all (AB.under σ.length)) = true)
    (hM' : setAll M σ (M0.map (AB.ren (nth σ))) = M) (hr : nf (res.ren (nth σ)) = some out) (hdd : o.dst = some dt) (hd : dstB o.dst N = true) (hp : popF fo 1 = some fo') (k : RunX P ops N K r fo' M ((dt, out) :: F)) : RunX P ops N K (o :: r) fo M F :=
  RunX.mk (fun _ k => Run.quiet hd (StepG.plain hg (astep_mcall_ro σ ho hcall hc hemb hnd hargs hu hM')) (by rw [put_eq hdd, nf_eq hr]; exact k)) hp k
theorem r_mro_cnd {j : Nat} {want c0 : Bool} {g : Tmp} {f : FuncId} {xs : Array Operand} {ts : Array TypeId} {M0 : List AB} {cargs : List AV} {res out : AV} (σ : List Nat) (hc : c0 = true → MCalls P f M0 cargs M0 res) (hcall : Callable P f) (hg : o.guard = some (j, want)) (hj : dstOf ops j = some g)
    (hF : guardOf want (look F g) = some c0) (ho : o.op = .call { callee := .value (.func f), args := xs, argTypes := ts }) (hcs : c0 = true → condsOf (look F) o.op.operands.toList = true)
    (hemb : EmbM M (nth σ) σ M0) (hnd : σ.Nodup) (hargs : Subs (xs.toList.map (aval fun t => strip (look F t))) (AV.rens (nth σ) cargs)) (hu : (AV.unders σ.length cargs && M0.all (AB.under σ.length)) = true)
    (hM' : setAll M σ (M0.map (AB.ren (nth σ))) = M) (hr : nf (res.ren (nth σ)) = some out) (hdd : o.dst = some dt) (hd : dstB o.dst N = true) (hp : popF fo 1 = some fo') (k : RunX P ops N K r fo' M ((dt, .cnd c0 out) :: F)) : RunX P ops N K (o :: r) fo M F :=
  RunX.mk (fun _ k => Run.quiet hd (StepG.cnd hg hj hF hcs fun h => astep_mcall_ro σ ho hcall (hc h) hemb hnd hargs hu hM') (by rw [put_eq hdd, nf_eq hr]; exact k)) hp k
end
end Go.Proofs.YtbjinibmkkmhkaaDoor
