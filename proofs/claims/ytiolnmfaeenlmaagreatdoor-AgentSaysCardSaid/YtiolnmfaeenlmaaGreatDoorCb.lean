import Derived.Test.YtiolnmfaeenlmaaGreatDoorZ
/- The engine, part 22: append of a string onto an own row of bytes. -/
namespace Go.Proofs.YtiolnmfaeenlmaaGreatDoor
open Go Go.RowKit

section
variable {P : Program} {o : Oper} {M M' : List AB} {ρ : Operand → AV} {out : AV} {tab : List (Nat × TE)}
/-- append of a string onto an own row of bytes. -/
theorem run_append_str_c {w : World} (t u ty e : TypeId) (i : TypeInfo) (ht : P.underlying t = some (.slice e)) (hu : P.underlying u = some .string) (hi : P.info? e = some i) (hz : i.zero = some (.int .u8 0)) (hsize : i.size = 1) (hby : i.bytes = 1)
    (v : Value) (n : Nat) (xs : List Value) {q : Nat} (hown : ownsC w e 1 q v n xs) (s : ByteArray) (h63 : n + s.size ≤ maxLen) (hbytes : n + s.size ≤ 140737488355328) :
    ∃ v' w', (Builtin.append_ #[t, u] ty #[v, .string s]).run P w = .ok v' w' ∧ ownsC w' e 1 q v' (n + s.size) (xs ++ Lib.strCells s) ∧ w.grownBy w' v.ownBlock ∧ (v'.ownBlock = v.ownBlock ∨ ∀ g, v'.ownBlock = some g → w.heap.size ≤ g) := by
  have hsl := Lib.strCells_length s
  rcases hown.2 with ⟨rfl, rfl⟩ | ⟨g, cap, cur, rfl, hg, hnc, hcm, hcs, htake⟩
  · obtain ⟨v', w', h1, h2, h3, h4⟩ := Lib.run_append_own_string (P := P) w w.heap.size t u ty e i ht hu hi hz hsize hby (.slice none 0 0) 0 xs ⟨hown.1, .inl ⟨rfl, rfl⟩⟩ s h63 hbytes (Nat.le_refl _)
    refine ⟨v', w', h1, ⟨h2.1, ?_⟩, h3, ?_⟩
    · rcases h2.2 with h | ⟨g, cap, cur, k1, _, k2, k3, k4, k5, k6⟩
      · exact .inl h
      · exact .inr ⟨g, cap, cur, k1, .of0 k2, k3, k4, k5, k6⟩
    · rcases h2.2 with ⟨h, _⟩ | ⟨g, cap, cur, k1, k0, _⟩
      · exact .inl (by rw [h])
      · exact .inr fun g' hg' => by rw [k1] at hg'; simp [Value.ownBlock] at hg'; omega
  · have hsmall : n + s.size ≤ 9223372036854775807 := by simp only [maxLen] at h63; omega
    have hxl : xs.length = n := by simpa using hown.1
    have hlen : (xs ++ Lib.strCells s).length = (n + s.size) * 1 := by rw [List.length_append, hxl, hsl, Nat.mul_one]
    have hcs' : cur.size = cap := by simpa using hcs
    by_cases hroom : n + s.size ≤ cap
    · obtain ⟨fz, hg1, hg2⟩ := hg
      have hf := Lib.run_firstCells_string (P := P) w 1 s
      have hst := run_storeCells_c P g n e fz (Lib.strCells s) 0 cur w hg1 (fun j h1 h2 => hg2.from_ j (by omega) h2) (by rw [hsl]; omega) (Lib.strCells_oneCell s)
      simp only [Nat.add_zero, hsl] at hst
      refine ⟨.slice (some ⟨g, 0, none⟩) (n + s.size) cap, w.setRow g (cur.toList.take n ++ Lib.strCells s ++ cur.toList.drop (n + s.size)).toArray, ?_, ⟨hlen, .inr ⟨g, cap, _, rfl, ⟨fz, setRow_heap w g cur _ e _ hg1, ?_⟩, hroom, hcm, ?_, ?_⟩⟩, ⟨rfl, rfl, rfl, by simp, fun k _ hk => setRow_other w g k _ (fun e => hk (by simp [Value.ownBlock, e]))⟩, Or.inl rfl⟩
      · simp [Builtin.append_, run_underlying ht, run_underlying hu, sizeOf, typeInfo, hi, hsize, Builtin.lenOf, hroom, hf, Addr.add_lit, hst]
      · refine hg2.mono rfl (by omega) ?_
        simp only [List.size_toArray, List.length_append, List.length_take, List.length_drop, Array.length_toList, hsl]
        omega
      · simp only [List.size_toArray, List.length_append, List.length_take, List.length_drop, Array.length_toList, hsl]
        omega
      · have ht' : cur.toList.take n = xs := by simpa using htake
        rw [ht', ← hlen]
        exact List.take_left
    · have holds : ∀ j u, xs[j]? = some u → w.cell? ((⟨g, 0, none⟩ : Addr).add j) = some u := hown.cells (g := g) rfl
      have hr := Lib.run_append_grow_string (P := P) w t u ty e i (.int .u8 0) ht hu hi hz ⟨g, 0, none⟩ n cap xs (by rw [hsize]; simpa using hxl) holds s (by omega) (by omega) (by rw [hby]; exact growslice_fits (by omega) (by omega))
      have hge := grownCap_ge w (n + s.size) cap e
      have hcm2 : grownCap w (n + s.size) cap e ≤ maxLen := grownCap_le_maxLen w (n + s.size) cap e h63
      refine ⟨_, _, hr, ⟨hlen, .inr ⟨w.heap.size, _, _, rfl, .of0 (heap_alloc_new w.drew _), hge, hcm2, ?_, ?_⟩⟩, ⟨rfl, rfl, rfl, by simp, fun k hk _ => heap_alloc_old w.drew _ hk⟩, .inr fun g' hg' => by simp [Value.ownBlock] at hg'; omega⟩
      · have hz1 : (Value.int IntKind.u8 0).cells.size = 1 := rfl
        simp only [Array.size_append, List.size_toArray, size_zeroCells, hz1, hxl, hsl]
        omega
      · simp only [Array.toList_append, List.append_assoc]
        rw [← List.append_assoc, ← hlen]
        exact List.take_left
theorem astep_append_str (ht : TyTab P tab) {T U e : Nat} {ee : TE} {x y : Operand} {i ver : Nat} {l : List UInt8} {s : ByteArray} (ho : o.op = .call { callee := .builtin .append, args := #[x, y], argTypes := #[T, U] }) (hT : elemOf_ tab T = some (e, ee)) (he : (P.info? e).map (fun i => (i.zero, i.size, i.bytes)) = some (some (.int .u8 0), 1, 1)) (hU : kindAt tab U = some .str)
    (hx : ρ x = .row i ver) (hM : M[i]? = some (.row ver e 1 (l.map bD))) (hy : ρ y = .val (.string s)) (hb : l.length + s.size ≤ 140737488355328) :
    AStep P o M ρ (M.set i (.row (ver + 2) e 1 ((l ++ s.data.toList).map bD))) (.row i (ver + 2)) := by
  intro S B β a w hm hs K Q hK
  have hlt : i < M.length := (List.getElem?_eq_some_iff.1 hM).1
  have h1 := hs x (by simp [ho, Op.operands, Call.operands])
  have h2 := hs y (by simp [ho, Op.operands, Call.operands])
  rw [hx] at h1; rw [hy] at h2
  have h2 : a.eval y = .string s := h2
  obtain ⟨h3, h4⟩ := row_val hm hM h1
  obtain ⟨xs0, w1, w2, w3⟩ := owns_of_ent (hm.ent i _ hM)
  rw [← h3] at w1 w3
  obtain ⟨hu, hee⟩ := elemOf_spec ht hT
  obtain ⟨ti, hi, he2⟩ := Option.map_eq_some_iff.1 he
  simp only [Prod.mk.injEq] at he2
  obtain ⟨hz, hsz, hby⟩ := he2
  rw [List.length_map] at w1
  obtain ⟨v', w', r1, r2, r3, r4⟩ := run_append_str_c (P := P) T U o.type e ti hu (kindAt_str ht hU) hi hz hsz hby _ _ xs0 w1 s (by simp only [maxLen]; omega) hb
  have hrun : (execOp a.eval o).run P w = .ok (.value v') w' := by
    simp [execOp, ho, resolve, invoke, builtin, h2, r1]
  unfold Oper.wp
  rw [hrun]
  have hfit : ∀ (M1 : List AB) (β1 : Env) (imm1 : Nat → Prop), DenCs w' imm1 ((l ++ s.data.toList).map bD) (xs0 ++ Lib.strCells s) → EntSat M1 β1 w' imm1 (envOf v') (.row (ver + 2) e 1 ((l ++ s.data.toList).map bD)) ∧ v' = rowVal (envOf v') ((l ++ s.data.toList).map bD).length ∧ (envOf v').map (·.1) = v'.ownBlock :=
    fun M1 β1 imm1 hd => ent_of_owns (by omega) r2 rfl (by rw [List.length_map, List.length_append, str_size]) (bD_all _) hd
  have hblk : ∀ g c, envOf v' = some (g, c) → v'.ownBlock = some g := by
    intro g c h
    rcases r2.2 with ⟨rfl, _⟩ | ⟨g', cap, cur, rfl, _⟩
    · cases h
    · simp [envOf] at h
      rw [← h.1]; rfl
  have hden : ∀ (imm1 : Nat → Prop), DenCs w' imm1 (l.map bD) xs0 → DenCs w' imm1 ((l ++ s.data.toList).map bD) (xs0 ++ Lib.strCells s) := fun imm1 h => by
    rw [List.map_append]
    exact h.append (DenCs_bytes w' imm1 s.data.toList)
  have := hm.set_ (w' := w') (ab' := .row (ver + 2) e 1 ((l ++ s.data.toList).map bD)) (x := envOf v') hM rfl r3.os r3.tape r3.output r3.size
    (fun b hb hne => r3.block b hb (fun e' => by
      rw [w3] at e'
      cases hβ : β i with
      | none => rw [hβ] at e'; cases e'
      | some gc => rw [hβ] at e'; cases e'; exact hne gc.2 hβ))
    (fun g c h => by
      have h5 := hblk g c h
      rcases r4 with r4 | r4
      · rw [r4, w3] at h5
        cases hβ : β i with
        | none => rw [hβ] at h5; cases h5
        | some gc => rw [hβ] at h5; cases h5; exact .inl ⟨gc.2, rfl⟩
      · exact .inr (r4 g h5))
    ⟨by omega, rfl, fun h => by omega⟩
    (fun hE => (hfit _ _ _ (hden _ (DenCs.mono (fun _ => immOf.ev hE) (fun _ off => immOf.cell hE off) _ _ w2))).1)
  refine hK v' _ w' this.1 this.2 ⟨.row (ver + 2) e 1 ((l ++ s.data.toList).map bD), by rw [List.getElem?_set_self hlt], Nat.le_refl _, fun _ => ?_⟩
  rw [setE_same]
  exact (hfit M β (immOf S B (M.set i (.row (ver + 2) e 1 ((l ++ s.data.toList).map bD))) (setE β i (envOf v')) w') (hden _ (DenCs.mono (fun _ => immOf.ev this.1) (fun _ off => immOf.cell this.1 off) _ _ w2))).2.1
end
section
variable {P : Program} {ops : Array Oper} {N : Nat} {K : AS → Prop} {o : Oper} {r : List Oper} {fo fo' : Option (List Nat)} {M M' : List AB} {F : List (Nat × AV)} {dt : Tmp} {tab : List (Nat × TE)} {out : AV}
theorem r_append_str (ht : TyTab P tab) {T U e : Nat} {ee : TE} {x y : Operand} {i ver : Nat} {l : List UInt8} {s : ByteArray} (hg : o.guard = none) (ho : o.op = .call { callee := .builtin .append, args := #[x, y], argTypes := #[T, U] }) (hT : elemOf_ tab T = some (e, ee)) (he : (P.info? e).map (fun i => (i.zero, i.size, i.bytes)) = some (some (.int .u8 0), 1, 1)) (hU : kindAt tab U = some .str)
    (hx : aval (look F) x = .row i ver) (hM : M[i]? = some (.row ver e 1 (l.map bD))) (hy : aval (look F) y = .val (.string s)) (hdd : o.dst = some dt) (hd : dstB o.dst N = true) (hb : l.length + s.size ≤ 140737488355328) (hp : popF fo 2 = some fo')
    (k : RunX P ops N K r fo' (M.set i (.row (ver + 2) e 1 ((l ++ s.data.toList).map bD))) ((dt, .row i (ver + 2)) :: F)) : RunX P ops N K (o :: r) fo M F :=
  RunX.mk (fun _ k => Run.eff hd (StepG.plain hg (astep_append_str ht ho hT he hU hx hM hy hb)) (by rw [put_eq hdd]; exact k)) hp k
end
end Go.Proofs.YtiolnmfaeenlmaaGreatDoor

/- The engine, part 23: closures; calls that hand back own memory. -/
namespace Go.Proofs.YtiolnmfaeenlmaaGreatDoor
open Go Go.RowKit

/-- How a call finds its function: by name, or by a closure in a slot. -/
def Goes (P : Program) (o : Oper) (ρ : Operand → AV) (f : FuncId) (as : List AV) : Prop :=
  ∀ (M : List AB) (β : Env) (imm : Nat → Prop) (a : Act) (w : World), (∀ x ∈ o.op.operands, AVsat M β w imm (ρ x) (a.eval x)) → ∃ vs : Array Value, (execOp a.eval o).run P w = .ok (.enter f vs) w ∧ AVsats M β w imm as vs.toList
section
variable {P : Program} {o : Oper} {M : List AB} {ρ : Operand → AV}
theorem goes_f {f : FuncId} {xs : Array Operand} {ts : Array TypeId} (hcall : Callable P f) (ho : o.op = .call { callee := .value (.func f), args := xs, argTypes := ts }) : Goes P o ρ f (xs.toList.map ρ) :=
  fun M β imm a w hs => ⟨xs.map a.eval, run_call hcall ho a w, by
    have := map_sat (l := xs.toList) fun x hx => hs x (mem_call ho hx)
    simpa using this⟩
theorem goes_cl {f : FuncId} {xs : Array Operand} {ts : Array TypeId} {t : Tmp} {caps : List AV} (hcall : Callable P f) (ho : o.op = .call { callee := .value (.tmp t), args := xs, argTypes := ts }) (ht : ρ (.tmp t) = .cl f caps) : Goes P o ρ f (xs.toList.map ρ ++ caps) :=
  fun M β imm a w hs => by
    have h1 := map_sat (l := xs.toList) fun x hx => hs x (mem_call ho hx)
    have h2 := hs (.tmp t) (by rw [ho]; simp [Op.operands, Call.operands])
    rw [ht] at h2
    obtain ⟨cs, h3, h4⟩ := h2
    refine ⟨xs.map a.eval ++ cs, ?_, by simpa using h1.append h4⟩
    have h5 := hcall (xs.map a.eval ++ cs) w
    simp [execOp, ho, resolve, h3, Deferred.ofValue, invoke, h5]
theorem astep_pcallx {f : FuncId} {as cargs : List AV} {res : AV} (hg : Goes P o ρ f as) (hc : PCalls P f cargs res) (hargs : Subs as cargs) (hfa : AV.frees cargs = true) (hfr : res.free = true) : AStep P o M ρ M res := by
  intro S B β a w hm hs K Q hK
  obtain ⟨vs, hrun, h1⟩ := hg M β _ a w hs
  unfold Oper.wp
  rw [hrun]
  have h3 : AVsats [] noE w (immOf S B M β w) cargs vs.toList := AVsats.free_ (fun _ h => h) (fun _ _ _ => rfl) _ _ hfa (hargs.sat h1)
  refine (hc (immOf S B M β w) w vs (fun b hb => hb.2.1) hm.gl h3).mono ?_
  rintro e w' ⟨v, rfl, hb, hv⟩
  exact hK v β w' (Ev.of_below hb) (hm.quiet hb) (AVsat.free_ (fun b hb' => fresh_imm hm hb hb') (fun _ _ _ => rfl) _ _ hfr hv)
theorem astep_mcallx {f : FuncId} {as : List AV} {M0 M1 : List AB} {cargs : List AV} {res : AV} (σ : List Nat) (hg : Goes P o ρ f as) (hc : MCalls P f M0 cargs M1 res)
    {M' : List AB} (τ : List Nat) (hemb : EmbM M (nth τ) σ M0) (hτ : τ.take σ.length = σ) (hnd : τ.Nodup) (hτl : τ.length = M1.length) (hnew : (τ.drop σ.length).all (fun i => Nat.ble M.length i) = true)
    (hMin : ∀ j, j < τ.length → M'[nth τ j]? = (M1[j]?).map (AB.ren (nth τ))) (hMout : ∀ i, i ∉ τ → M'[i]? = M[i]?) (hargs : Subs as (AV.rens (nth τ) cargs)) (hn : M0.length ≤ M1.length)
    (hu : (AV.unders σ.length cargs && M0.all (AB.under σ.length)) = true) : AStep P o M ρ M' (res.ren (nth τ)) := by
  intro S B β a w hm hs K Q hK
  rw [Bool.and_eq_true] at hu
  obtain ⟨hu1, hu2⟩ := hu
  have hlen := hemb.len
  have hσ : ∀ j i, σ[j]? = some i → nth τ j = i := fun j i h => nth_of (by
    have hj : j < σ.length := (List.getElem?_eq_some_iff.1 h).1
    rw [← hτ, List.getElem?_take, if_pos hj] at h
    exact h)
  obtain ⟨vs, hrun, h1⟩ := hg M β _ a w hs
  unfold Oper.wp
  rw [hrun]
  have h2 := hargs.sat h1
  -- the callee's frame
  have hM : ∀ j ab, M0[j]? = some ab → M[nth τ j]? = some (ab.ren (nth τ)) ∧ β (nth τ j) = (fun j => β (nth τ j)) j := fun j ab hj => by
    obtain ⟨i, k1, k2⟩ := hemb.at_ hj
    refine ⟨?_, rfl⟩
    rw [hσ j i k1]
    exact k2
  have hinj : ∀ j k, j < τ.length → k < τ.length → nth τ j = nth τ k → j = k := fun j k hj hk e => by
    have e1 := nth_of (List.getElem?_eq_getElem hj)
    have e2 := nth_of (List.getElem?_eq_getElem hk)
    rw [e1, e2] at e
    exact (List.getElem_inj hnd).1 e
  have hmem : ∀ i, i ∈ τ → ∃ j, j < τ.length ∧ nth τ j = i := fun i hi => by
    obtain ⟨j, hj, e⟩ := List.getElem_of_mem hi
    exact ⟨j, hj, nth_of (by rw [List.getElem?_eq_getElem hj, e])⟩
  have hin : ∀ j, j < τ.length → nth τ j ∈ τ ∧ τ[j]? = some (nth τ j) := fun j hj => by
    have e := nth_of (List.getElem?_eq_getElem hj)
    rw [e]
    exact ⟨List.getElem_mem hj, List.getElem?_eq_getElem hj⟩
  have hle : σ.length ≤ τ.length := by rw [hlen, hτl]; exact hn
  let β0 : Env := fun j => β (nth τ j)
  have hlive0 : ∀ b, live M0 β0 b → live M β b := fun b ⟨j, ab, c, k1, k2, k3⟩ => ⟨nth τ j, ab.ren (nth τ), c, (hM j ab k1).1, by rw [AB.ren_alive]; exact k2, k3⟩
  let S' : Nat → Prop := fun b => immOf S B M β w b ∨ live M0 β0 b
  have hi0 : ∀ b, immOf S B M β w b → immOf S' w.heap.size M0 β0 w b := fun b hb => ⟨.inl (.inl hb), hb.2.1, fun hl => hb.2.2 (hlive0 b hl)⟩
  have hm0 : MemSat S' w.heap.size M0 β0 w := by
    refine ⟨Nat.le_refl _, fun j k ab ab' g c c' k1 k2 k3 l1 l2 l3 => ?_, fun j ab hj => ?_, fun b hl => .inl (.inr hl), hm.gl.mono hi0 (fun _ _ _ => rfl)⟩
    · have e := hm.inj _ _ _ _ g c c' (hM j ab k1).1 (by rw [AB.ren_alive]; exact k2) k3 (hM k ab' l1).1 (by rw [AB.ren_alive]; exact l2) l3
      exact hinj j k (by have := (List.getElem?_eq_some_iff.1 k1).1; omega) (by have := (List.getElem?_eq_some_iff.1 l1).1; omega) e
    · exact ent_from hM hlen.symm hi0 (List.all_eq_true.1 hu2 ab (List.mem_of_getElem? hj)) (hm.ent _ _ (hM j ab hj).1)
  have hargs0 := rens_from hM hlen.symm hi0 cargs _ hu1 h2
  refine (hc S' w.heap.size β0 w vs hm0 hargs0).mono ?_
  rintro e w' ⟨v, β1, rfl, hE, hm1, hv⟩
  -- the caller's frame behind the call
  let β' : Env := fun i => if i ∈ τ then β1 (τ.idxOf i) else β i
  have hβin : ∀ j, j < τ.length → β' (nth τ j) = β1 j := fun j hj => by
    have e := nth_of (List.getElem?_eq_getElem hj)
    have h3 : τ.idxOf τ[j] = j := hnd.idxOf_getElem j hj
    show (if nth τ j ∈ τ then β1 (τ.idxOf (nth τ j)) else β (nth τ j)) = β1 j
    rw [if_pos (hin j hj).1, e, h3]
  have hβout : ∀ i, i ∉ τ → β' i = β i := fun i hi => if_neg hi
  have hM1 : ∀ j ab, M1[j]? = some ab → M'[nth τ j]? = some (ab.ren (nth τ)) ∧ β' (nth τ j) = β1 j := fun j ab hj => by
    have hlt : j < τ.length := by rw [hτl]; exact (List.getElem?_eq_some_iff.1 hj).1
    exact ⟨by rw [hMin j hlt, hj]; rfl, hβin j hlt⟩
  -- who is alive
  have hsplit : ∀ i ab c b, M'[i]? = some ab → ab.alive = true → β' i = some (b, c) → (∃ j ab1, j < τ.length ∧ nth τ j = i ∧ M1[j]? = some ab1 ∧ ab = ab1.ren (nth τ) ∧ ab1.alive = true ∧ β1 j = some (b, c)) ∨ (i ∉ τ ∧ M[i]? = some ab ∧ β i = some (b, c)) := by
    intro i ab c b k1 k2 k3
    by_cases hi : i ∈ τ
    · obtain ⟨j, hj, rfl⟩ := hmem i hi
      rw [hMin j hj] at k1
      rw [hβin j hj] at k3
      obtain ⟨ab1, k4, k5⟩ := Option.map_eq_some_iff.1 k1
      exact .inl ⟨j, ab1, hj, rfl, k4, k5.symm, by rw [← k5, AB.ren_alive] at k2; exact k2, k3⟩
    · rw [hMout i hi] at k1
      rw [hβout i hi] at k3
      exact .inr ⟨hi, k1, k3⟩
  have hnot0 : ∀ i ab c b, i ∉ τ → M[i]? = some ab → ab.alive = true → β i = some (b, c) → ¬ live M0 β0 b := by
    rintro i ab c b hi k1 k2 k3 ⟨j, ab0, c0, l1, l2, l3⟩
    have hj : j < τ.length := by have := (List.getElem?_eq_some_iff.1 l1).1; omega
    have := hm.inj i (nth τ j) ab _ b c c0 k1 k2 k3 (hM j ab0 l1).1 (by rw [AB.ren_alive]; exact l2) l3
    exact hi (this ▸ (hin j hj).1)
  have hEv : Ev M β w M' β' w' := by
    refine ⟨hE.os, hE.tape, hE.output, hE.size, fun b hb hl => hE.keep b hb fun x => hl (hlive0 b x), fun b => ?_, fun i ab hi => ?_⟩
    · rintro ⟨i, ab, c, k1, k2, k3⟩
      rcases hsplit i ab c b k1 k2 k3 with ⟨j, ab1, hj, _, l1, _, l2, l3⟩ | ⟨_, l1, l2⟩
      · rcases hE.new b ⟨j, ab1, c, l1, l2, l3⟩ with h3 | h3
        · exact .inl (hlive0 b h3)
        · exact .inr h3
      · exact .inl ⟨i, ab, c, l1, k2, l2⟩
    · by_cases his : i ∈ τ
      · obtain ⟨j, hj, rfl⟩ := hmem i his
        rcases Nat.lt_or_ge j σ.length with hjs | hjs
        · have h3 : M0[j]? = some M0[j] := List.getElem?_eq_getElem (by rw [← hlen]; exact hjs)
          obtain ⟨h4, _⟩ := hM j _ h3
          rw [h4] at hi; cases hi
          obtain ⟨ab1, h5, h6⟩ := hE.ent j _ h3
          obtain ⟨h7, h8⟩ := hM1 j ab1 h5
          exact ⟨_, h7, by rw [h8]; exact h6.ren _⟩
        · exfalso
          have h3 := (hin j hj).2
          have h4 : nth τ j ∈ τ.drop σ.length := by
            apply List.mem_of_getElem? (i := j - σ.length)
            rw [List.getElem?_drop, show σ.length + (j - σ.length) = j by omega]
            exact h3
          have h5 := Nat.le_of_ble_eq_true (List.all_eq_true.1 hnew _ h4)
          have h6 := (List.getElem?_eq_some_iff.1 hi).1
          omega
      · exact ⟨ab, by rw [hMout i his]; exact hi, by rw [hβout i his]; exact EvE.refl _ _⟩
  have himm : ∀ b, immOf S' w.heap.size M1 β1 w' b → immOf S B M' β' w' b := by
    rintro b ⟨k1, k2, k3⟩
    refine ⟨?_, k2, ?_⟩
    · rcases k1 with (h3 | h3) | h3
      · exact h3.1
      · exact hm.own b (hlive0 b h3)
      · exact .inr (Nat.le_trans hm.lo h3)
    · rintro ⟨i, ab, c, l1, l2, l3⟩
      rcases hsplit i ab c b l1 l2 l3 with ⟨j, ab1, hj, _, p1, _, p2, p3⟩ | ⟨p0, p1, p2⟩
      · exact k3 ⟨j, ab1, c, p1, p2, p3⟩
      · have hl : live M β b := ⟨i, ab, c, p1, l2, p2⟩
        rcases k1 with (h3 | h3) | h3
        · exact h3.2.2 hl
        · exact hnot0 i ab c b p0 p1 l2 p2 h3
        · have := hm.lt hl; omega
  have hmem' : MemSat S B M' β' w' := by
    refine ⟨Nat.le_trans hm.lo hE.size, fun i k ab ab' g c c' k1 k2 k3 l1 l2 l3 => ?_, fun i ab hi => ?_, fun b hl => (hEv.new b hl).elim (hm.own b) (fun hb => .inr (Nat.le_trans hm.lo hb)), GL.ev hEv hm.gl⟩
    · have cross : ∀ (j : Nat) (ab1 : AB) (c c' : Nat) (i : Nat) (ab : AB), M1[j]? = some ab1 → ab1.alive = true → β1 j = some (g, c) → i ∉ τ → M[i]? = some ab → ab.alive = true → β i = some (g, c') → False := by
        intro j ab1 c c' i ab p1 p2 p3 q0 q1 q2 q3
        rcases hE.new g ⟨j, ab1, c, p1, p2, p3⟩ with h3 | h3
        · exact hnot0 i ab c' g q0 q1 q2 q3 h3
        · have := hm.lt ⟨i, ab, c', q1, q2, q3⟩; omega
      rcases hsplit i ab c g k1 k2 k3 with ⟨j, ab1, hj, rfl, p1, _, p2, p3⟩ | ⟨p0, p1, p2⟩ <;> rcases hsplit k ab' c' g l1 l2 l3 with ⟨j', ab1', hj', rfl, q1, _, q2, q3⟩ | ⟨q0, q1, q2⟩
      · rw [hm1.inj j j' ab1 ab1' g c c' p1 p2 p3 q1 q2 q3]
      · exact (cross j ab1 c c' k ab' p1 p2 p3 q0 q1 l2 q2).elim
      · exact (cross j' ab1' c' c i ab q1 q2 q3 p0 p1 k2 p2).elim
      · exact hm.inj i k ab ab' g c c' p1 k2 p2 q1 l2 q2
    · by_cases his : i ∈ τ
      · obtain ⟨j, hj, rfl⟩ := hmem i his
        rw [hMin j hj] at hi
        obtain ⟨ab1, h5, h6⟩ := Option.map_eq_some_iff.1 hi
        rw [← h6, hβin j hj]
        exact ent_to hM1 himm (hm1.ent j ab1 h5)
      · rw [hMout i his] at hi
        rw [hβout i his]
        refine EntSat.ev hEv (fun g c hg ha => hE.keep g (hm.lt ⟨i, ab, c, hi, ha, hg⟩) (hnot0 i ab c g his hi ha hg)) (hm.ent i ab hi)
  exact hK v β' w' hEv hmem' (ren_to hM1 himm res v hv)
end
/-- A contract from a walk, own memory handed in. -/
theorem mcalls_ofn {P : Program} {f : FuncId} {fn : Func} {c : Code} {M0 M1 : List AB} {args : List AV} {res : AV} {N : Nat} {F : List (Nat × AV)} (hf : P.funcs[f]? = some fn) (hN : fn.ntmps = N) (hb : fn.body = some c) (hF : nfF (argF 0 args) = some F) (hok : Nat.ble args.length N = true) (n : Nat) (hn : M0.length ≤ n)
    (h : ∀ S w β, AWp ⟨P, N, S, w, M0, β, none⟩ c ⟨M0, F⟩ (retM P fn n M1 res)) : MCalls P f M0 args M1 res := by
  intro S B β w vs hm hvs
  have hlen := Nat.le_of_ble_eq_true hok
  have hvl := hvs.len
  subst hN
  have hF := nfF_eq hF
  subst hF
  let S' : Nat → Prop := fun b => S b ∨ B ≤ b
  have hi0 : ∀ b, immOf S B M0 β w b → immOf S' w.heap.size M0 β w b := fun b hb => ⟨.inl hb.1, hb.2⟩
  have hm0 : MemSat S' w.heap.size M0 β w := ⟨Nat.le_refl _, hm.inj, fun i ab hi => by
    have he := hm.ent i ab hi
    cases ab with
    | gone => trivial
    | iter _ _ => exact he
    | rowo v e k pre mo l =>
      obtain ⟨q1, q2, g, cap, cs, q3, q4, q5, q6, q7, c1, c2, c3, q8, q9, q10⟩ := he
      exact ⟨q1, q2, g, cap, cs, q3, q4, q5, q6, q7, c1, c2, c3, q8, DenCs.mono hi0 (fun _ _ _ => rfl) _ _ q9, q10.mono (Ev.refl _ _ _) hi0 (fun _ _ _ => rfl)⟩
    | box e cells => obtain ⟨g, c, cs, k1, k2, k3⟩ := he; exact ⟨g, c, cs, k1, k2, k3.mono (Ev.refl _ _ _) hi0 (fun _ _ _ => rfl)⟩
    | row v e k es =>
      refine ⟨he.1, ?_⟩
      rcases he.2 with h0 | ⟨g, cap, cs, k1, k2, k3, k4, k5, k6⟩
      · exact .inl h0
      · exact .inr ⟨g, cap, cs, k1, k2, k3, k4, k5, DenCs.mono hi0 (fun _ _ _ => rfl) _ _ k6⟩, fun b hl => .inl (hm.own b hl), hm.gl.mono hi0 (fun _ _ _ => rfl)⟩
  have hs0 : Sat ⟨P, fn.ntmps, S', w, M0, β, none⟩ ⟨M0, argF 0 args⟩ { tmps := vs ++ Array.replicate (fn.ntmps - vs.size) undef, defers := [] } w :=
    ⟨by simp at hvl ⊢; omega, trivial, β, hm0, Ev.refl _ _ _, fun d => argF_satM (AVsats.mono (Ev.refl _ _ _) hi0 (fun _ _ _ => rfl) _ _ hvs) d⟩
  refine calls_of_awp (cx := ⟨P, fn.ntmps, S', w, M0, β, none⟩) rfl hf hb (h S' w β) hs0 fun e s' a' w' ⟨he, hM1, hu, xs, hr, hsub⟩ ⟨h1, _, β', h3, h4, h5⟩ => ⟨he, fun _ => ?_⟩
  obtain ⟨vs', h6, h7⟩ := run_retWs (P := P) (n := n) h3 h5 hr
  subst hM1
  have himm : ∀ b, immOf S' w.heap.size (s'.M.take n) β' w' b → immOf S B (s'.M.take n) β' w' b := fun b hb => ⟨hb.1.elim id (fun h => .inr (Nat.le_trans hm.lo h)), hb.2⟩
  have hmc := mem_cut h3 hu
  have hm1 : MemSat S B (s'.M.take n) β' w' := ⟨Nat.le_trans hm.lo h4.size, hmc.inj, fun i ab hi => by
    have he := hmc.ent i ab hi
    cases ab with
    | gone => trivial
    | iter _ _ => exact he
    | rowo v e k pre mo l =>
      obtain ⟨q1, q2, g, cap, cs, q3, q4, q5, q6, q7, c1, c2, c3, q8, q9, q10⟩ := he
      exact ⟨q1, q2, g, cap, cs, q3, q4, q5, q6, q7, c1, c2, c3, q8, DenCs.mono himm (fun _ _ _ => rfl) _ _ q9, q10.mono (Ev.refl _ _ _) himm (fun _ _ _ => rfl)⟩
    | box e cells => obtain ⟨g, c, cs, k1, k2, k3⟩ := he; exact ⟨g, c, cs, k1, k2, k3.mono (Ev.refl _ _ _) himm (fun _ _ _ => rfl)⟩
    | row v e k es =>
      refine ⟨he.1, ?_⟩
      rcases he.2 with h0 | ⟨g, cap, cs, k1, k2, k3, k4, k5, k6⟩
      · exact .inl h0
      · exact .inr ⟨g, cap, cs, k1, k2, k3, k4, k5, DenCs.mono himm (fun _ _ _ => rfl) _ _ k6⟩, fun b hl => (hmc.own b hl).elim id (fun h => .inr (Nat.le_trans hm.lo h)), hmc.gl.mono himm (fun _ _ _ => rfl)⟩
  have hEv : Ev M0 β w (s'.M.take n) β' w' := ⟨h4.os, h4.tape, h4.output, h4.size, h4.keep, fun b hb => h4.new b (live_cut hb), fun i ab hi => by
    obtain ⟨ab', k1, k2⟩ := h4.ent i ab hi
    exact ⟨ab', by rw [List.getElem?_take_of_lt (Nat.lt_of_lt_of_le (List.getElem?_eq_some_iff.1 hi).1 hn)]; exact k1, k2⟩⟩
  have h8 := AVsats.mono (Ev.refl _ _ _) himm (fun _ _ _ => rfl) _ _ h7
  have h9 : ∃ v, (results fn a'.tmps).run P w' = .ok v w' ∧ AVsat (s'.M.take n) β' w' (immOf S B (s'.M.take n) β' w') (tupOf xs) v := by
    rw [results_eq]
    refine ⟨if h : vs'.toArray.size = 1 then vs'.toArray[0] else .tuple vs'.toArray, by simp [h6], ?_⟩
    have hl := h8.len
    match xs, vs', hl, h8 with
    | [], [], _, h8 => exact ⟨#[], rfl, h8⟩
    | [x], [v], _, ⟨_, _, e, h3, _⟩ => cases e; exact h3
    | x :: y :: xs, v :: u :: vs, _, h8 => exact ⟨_, rfl, h8⟩
  obtain ⟨v, h10, h11⟩ := h9
  have h12 : ∃ v, (results fn a'.tmps).run P w' = .ok v w' ∧ ∃ v' β'', Ending.returned v = .returned v' ∧ Ev M0 β w (s'.M.take n) β'' w' ∧ MemSat S B (s'.M.take n) β'' w' ∧ AVsat (s'.M.take n) β'' w' (immOf S B (s'.M.take n) β'' w') res v' :=
    ⟨v, h10, v, β', rfl, hEv, hm1, hsub _ _ _ _ _ h11⟩
  exact h12
mutual
theorem free_ren (s : Nat → Nat) : ∀ x : AV, x.free = true → x.ren s = x
  | .any, _ => rfl
  | .val _, _ => rfl
  | .sl _ _, _ => rfl
  | .ub _ _, _ => rfl
  | .pr _, _ => rfl
  | .vw _ _ _, h => by cases h
  | .ptr _ _, h => by cases h
  | .row _ _, h => by cases h
  | .eptr _ _ _ _, h => by cases h
  | .dptr l, h => by rw [AV.ren, frees_ren s l (by rw [AV.free] at h; exact h)]
  | .agg l, h => by rw [AV.ren, frees_ren s l (by rw [AV.free] at h; exact h)]
  | .tup l, h => by rw [AV.ren, frees_ren s l (by rw [AV.free] at h; exact h)]
  | .cnd c x, h => by rw [AV.ren, free_ren s x (by rw [AV.free] at h; exact h)]
  | .cl f l, h => by rw [AV.ren, frees_ren s l (by rw [AV.free] at h; exact h)]
  | .alt x y, h => by
    rw [AV.free, Bool.and_eq_true] at h
    rw [AV.ren, free_ren s x h.1, free_ren s y h.2]
theorem frees_ren (s : Nat → Nat) : ∀ l : List AV, AV.frees l = true → AV.rens s l = l
  | [], _ => rfl
  | x :: l, h => by
    rw [AV.frees, Bool.and_eq_true] at h
    rw [AV.rens, free_ren s x h.1, frees_ren s l h.2]
end
mutual
theorem free_under (n : Nat) : ∀ x : AV, x.free = true → x.under n = true
  | .any, _ => rfl
  | .val _, _ => rfl
  | .sl _ _, _ => rfl
  | .ub _ _, _ => rfl
  | .pr _, _ => rfl
  | .vw _ _ _, h => by cases h
  | .ptr _ _, h => by cases h
  | .row _ _, h => by cases h
  | .eptr _ _ _ _, h => by cases h
  | .dptr l, h => by rw [AV.under]; exact frees_under n l (by rw [AV.free] at h; exact h)
  | .agg l, h => by rw [AV.under]; exact frees_under n l (by rw [AV.free] at h; exact h)
  | .tup l, h => by rw [AV.under]; exact frees_under n l (by rw [AV.free] at h; exact h)
  | .cnd c x, h => by rw [AV.under]; exact free_under n x (by rw [AV.free] at h; exact h)
  | .cl f l, h => by rw [AV.under]; exact frees_under n l (by rw [AV.free] at h; exact h)
  | .alt x y, h => by
    rw [AV.free, Bool.and_eq_true] at h
    rw [AV.under, free_under n x h.1, free_under n y h.2]; rfl
theorem frees_under (n : Nat) : ∀ l : List AV, AV.frees l = true → AV.unders n l = true
  | [], _ => rfl
  | x :: l, h => by
    rw [AV.frees, Bool.and_eq_true] at h
    rw [AV.unders, free_under n x h.1, frees_under n l h.2]; rfl
end
section
variable {P : Program} {ops : Array Oper} {N : Nat} {K : AS → Prop} {o : Oper} {r : List Oper} {fo fo' : Option (List Nat)} {M M' : List AB} {F : List (Nat × AV)} {dt : Tmp} {tab : List (Nat × TE)} {out : AV}
/-- A call of a closure by contract. -/
theorem r_callv {f : FuncId} {xs : Array Operand} {ts : Array TypeId} {t : Tmp} {cargs caps : List AV} {res : AV} (hc : PCalls P f cargs res) (hcall : Callable P f) (hg : o.guard = none) (ho : o.op = .call { callee := .value (.tmp t), args := xs, argTypes := ts }) (ht : look F t = .cl f caps)
    (hargs : Subs (xs.toList.map (aval (look F)) ++ caps) cargs) (hfr : (AV.frees cargs && res.free) = true) (hdd : o.dst = some dt) (hd : dstB o.dst N = true) (hp : popF fo 1 = some fo') (k : RunX P ops N K r fo' M ((dt, res) :: F)) : RunX P ops N K (o :: r) fo M F := by
  rw [Bool.and_eq_true] at hfr
  exact RunX.mk (fun _ k => Run.quiet hd (StepG.plain hg (astep_pcallx (goes_cl hcall ho ht) hc hargs hfr.1 hfr.2)) (by rw [put_eq hdd]; exact k)) hp k
/-- A call that hands back own memory. -/
theorem r_rcall {f : FuncId} {xs : Array Operand} {ts : Array TypeId} {M1 M'' : List AB} {cargs : List AV} {res out : AV} (hc : MCalls P f [] cargs M1 res) (hcall : Callable P f) (hg : o.guard = none) (ho : o.op = .call { callee := .value (.func f), args := xs, argTypes := ts })
    (hargs : Subs (xs.toList.map (aval (look F))) cargs) (hfa : AV.frees cargs = true)
    (hM' : M ++ M1.map (AB.ren (nth (List.range' M.length M1.length))) = M'') (hr : nf (res.ren (nth (List.range' M.length M1.length))) = some out) (hdd : o.dst = some dt) (hd : dstB o.dst N = true) (hp : popF fo 2 = some fo') (k : RunX P ops N K r fo' M'' ((dt, out) :: F)) : RunX P ops N K (o :: r) fo M F := by
  subst hM'
  have hren : AV.rens (nth (List.range' M.length M1.length)) cargs = cargs := frees_ren _ _ hfa
  refine RunX.mk (fun _ k => Run.eff hd (StepG.plain hg (astep_mcallx [] (goes_f hcall ho) hc (List.range' M.length M1.length) trivial rfl List.nodup_range' (by simp) (by simp [List.all_eq_true, List.mem_range'_1]; intro x h1 _; exact h1) (fun j hj => ?_) (fun i hi => ?_) (by rw [hren]; exact hargs) (Nat.zero_le _) (by rw [Bool.and_eq_true]; exact ⟨frees_under _ _ hfa, rfl⟩))) (by rw [put_eq hdd, nf_eq hr]; exact k)) hp k
  · have hj' : j < M1.length := by simpa using hj
    have e2 : nth (List.range' M.length M1.length) j = M.length + j := nth_of (by rw [List.getElem?_range' hj']; simp)
    rw [e2, List.getElem?_append_right (by omega), Nat.add_sub_cancel_left, List.getElem?_map]
  · rcases Nat.lt_or_ge i M.length with h | h
    · exact List.getElem?_append_left h
    · have h2 : M.length + M1.length ≤ i := by
        simp only [List.mem_range'_1] at hi
        omega
      rw [List.getElem?_eq_none (by simp; omega), List.getElem?_eq_none (by omega)]
end
end Go.Proofs.YtiolnmfaeenlmaaGreatDoor

/- The engine, part 25: calls that only read own memory. -/
namespace Go.Proofs.YtiolnmfaeenlmaaGreatDoor
open Go Go.RowKit

section
variable {P : Program} {o : Oper} {M : List AB} {ρ : Operand → AV}
theorem astep_mcall_ro {f : FuncId} {xs : Array Operand} {ts : Array TypeId} {M0 : List AB} {cargs : List AV} {res : AV} (σ : List Nat) (ho : o.op = .call { callee := .value (.func f), args := xs, argTypes := ts }) (hcall : Callable P f) (hc : MCalls P f M0 cargs M0 res)
    (hemb : EmbM M (nth σ) σ M0) (hnd : σ.Nodup) (hargs : Subs (xs.toList.map ρ) (AV.rens (nth σ) cargs)) (hu : (AV.unders σ.length cargs && M0.all (AB.under σ.length)) = true) (hM : setAll M σ (M0.map (AB.ren (nth σ))) = M) : AStep P o M ρ M (res.ren (nth σ)) := by
  have := astep_mcall σ ho hcall hc hemb hnd hargs rfl hu
  rwa [hM] at this
end
section
variable {P : Program} {ops : Array Oper} {N : Nat} {K : AS → Prop} {o : Oper} {r : List Oper} {fo fo' : Option (List Nat)} {M M' : List AB} {F : List (Nat × AV)} {dt : Tmp} {tab : List (Nat × TE)} {out : AV}
theorem r_mro {f : FuncId} {xs : Array Operand} {ts : Array TypeId} {M0 : List AB} {cargs : List AV} {res out : AV} (σ : List Nat) (hc : MCalls P f M0 cargs M0 res) (hcall : Callable P f) (hg : o.guard = none) (ho : o.op = .call { callee := .value (.func f), args := xs, argTypes := ts })
    (hemb : EmbM M (nth σ) σ M0) (hnd : σ.Nodup) (hargs : Subs (xs.toList.map (aval (look F))) (AV.rens (nth σ) cargs)) (hu : (AV.unders σ.length cargs && M0.all (AB.under σ.length)) = true)
    (hM' : setAll M σ (M0.map (AB.ren (nth σ))) = M) (hr : nf (res.ren (nth σ)) = some out) (hdd : o.dst = some dt) (hd : dstB o.dst N = true) (hp : popF fo 1 = some fo') (k : RunX P ops N K r fo' M ((dt, out) :: F)) : RunX P ops N K (o :: r) fo M F :=
  RunX.mk (fun _ k => Run.quiet hd (StepG.plain hg (astep_mcall_ro σ ho hcall hc hemb hnd hargs hu hM')) (by rw [put_eq hdd, nf_eq hr]; exact k)) hp k
theorem r_mro_cnd {j : Nat} {want c0 : Bool} {g : Tmp} {f : FuncId} {xs : Array Operand} {ts : Array TypeId} {M0 : List AB} {cargs : List AV} {res out : AV} (σ : List Nat) (hc : c0 = true → MCalls P f M0 cargs M0 res) (hcall : Callable P f) (hg : o.guard = some (j, want)) (hj : dstOf ops j = some g)
    (hF : guardOf want (look F g) = some c0) (ho : o.op = .call { callee := .value (.func f), args := xs, argTypes := ts }) (hcs : c0 = true → condsOf (look F) o.op.operands.toList = true)
    (hemb : EmbM M (nth σ) σ M0) (hnd : σ.Nodup) (hargs : Subs (xs.toList.map (aval fun t => strip (look F t))) (AV.rens (nth σ) cargs)) (hu : (AV.unders σ.length cargs && M0.all (AB.under σ.length)) = true)
    (hM' : setAll M σ (M0.map (AB.ren (nth σ))) = M) (hr : nf (res.ren (nth σ)) = some out) (hdd : o.dst = some dt) (hd : dstB o.dst N = true) (hp : popF fo 1 = some fo') (k : RunX P ops N K r fo' M ((dt, .cnd c0 out) :: F)) : RunX P ops N K (o :: r) fo M F :=
  RunX.mk (fun _ k => Run.quiet hd (StepG.cnd hg hj hF hcs fun h => astep_mcall_ro σ ho hcall (hc h) hemb hnd hargs hu hM') (by rw [put_eq hdd, nf_eq hr]; exact k)) hp k
end
end Go.Proofs.YtiolnmfaeenlmaaGreatDoor
